/-
  Lemmas for the proof: no statement of its own.
-/
import Derived.Test.YtcimlelkeppoiaaAlD
import Derived.Test.YtcimlelkeppoiaaCutA
import Derived.Test.YtcimlelkeppoiaaProg
import Derived.KernelRfl
set_option linter.unusedVariables false
set_option linter.unusedSimpArgs false
open Go Go.AL
namespace Go.Proofs.Ytcimlelkeppoiaa
set_option maxRecDepth 20000
inductive N where
  | nd (l : Nat) (q : Bool) (ks : List N)
instance : Inhabited N := ⟨.nd 0 false []⟩
def kcd : List (List CD) → CD
  | [] => .nil
  | x :: xs => .sl 1 (x :: xs)
mutual
def ncd : N → CD
  | .nd l q ks => .dp [.I l, .B q, kcd (cells ks)]
def cells : List N → List (List CD)
  | [] => []
  | k :: r => [ncd k] :: cells r
end
theorem cells_map : ∀ ks : List N, cells ks = ks.map fun k => [ncd k]
  | [] => rfl
  | k :: r => by simp only [cells, List.map_cons]; rw [cells_map r]
theorem cells_len (ks : List N) : (cells ks).length = ks.length := by rw [cells_map]; simp
theorem cells_app (a b : List N) : cells (a ++ b) = cells a ++ cells b := by simp [cells_map]
theorem cells_get {ks : List N} {i : Nat} (h : i < ks.length) : (cells ks).getD i [] = [ncd (nth ks i)] := by
  rw [cells_map]; exact getD_map (fun k => [ncd k]) ks i [] h
def grp : List N → Option N
  | [] => none
  | [k] => some k
  | ks => some (.nd 0 false ks)
def lin1 (ks : List N) : Option N := if ks.length < 3 then grp ks else some (.nd 0 true ks)
def ocd : Option N → CD
  | none => .np
  | some k => ncd k
def jn (l : List N) : Option N → List N
  | none => l
  | some k => l ++ [k]
theorem map_range_set {α : Type} (n i : Nat) (f : Nat → α) (v : α) : ((List.range n).map f).set i v = (List.range n).map fun a => if a = i then v else f a := by
  apply List.ext_getElem
  · simp
  · intro a h1 h2
    simp only [List.getElem_set, List.getElem_map, List.getElem_range]
    by_cases h : a = i
    · rw [if_pos h, if_pos h.symm]
    · rw [if_neg h, if_neg (fun h' => h h'.symm)]
end Go.Proofs.Ytcimlelkeppoiaa

open Go Go.AL Go.RowKit
namespace Go.Proofs.Ytcimlelkeppoiaa
set_option maxRecDepth 20000
noncomputable section
/- coinage/pqtree.join$1 -/
abbrev c47_1 : AC := .reg [⟨(some 2), .mv (.k (.B false)), none⟩] false
abbrev c47_2 : AC := .reg [⟨(some 3), .mv (.t 0), none⟩,
  ⟨(some 4), .pnil false (.t 3), none⟩,
  ⟨(some 2), .mv (.t 4), none⟩] false
abbrev c47_3 : AC := .seq c47_2 .ret
abbrev c47_4 : AC := .seq c47_1 c47_3
abbrev c47 : AC := c47_4
theorem code47 : fnCode Try.prog 47 = some (c47, [2], 5) := by kernel_rfl
/- coinage/pqtree.group -/
abbrev c21_1 : AC := .reg [⟨(some 2), .mv (.k (.c .np)), none⟩] false
abbrev c21_2 : AC := .reg [⟨(some 3), .mv (.t 0), none⟩,
  ⟨(some 4), .len (.t 3), none⟩] false
abbrev c21_3 : AC := .reg [⟨(some 6), .bin .eql (.t 4) (.k (.I 0)), none⟩,
  ⟨(some 5), .mv (.t 6), none⟩] false
abbrev c21_4 : AC := .reg [⟨(some 2), .mv (.k (.c .np)), none⟩] false
abbrev c21_5 : AC := .seq c21_4 .ret
abbrev c21_6 : AC := .reg [⟨(some 8), .bin .eql (.t 4) (.k (.I 1)), none⟩,
  ⟨(some 7), .mv (.t 8), none⟩] false
abbrev c21_7 : AC := .reg [⟨(some 9), .mv (.t 0), none⟩,
  ⟨(some 10), .iad 1 (.t 9) (.k (.I 0)), none⟩,
  ⟨(some 11), .ld none (.t 10), none⟩,
  ⟨(some 2), .mv (.t 11), none⟩] false
abbrev c21_8 : AC := .seq c21_7 .ret
abbrev c21_9 : AC := .cond (.t 7) c21_8 .skip
abbrev c21_10 : AC := .seq c21_6 c21_9
abbrev c21_11 : AC := .cond (.t 5) c21_5 c21_10
abbrev c21_12 : AC := .seq c21_3 c21_11
abbrev c21_13 : AC := .block 0 c21_12
abbrev c21_14 : AC := .seq c21_2 c21_13
abbrev c21_15 : AC := .reg [⟨(some 12), .mv (.t 0), none⟩,
  ⟨(some 13), .build [(.I 0), (.B false), (.c .nil)] [(2, 1, (.t 12))], none⟩,
  ⟨(some 14), .box 44 (some 3) (.t 13), none⟩,
  ⟨(some 2), .mv (.t 14), none⟩] false
abbrev c21_16 : AC := .seq c21_15 .ret
abbrev c21_17 : AC := .seq c21_14 c21_16
abbrev c21_18 : AC := .seq c21_1 c21_17
abbrev c21 : AC := c21_18
theorem code21 : fnCode Try.prog 21 = some (c21, [2], 15) := by kernel_rfl
/- coinage/pqtree.line -/
abbrev c39_1 : AC := .reg [⟨(some 2), .mv (.k (.c .np)), none⟩] false
abbrev c39_2 : AC := .reg [⟨(some 3), .mv (.t 0), none⟩,
  ⟨(some 4), .len (.t 3), none⟩,
  ⟨(some 5), .bin .lss (.t 4) (.k (.I 3)), none⟩] false
abbrev c39_3 : AC := .reg [⟨(some 6), .mv (.t 0), none⟩,
  ⟨(some 7), .call 21 [(.t 6)], none⟩,
  ⟨(some 2), .mv (.t 7), none⟩] false
abbrev c39_4 : AC := .seq c39_3 .ret
abbrev c39_5 : AC := .cond (.t 5) c39_4 .skip
abbrev c39_6 : AC := .seq c39_2 c39_5
abbrev c39_7 : AC := .reg [⟨(some 8), .mv (.t 0), none⟩,
  ⟨(some 9), .build [(.I 0), (.B false), (.c .nil)] [(1, 1, (.k (.B true))), (2, 1, (.t 8))], none⟩,
  ⟨(some 10), .box 44 (some 3) (.t 9), none⟩,
  ⟨(some 2), .mv (.t 10), none⟩] false
abbrev c39_8 : AC := .seq c39_7 .ret
abbrev c39_9 : AC := .seq c39_6 c39_8
abbrev c39_10 : AC := .seq c39_1 c39_9
abbrev c39 : AC := c39_10
theorem code39 : fnCode Try.prog 39 = some (c39, [2], 11) := by kernel_rfl
/- slices.Clone[[]*coinage/pqtree.node,*coinage/pqtree.node] -/
abbrev c33_1 : AC := .reg [⟨(some 2), .mv (.k (.c .nil)), none⟩] false
abbrev c33_2 : AC := .reg [⟨(some 3), .mv (.t 0), none⟩,
  ⟨(some 4), .isnil false (.t 3), none⟩] false
abbrev c33_3 : AC := .reg [⟨(some 2), .mv (.k (.c .nil)), none⟩] false
abbrev c33_4 : AC := .seq c33_3 .ret
abbrev c33_5 : AC := .cond (.t 4) c33_4 .skip
abbrev c33_6 : AC := .seq c33_2 c33_5
abbrev c33_7 : AC := .reg [⟨(some 5), .bslice 42 1 [], none⟩,
  ⟨(some 6), .mv (.t 0), none⟩,
  ⟨(some 7), .app 42 1 8 (.t 5) (.t 6), none⟩,
  ⟨(some 2), .mv (.t 7), none⟩] false
abbrev c33_8 : AC := .seq c33_7 .ret
abbrev c33_9 : AC := .seq c33_6 c33_8
abbrev c33_10 : AC := .seq c33_1 c33_9
abbrev c33 : AC := c33_10
theorem code33 : fnCode Try.prog 33 = some (c33, [2], 8) := by kernel_rfl
/- slices.Reverse[[]*coinage/pqtree.node,*coinage/pqtree.node] -/
abbrev c48_1 : AC := .reg [⟨(some 4), .mv (.t 0), none⟩,
  ⟨(some 5), .len (.t 4), none⟩,
  ⟨(some 6), .bin .sub (.t 5) (.k (.I 1)), none⟩,
  ⟨(some 2), .mv (.k (.I 0)), none⟩,
  ⟨(some 3), .mv (.t 6), none⟩] false
abbrev c48_2 : AC := .reg [⟨(some 7), .mv (.t 2), none⟩,
  ⟨(some 8), .mv (.t 3), none⟩,
  ⟨(some 9), .bin .lss (.t 7) (.t 8), none⟩] false
abbrev c48_3 : AC := .cond (.t 9) .skip (.exit 0)
abbrev c48_4 : AC := .seq c48_2 c48_3
abbrev c48_5 : AC := .regX (.first ⟨(some 14), .mv (.t 0), none⟩
  (.first ⟨(some 15), .mv (.t 2), none⟩
  (.first ⟨(some 16), .mv (.t 0), none⟩
  (.first ⟨(some 17), .mv (.t 3), none⟩
  (.first ⟨(some 18), .mv (.t 0), none⟩
  (.first ⟨(some 19), .mv (.t 3), none⟩
  (.first ⟨(some 20), .iad 1 (.t 18) (.t 19), none⟩
  (.first ⟨(some 22), .mv (.t 0), none⟩
  (.first ⟨(some 23), .mv (.t 2), none⟩
  (.first ⟨(some 24), .iad 1 (.t 22) (.t 23), none⟩
  (.fork ⟨(some 21), .ld none (.t 20), none⟩
  (.fork ⟨(some 25), .ld none (.t 24), none⟩
  (.first ⟨(some 26), .iad 1 (.t 14) (.t 15), none⟩
  (.fork ⟨none, .st none (.t 26) (.t 21), none⟩
  (.first ⟨(some 27), .iad 1 (.t 16) (.t 17), none⟩
  (.fork ⟨none, .st none (.t 27) (.t 25), none⟩
  .done
  .nope))
  .nope))
  .nope)
  (.fork ⟨(some 25), .ld none (.t 24), none⟩
  (.fork ⟨(some 21), .ld none (.t 20), none⟩
  (.first ⟨(some 26), .iad 1 (.t 14) (.t 15), none⟩
  (.fork ⟨none, .st none (.t 26) (.t 21), none⟩
  (.first ⟨(some 27), .iad 1 (.t 16) (.t 17), none⟩
  (.fork ⟨none, .st none (.t 27) (.t 25), none⟩
  .done
  .nope))
  .nope))
  .nope)
  .nope))))))))))))
abbrev c48_6 : AC := .block 1 c48_5
abbrev c48_7 : AC := .reg [⟨(some 10), .mv (.t 2), none⟩,
  ⟨(some 11), .bin .add (.t 10) (.k (.I 1)), none⟩,
  ⟨(some 12), .mv (.t 3), none⟩,
  ⟨(some 13), .bin .sub (.t 12) (.k (.I 1)), none⟩,
  ⟨(some 2), .mv (.t 11), none⟩,
  ⟨(some 3), .mv (.t 13), none⟩] false
abbrev c48_8 : AC := .seq c48_6 c48_7
abbrev c48_9 : AC := .seq c48_4 c48_8
abbrev c48_10 : AC := .loop c48_9
abbrev c48_11 : AC := .block 0 c48_10
abbrev c48_12 : AC := .seq c48_1 c48_11
abbrev c48 : AC := c48_12
theorem code48 : fnCode Try.prog 48 = some (c48, [], 28) := by kernel_rfl
/- coinage/pqtree.reversed -/
abbrev c38_1 : AC := .reg [⟨(some 2), .mv (.k (.c .nil)), none⟩] false
abbrev c38_2 : AC := .reg [⟨(some 4), .mv (.t 0), none⟩,
  ⟨(some 5), .call 33 [(.t 4)], none⟩,
  ⟨(some 3), .mv (.t 5), none⟩] false
abbrev c38_3 : AC := .reg [⟨(some 6), .mv (.t 3), none⟩,
  ⟨(some 7), .call 48 [(.t 6)], none⟩] false
abbrev c38_4 : AC := .reg [⟨(some 8), .mv (.t 3), none⟩,
  ⟨(some 2), .mv (.t 8), none⟩] false
abbrev c38_5 : AC := .seq c38_4 .ret
abbrev c38_6 : AC := .seq c38_3 c38_5
abbrev c38_7 : AC := .seq c38_2 c38_6
abbrev c38_8 : AC := .seq c38_1 c38_7
abbrev c38 : AC := c38_8
theorem code38 : fnCode Try.prog 38 = some (c38, [2], 9) := by kernel_rfl
/- slices.IndexFunc[[]*coinage/pqtree.node,*coinage/pqtree.node] -/
abbrev c44_1 : AC := .reg [⟨(some 4), .mv (.k (.I 0)), none⟩] false
abbrev c44_2 : AC := .reg [⟨(some 6), .mv (.t 0), none⟩,
  ⟨(some 7), .len (.t 6), none⟩,
  ⟨(some 8), .mv (.k (.I 0)), none⟩] false
abbrev c44_3 : AC := .reg [⟨(some 9), .bin .lss (.t 8) (.t 7), none⟩] false
abbrev c44_4 : AC := .cond (.t 9) .skip (.exit 0)
abbrev c44_5 : AC := .reg [⟨(some 10), .mv (.t 8), none⟩,
  ⟨(some 5), .mv (.t 10), none⟩] false
abbrev c44_6 : AC := .reg [⟨(some 11), .mv (.t 1), none⟩,
  ⟨(some 12), .mv (.t 0), none⟩,
  ⟨(some 13), .mv (.t 5), none⟩,
  ⟨(some 14), .iad 1 (.t 12) (.t 13), none⟩,
  ⟨(some 15), .ld none (.t 14), none⟩,
  ⟨(some 16), .callv (.t 11) [(.t 15)], none⟩] false
abbrev c44_7 : AC := .reg [⟨(some 17), .mv (.t 5), none⟩,
  ⟨(some 4), .mv (.t 17), none⟩] false
abbrev c44_8 : AC := .seq c44_7 .ret
abbrev c44_9 : AC := .cond (.t 16) c44_8 .skip
abbrev c44_10 : AC := .seq c44_6 c44_9
abbrev c44_11 : AC := .seq c44_5 c44_10
abbrev c44_12 : AC := .block 1 c44_11
abbrev c44_13 : AC := .reg [⟨(some 18), .bin .add (.t 8) (.k (.I 1)), none⟩,
  ⟨(some 8), .mv (.t 18), none⟩] false
abbrev c44_14 : AC := .seq c44_12 c44_13
abbrev c44_15 : AC := .seq c44_4 c44_14
abbrev c44_16 : AC := .seq c44_3 c44_15
abbrev c44_17 : AC := .loop c44_16
abbrev c44_18 : AC := .block 0 c44_17
abbrev c44_19 : AC := .seq c44_2 c44_18
abbrev c44_20 : AC := .reg [⟨(some 4), .mv (.k (.I (-1))), none⟩] false
abbrev c44_21 : AC := .seq c44_20 .ret
abbrev c44_22 : AC := .seq c44_19 c44_21
abbrev c44_23 : AC := .seq c44_1 c44_22
abbrev c44 : AC := c44_23
theorem code44 : fnCode Try.prog 44 = some (c44, [4], 19) := by kernel_rfl
/- slices.DeleteFunc[[]*coinage/pqtree.node,*coinage/pqtree.node] -/
abbrev c46_1 : AC := .reg [⟨(some 4), .mv (.k (.c .nil)), none⟩] false
abbrev c46_2 : AC := .reg [⟨(some 8), .mv (.t 0), none⟩,
  ⟨(some 9), .mv (.t 1), none⟩,
  ⟨(some 10), .call 44 [(.t 8), (.t 9)], none⟩,
  ⟨(some 5), .mv (.t 10), none⟩] false
abbrev c46_3 : AC := .reg [⟨(some 11), .mv (.t 5), none⟩,
  ⟨(some 12), .bin .eql (.t 11) (.k (.I (-1))), none⟩] false
abbrev c46_4 : AC := .reg [⟨(some 13), .mv (.t 0), none⟩,
  ⟨(some 4), .mv (.t 13), none⟩] false
abbrev c46_5 : AC := .seq c46_4 .ret
abbrev c46_6 : AC := .cond (.t 12) c46_5 .skip
abbrev c46_7 : AC := .seq c46_3 c46_6
abbrev c46_8 : AC := .reg [⟨(some 14), .mv (.t 5), none⟩,
  ⟨(some 15), .bin .add (.t 14) (.k (.I 1)), none⟩,
  ⟨(some 6), .mv (.t 15), none⟩] false
abbrev c46_9 : AC := .reg [⟨(some 16), .mv (.t 6), none⟩,
  ⟨(some 17), .mv (.t 0), none⟩,
  ⟨(some 18), .len (.t 17), none⟩,
  ⟨(some 19), .bin .lss (.t 16) (.t 18), none⟩] false
abbrev c46_10 : AC := .cond (.t 19) .skip (.exit 0)
abbrev c46_11 : AC := .seq c46_9 c46_10
abbrev c46_12 : AC := .reg [⟨(some 22), .mv (.t 0), none⟩,
  ⟨(some 23), .mv (.t 6), none⟩,
  ⟨(some 24), .iad 1 (.t 22) (.t 23), none⟩,
  ⟨(some 25), .ld none (.t 24), none⟩,
  ⟨(some 7), .mv (.t 25), none⟩] false
abbrev c46_13 : AC := .reg [⟨(some 26), .mv (.t 1), none⟩,
  ⟨(some 27), .mv (.t 7), none⟩,
  ⟨(some 28), .callv (.t 26) [(.t 27)], none⟩,
  ⟨(some 29), .not (.t 28), none⟩] false
abbrev c46_14 : AC := .reg [⟨(some 30), .mv (.t 0), none⟩,
  ⟨(some 31), .mv (.t 5), none⟩,
  ⟨(some 32), .mv (.t 7), none⟩,
  ⟨(some 33), .iad 1 (.t 30) (.t 31), none⟩,
  ⟨none, .st none (.t 33) (.t 32), none⟩] false
abbrev c46_15 : AC := .reg [⟨(some 34), .mv (.t 5), none⟩,
  ⟨(some 35), .bin .add (.t 34) (.k (.I 1)), none⟩,
  ⟨(some 5), .mv (.t 35), none⟩] false
abbrev c46_16 : AC := .seq c46_14 c46_15
abbrev c46_17 : AC := .cond (.t 29) c46_16 .skip
abbrev c46_18 : AC := .seq c46_13 c46_17
abbrev c46_19 : AC := .seq c46_12 c46_18
abbrev c46_20 : AC := .block 1 c46_19
abbrev c46_21 : AC := .reg [⟨(some 20), .mv (.t 6), none⟩,
  ⟨(some 21), .bin .add (.t 20) (.k (.I 1)), none⟩,
  ⟨(some 6), .mv (.t 21), none⟩] false
abbrev c46_22 : AC := .seq c46_20 c46_21
abbrev c46_23 : AC := .seq c46_11 c46_22
abbrev c46_24 : AC := .loop c46_23
abbrev c46_25 : AC := .block 0 c46_24
abbrev c46_26 : AC := .seq c46_8 c46_25
abbrev c46_27 : AC := .raw (rawAt Try.prog 46 0)
abbrev c46_28 : AC := .reg [⟨(some 39), .mv (.t 0), none⟩,
  ⟨(some 40), .mv (.t 5), none⟩,
  ⟨(some 41), .slc 1 (.t 39) none (some (.t 40)), none⟩,
  ⟨(some 4), .mv (.t 41), none⟩] false
abbrev c46_29 : AC := .seq c46_28 .ret
abbrev c46_30 : AC := .seq c46_27 c46_29
abbrev c46_31 : AC := .seq c46_26 c46_30
abbrev c46_32 : AC := .seq c46_7 c46_31
abbrev c46_33 : AC := .seq c46_2 c46_32
abbrev c46_34 : AC := .seq c46_1 c46_33
abbrev c46 : AC := c46_34
theorem code46 : fnCode Try.prog 46 = some (c46, [4], 42) := by kernel_rfl
/- coinage/pqtree.join -/
abbrev c37_1 : AC := .reg [⟨(some 4), .mv (.k (.c .nil)), none⟩] false
abbrev c37_2 : AC := .reg [⟨(some 5), .mv (.t 0), none⟩,
  ⟨(some 6), .mv (.t 1), none⟩,
  ⟨(some 7), .call 46 [(.t 6), (.k (.fn 47 []))], none⟩,
  ⟨(some 8), .app 42 1 8 (.t 5) (.t 7), none⟩,
  ⟨(some 4), .mv (.t 8), none⟩] false
abbrev c37_3 : AC := .seq c37_2 .ret
abbrev c37_4 : AC := .seq c37_1 c37_3
abbrev c37 : AC := c37_4
theorem code37 : fnCode Try.prog 37 = some (c37, [4], 9) := by kernel_rfl
end
theorem hret {Q : Exit → St → Prop} {σ : St} (h : Hold (AW Try.prog .ret Q σ)) : AW Try.prog .ret Q σ := h.out
abbrev K (ks : List N) : CD := .sl 1 (cells ks)
theorem x47n : FnR Try.prog 47 [.c .np] [.c (.B true)] := by
  refine fn_walk code47 (by simp) ?_
  (repeat' (first | refine Sni.mk (fun hc => ?_) ?_ | refine Both.mk ?_ ?_ | ((first | refine aw ?_ | refine aD ?_ | refine aX ?_ | refine cT ?_ | refine cF ?_); try simp (disch := omega) only [go_sem, seval, reduceCtorEq]) | refine aI (fun hc => ?_) fun hc => ?_ | simp (disch := omega) only [go_sem, seval, reduceCtorEq] | (refine And.intro ?_ ?_; focus (first | (intros; omega) | (intros; simp_all; done))) | refine aA ?_ ?_ | fail))
theorem x47 (k : N) : FnR Try.prog 47 [.c (ncd k)] [.c (.B false)] := by
  obtain ⟨l, q, ks⟩ := k
  refine fn_walk code47 (by simp) ?_
  (repeat' (first | refine Sni.mk (fun hc => ?_) ?_ | refine Both.mk ?_ ?_ | ((first | refine aw ?_ | refine aD ?_ | refine aX ?_ | refine cT ?_ | refine cF ?_); try simp (disch := omega) only [go_sem, seval, reduceCtorEq, ncd]) | refine aI (fun hc => ?_) fun hc => ?_ | simp (disch := omega) only [go_sem, seval, reduceCtorEq, ncd] | (refine And.intro ?_ ?_; focus (first | (intros; omega) | (intros; simp_all; done))) | refine aA ?_ ?_ | fail))
theorem x21 (ks : List N) (h : ks.length ≤ 1000) : FnR Try.prog 21 [.c (K ks)] [.c (ocd (grp ks))] := by
  match ks, h with
  | [], _ =>
    refine fn_walk code21 (by simp) ?_
    (repeat' (first | refine Sni.mk (fun hc => ?_) ?_ | refine Both.mk ?_ ?_ | ((first | refine aw ?_ | refine aD ?_ | refine aX ?_ | refine cT ?_ | refine cF ?_); try simp (disch := omega) only [go_sem, seval, reduceCtorEq, cells, List.length_nil, grp, ocd]) | refine aI (fun hc => ?_) fun hc => ?_ | simp (disch := omega) only [go_sem, seval, reduceCtorEq, cells, List.length_nil, grp, ocd] | (refine And.intro ?_ ?_; focus (first | (intros; omega) | (intros; simp_all; done))) | refine aA ?_ ?_ | fail))
  | [k], _ =>
    have hk : [[ncd k]].getD 0 [] = [ncd k] := rfl
    refine fn_walk code21 (by simp) ?_
    (repeat' (first | refine Sni.mk (fun hc => ?_) ?_ | refine Both.mk ?_ ?_ | ((first | refine aw ?_ | refine aD ?_ | refine aX ?_ | refine cT ?_ | refine cF ?_); try simp (disch := omega) only [go_sem, seval, reduceCtorEq, cells, hk, List.length_cons, List.length_nil, grp, ocd]) | refine aI (fun hc => ?_) fun hc => ?_ | simp (disch := omega) only [go_sem, seval, reduceCtorEq, cells, hk, List.length_cons, List.length_nil, grp, ocd] | (refine And.intro ?_ ?_; focus (first | (intros; omega) | (intros; simp_all; done))) | refine aA ?_ ?_ | fail))
  | a :: b :: r, h =>
    have hl := cells_len (a :: b :: r)
    have h0 : (((a :: b :: r).length : Int) = 0) = False := eq_false (by simp only [List.length_cons]; omega)
    have h1 : (((a :: b :: r).length : Int) = 1) = False := eq_false (by simp only [List.length_cons]; omega)
    have hg : ocd (grp (a :: b :: r)) = .dp [.I 0, .B false, .sl 1 (cells (a :: b :: r))] := rfl
    rw [hg]
    generalize a :: b :: r = ks at *
    refine fn_walk code21 (by simp) ?_
    (repeat' (first | (with_reducible refine hret ?_) | refine Sni.mk (fun hc => ?_) ?_ | refine Both.mk ?_ ?_ | ((first | refine aw ?_ | refine aD ?_ | refine aX ?_ | refine cT ?_ | refine cF ?_); try simp (disch := omega) only [go_sem, seval, reduceCtorEq, hl, h0, h1]) | refine aI (fun hc => ?_) fun hc => ?_ | simp (disch := omega) only [go_sem, seval, reduceCtorEq, hl, h0, h1] | (refine And.intro ?_ ?_; focus (first | (intros; omega) | (intros; simp_all; done))) | refine aA ?_ ?_ | fail))
    refine ⟨AW_frz [14] ?_⟩
    simp (disch := omega) only [go_sem, seval, reduceCtorEq]
    (repeat' (first | refine Sni.mk (fun hc => ?_) ?_ | refine Both.mk ?_ ?_ | ((first | refine aw ?_ | refine aD ?_ | refine aX ?_ | refine cT ?_ | refine cF ?_); try simp (disch := omega) only [go_sem, seval, reduceCtorEq]) | refine aI (fun hc => ?_) fun hc => ?_ | simp (disch := omega) only [go_sem, seval, reduceCtorEq] | (refine And.intro ?_ ?_; focus (first | (intros; omega) | (intros; simp_all; done))) | refine aA ?_ ?_ | fail))
theorem x39 (ks : List N) (h : ks.length ≤ 1000) : FnR Try.prog 39 [.c (K ks)] [.c (ocd (lin1 ks))] := by
  have hl := cells_len ks
  by_cases h3 : ks.length < 3
  · have g := x21 ks h
    have h3' : ((ks.length : Int) < 3) = True := eq_true (by omega)
    unfold lin1
    rw [if_pos h3]
    refine fn_walk code39 (by simp) ?_
    (repeat' (first | refine Sni.mk (fun hc => ?_) ?_ | refine Both.mk ?_ ?_ | ((first | refine aw ?_ | refine aD ?_ | refine aX ?_ | refine cT ?_ | refine cF ?_ | refine cR (g ..) ?_ | refine cG (g ..) ?_); try simp (disch := omega) only [go_sem, seval, reduceCtorEq, hl, h3']) | refine aI (fun hc => ?_) fun hc => ?_ | simp (disch := omega) only [go_sem, seval, reduceCtorEq, hl, h3'] | (refine And.intro ?_ ?_; focus (first | (intros; omega) | (intros; simp_all; done))) | refine aC ?_ ?_ | refine aC' ?_ ?_ | refine aA ?_ ?_ | fail))
  · have h3' : ((ks.length : Int) < 3) = False := eq_false (by omega)
    have hg : ocd (lin1 ks) = .dp [.I 0, .B true, .sl 1 (cells ks)] := by
      unfold lin1
      rw [if_neg h3]
      match ks, h3 with
      | a :: b :: r, _ => rfl
      | [a], h => simp at h
      | [], h => simp at h
    rw [hg]
    refine fn_walk code39 (by simp) ?_
    (repeat' (first | (with_reducible refine hret ?_) | refine Sni.mk (fun hc => ?_) ?_ | refine Both.mk ?_ ?_ | ((first | refine aw ?_ | refine aD ?_ | refine aX ?_ | refine cT ?_ | refine cF ?_); try simp (disch := omega) only [go_sem, seval, reduceCtorEq, hl, h3']) | refine aI (fun hc => ?_) fun hc => ?_ | simp (disch := omega) only [go_sem, seval, reduceCtorEq, hl, h3'] | (refine And.intro ?_ ?_; focus (first | (intros; omega) | (intros; simp_all; done))) | refine aA ?_ ?_ | fail))
    refine ⟨AW_frz [10] ?_⟩
    simp (disch := omega) only [go_sem, seval, reduceCtorEq]
    (repeat' (first | refine Sni.mk (fun hc => ?_) ?_ | refine Both.mk ?_ ?_ | ((first | refine aw ?_ | refine aD ?_ | refine aX ?_ | refine cT ?_ | refine cF ?_); try simp (disch := omega) only [go_sem, seval, reduceCtorEq]) | refine aI (fun hc => ?_) fun hc => ?_ | simp (disch := omega) only [go_sem, seval, reduceCtorEq] | (refine And.intro ?_ ?_; focus (first | (intros; omega) | (intros; simp_all; done))) | refine aA ?_ ?_ | fail))
theorem x33 (ks : List N) (h : ks.length ≤ 1000) (h0 : ks ≠ []) : FnR Try.prog 33 [.c (K ks)] [.own 42 1 (cells ks)] := by
  have hl := cells_len ks
  have hne : cells ks ≠ [] := fun e => by
    rw [e] at hl; simp at hl
    exact h0 (List.eq_nil_of_length_eq_zero hl.symm)
  refine fn_walk code33 (by simp) ?_
  (repeat' (first | refine Sni.mk (fun hc => ?_) ?_ | refine Both.mk ?_ ?_ | ((first | refine aw ?_ | refine aD ?_ | refine aX ?_ | refine cT ?_ | refine cF ?_); try simp (disch := omega) only [go_sem, seval, reduceCtorEq, hl, maxLen, List.nil_append, List.length_nil]) | refine aI (fun hc => ?_) fun hc => ?_ | simp (disch := omega) only [go_sem, seval, reduceCtorEq, hl, maxLen, List.nil_append, List.length_nil] | (refine And.intro ?_ ?_; focus (first | (intros; omega) | (intros; simp_all; done))) | refine aA ?_ ?_ | fail))
  all_goals first | omega | (exact absurd hc hne) | skip
def rvP (xs : List (List CD)) (i : Nat) : List (List CD) := (List.range xs.length).map fun p => if p < i ∨ xs.length - 1 - p < i then xs.getD (xs.length - 1 - p) [] else xs.getD p []
theorem rvP_len (xs : List (List CD)) (i : Nat) : (rvP xs i).length = xs.length := by simp [rvP]
theorem rvP_get {xs : List (List CD)} {i p : Nat} (h : p < xs.length) : (rvP xs i).getD p [] = if p < i ∨ xs.length - 1 - p < i then xs.getD (xs.length - 1 - p) [] else xs.getD p [] := by
  unfold rvP
  rw [List.getD_eq_getElem?_getD, List.getElem?_eq_getElem (by simpa using h)]; simp
theorem rvP_0 (xs : List (List CD)) : rvP xs 0 = xs := by
  apply List.ext_getElem
  · exact rvP_len xs 0
  · intro p h1 h2
    have := rvP_get (xs := xs) (i := 0) (p := p) h2
    rw [if_neg (by omega), List.getD_eq_getElem?_getD, List.getElem?_eq_getElem h1, List.getD_eq_getElem?_getD, List.getElem?_eq_getElem h2] at this
    exact this
theorem rvP_end {xs : List (List CD)} {i : Nat} (h : xs.length ≤ 2 * i + 1) : rvP xs i = xs.reverse := by
  apply List.ext_getElem
  · rw [rvP_len]; simp
  · intro p h1 h2
    have hp : p < xs.length := by rw [rvP_len] at h1; exact h1
    have := rvP_get (xs := xs) (i := i) (p := p) hp
    rw [List.getD_eq_getElem?_getD, List.getElem?_eq_getElem h1] at this
    rw [List.getElem_reverse]
    by_cases hc : p < i ∨ xs.length - 1 - p < i
    · rw [if_pos hc, List.getD_eq_getElem?_getD, List.getElem?_eq_getElem (by omega)] at this
      exact this
    · rw [if_neg hc, List.getD_eq_getElem?_getD, List.getElem?_eq_getElem hp] at this
      have e : xs.length - 1 - p = p := by omega
      simp only [e]; exact this
theorem rvP_step {xs : List (List CD)} {i : Nat} (h : i < xs.length - 1 - i) : ((rvP xs i).set i (xs.getD (xs.length - 1 - i) [])).set (xs.length - 1 - i) (xs.getD i []) = rvP xs (i + 1) := by
  unfold rvP
  rw [map_range_set, map_range_set]
  refine List.map_congr_left fun p hp => ?_
  rw [List.mem_range] at hp
  by_cases h1 : p = xs.length - 1 - i
  · rw [if_pos h1, if_pos (by omega)]
    congr 1; omega
  · rw [if_neg h1]
    by_cases h2 : p = i
    · rw [if_pos h2, if_pos (by omega), h2]
    · rw [if_neg h2]
      by_cases h3 : p < i ∨ xs.length - 1 - p < i
      · rw [if_pos h3, if_pos (by omega)]
      · rw [if_neg h3, if_neg (by omega)]
set_option maxHeartbeats 4000000 in
theorem x48 (xs : List (List CD)) (hx : ∀ x ∈ xs, ∃ d, x = [d]) (hl : xs.length ≤ 1000) (h0 : 1 ≤ xs.length) : FnW Try.prog 48 [.own 1000005] [(1000005, .arr 42 1 xs)] [] [(1000005, .arr 42 1 xs.reverse)] [1000005] := by
  have hg : ∀ p, p < xs.length → ∃ d, xs.getD p [] = [d] := fun p hp => by
    rw [List.getD_eq_getElem?_getD, List.getElem?_eq_getElem hp]
    exact hx _ (List.getElem_mem hp)
  refine fn_walkW code48 (by simp) (by rfl) ?_
  (repeat' (first | refine Sni.mk (fun hc => ?_) ?_ | refine Both.mk ?_ ?_ | ((first | refine aw ?_ | refine aD ?_ | refine aX ?_ | refine cT ?_ | refine cF ?_); try simp (disch := omega) only [go_sem, seval, reduceCtorEq]) | refine aI (fun hc => ?_) fun hc => ?_ | simp (disch := omega) only [go_sem, seval, reduceCtorEq] | (refine And.intro ?_ ?_; focus (first | (intros; omega) | (intros; simp_all; done))) | refine aA ?_ ?_ | fail))
  all_goals first | omega | skip
  refine AW_loopK [0] [2, 3, 7, 8, 9, 10, 11, 12, 13, 14, 15, 16, 17, 18, 19, 20, 21, 22, 23, 24, 25, 26, 27] (fun i : Nat => 2 * i ≤ xs.length) (fun i => [(2, .I (i : Int)), (3, .I (((xs.length : Int) - 1) - i))]) (fun i => [(1000005, .arr 42 1 (rvP xs i))]) (fun i => xs.length - i) 0 (by omega) ?_ ?_
  · simp (disch := omega) only [go_sem, seval, reduceCtorEq, rvP_0, Int.natCast_zero, Int.sub_zero]
  · intro i hi
    by_cases hlt : i < xs.length - 1 - i
    · have hkk : ((i : Int) < (xs.length : Int) - 1 - (i : Int)) = True := eq_true (by omega)
      obtain ⟨d1, hd1⟩ := hg i (by omega)
      obtain ⟨d2, hd2⟩ := hg (xs.length - 1 - i) (by omega)
      have hr := rvP_len xs i
      have g1 := rvP_get (xs := xs) (i := i) (p := i) (by omega)
      have g2 := rvP_get (xs := xs) (i := i) (p := xs.length - 1 - i) (by omega)
      rw [if_neg (by omega), hd1] at g1
      rw [if_neg (by omega), hd2] at g2
      have hst := rvP_step hlt
      rw [hd1, hd2] at hst
      have hj : ((xs.length : Int) - 1 - (i : Int)).toNat = xs.length - 1 - i := by omega
      have hi1 : ((i : Int) < (xs.length : Int)) = True := eq_true (by omega)
      have hi2 : ((xs.length : Int) - 1 - (i : Int) < (xs.length : Int)) = True := eq_true (by omega)
      have g3 : ((rvP xs i).set i [d2]).getD (xs.length - 1 - i) [] = [d2] := by
        rw [List.getD_eq_getElem?_getD, List.getElem?_set_ne (by omega), ← List.getD_eq_getElem?_getD]; exact g2
      have g4 : ((rvP xs i).set (xs.length - 1 - i) [d1]).getD i [] = [d1] := by
        rw [List.getD_eq_getElem?_getD, List.getElem?_set_ne (by omega), ← List.getD_eq_getElem?_getD]; exact g1
      have hst2 : ((rvP xs i).set (xs.length - 1 - i) [d1]).set i [d2] = rvP xs (i + 1) := by
        rw [List.set_comm _ _ (by omega)]; exact hst
      clear hg hx
      (repeat' (first | refine Sni.mk (fun hc => ?_) ?_ | refine Both.mk ?_ ?_ | ((first | refine aw ?_ | refine aD ?_ | refine aX ?_ | refine cT ?_ | refine cF ?_); try simp (disch := omega) only [go_sem, seval, reduceCtorEq, hkk, hr, g1, g2, g3, g4, hst, hst2, hj, hi1, hi2, List.set_cons_zero, Int.toNat_natCast, List.length_set]) | refine aI (fun hc => ?_) fun hc => ?_ | simp (disch := omega) only [go_sem, seval, reduceCtorEq, hkk, hr, g1, g2, g3, g4, hst, hst2, hj, hi1, hi2, List.set_cons_zero, Int.toNat_natCast, List.length_set] | (refine And.intro ?_ ?_; focus (first | (intros; omega) | (intros; simp_all; done))) | refine aA ?_ ?_ | refine And.intro (?_ : _ ∧ _) ?_ | fail))
      all_goals first | omega | skip
      all_goals
        refine .mk (i + 1) (by omega) (by omega) ?_
        have e1 : (xs.length : Int) - 1 - (i : Int) - 1 = (xs.length : Int) - 1 - ((i : Int) + 1) := by omega
        simp (disch := omega) only [go_sem, seval, reduceCtorEq, e1, Int.natCast_add, Int.natCast_one]
    · have hkk : ((i : Int) < (xs.length : Int) - 1 - (i : Int)) = False := eq_false (by omega)
      rw [← rvP_end (xs := xs) (i := i) (by omega)]
      (repeat' (first | refine Sni.mk (fun hc => ?_) ?_ | refine Both.mk ?_ ?_ | ((first | refine aw ?_ | refine aD ?_ | refine aX ?_ | refine cT ?_ | refine cF ?_); try simp (disch := omega) only [go_sem, seval, reduceCtorEq, hkk]) | refine aI (fun hc => ?_) fun hc => ?_ | simp (disch := omega) only [go_sem, seval, reduceCtorEq, hkk] | (refine And.intro ?_ ?_; focus (first | (intros; omega) | (intros; simp_all; done))) | refine aA ?_ ?_ | fail))
theorem cells_rev (ks : List N) : cells ks.reverse = (cells ks).reverse := by rw [cells_map, cells_map, List.map_reverse]
theorem cells_one (ks : List N) : ∀ x ∈ cells ks, ∃ d, x = [d] := fun x hx => by
  rw [cells_map] at hx
  obtain ⟨k, _, rfl⟩ := List.mem_map.1 hx
  exact ⟨_, rfl⟩
theorem x38 (ks : List N) (h : ks.length ≤ 1000) (h0 : ks ≠ []) : FnR Try.prog 38 [.c (K ks)] [.own 42 1 (cells ks.reverse)] := by
  have g1 := x33 ks h h0
  rw [cells_rev]
  have g2 := x48 (cells ks) (cells_one ks) (by rw [cells_len]; exact h) (by rw [cells_len]; exact Nat.pos_of_ne_zero fun e => h0 (List.eq_nil_of_length_eq_zero e))
  have g3 : FnW Try.prog 48 [.own 5] [(5, .arr 42 1 (cells ks))] [] [(5, .arr 42 1 (cells ks).reverse)] [5] := FnW.low g2
  refine fn_walk code38 (by simp) ?_
  (repeat' (first | refine Sni.mk (fun hc => ?_) ?_ | refine Both.mk ?_ ?_ | ((first | refine aw ?_ | refine aD ?_ | refine aX ?_ | refine cW (g3 ..) (by simp (disch := omega) only [go_sem, seval, reduceCtorEq]) ?_ | refine cT ?_ | refine cF ?_ | refine cR (g1 ..) ?_ | refine cG (g1 ..) ?_); try simp (disch := omega) only [go_sem, seval, reduceCtorEq]) | refine aI (fun hc => ?_) fun hc => ?_ | simp (disch := omega) only [go_sem, seval, reduceCtorEq] | (refine And.intro ?_ ?_; focus (first | (intros; omega) | (intros; simp_all; done))) | refine aC ?_ ?_ | refine aC' ?_ ?_ | refine aA ?_ ?_ | fail))
theorem x44a (k : N) : FnR Try.prog 44 [.c (.sl 1 [[ncd k]]), .fn 47 []] [.c (.I (-1))] := by
  have g := x47 k
  have hk : [[ncd k]].getD 0 [] = [ncd k] := rfl
  refine fn_walk code44 (by simp) ?_
  (repeat' (first | refine Sni.mk (fun hc => ?_) ?_ | refine Both.mk ?_ ?_ | refine AW_enter ?_ | refine AWin_round ?_ | ((first | refine aw ?_ | refine aD ?_ | refine aX ?_ | refine cT ?_ | refine cF ?_ | refine cR (g ..) ?_ | refine cG (g ..) ?_); try simp (disch := omega) only [go_sem, seval, reduceCtorEq, hk, List.length_cons, List.length_nil]) | refine aI (fun hc => ?_) fun hc => ?_ | simp (disch := omega) only [go_sem, seval, reduceCtorEq, hk, List.length_cons, List.length_nil] | (refine And.intro ?_ ?_; focus (first | (intros; omega) | (intros; simp_all; done))) | refine aC ?_ ?_ | refine aC' ?_ ?_ | refine aA ?_ ?_ | fail))
theorem x44b : FnR Try.prog 44 [.c (.sl 1 [[.np]]), .fn 47 []] [.c (.I 0)] := by
  have g := x47n
  have hk : [[CD.np]].getD 0 [] = [CD.np] := rfl
  refine fn_walk code44 (by simp) ?_
  (repeat' (first | refine Sni.mk (fun hc => ?_) ?_ | refine Both.mk ?_ ?_ | refine AW_enter ?_ | refine AWin_round ?_ | ((first | refine aw ?_ | refine aD ?_ | refine aX ?_ | refine cT ?_ | refine cF ?_ | refine cR (g ..) ?_ | refine cG (g ..) ?_); try simp (disch := omega) only [go_sem, seval, reduceCtorEq, hk, List.length_cons, List.length_nil]) | refine aI (fun hc => ?_) fun hc => ?_ | simp (disch := omega) only [go_sem, seval, reduceCtorEq, hk, List.length_cons, List.length_nil] | (refine And.intro ?_ ?_; focus (first | (intros; omega) | (intros; simp_all; done))) | refine aC ?_ ?_ | refine aC' ?_ ?_ | refine aA ?_ ?_ | fail))
noncomputable def dO (i : Nat) : Oper := match rawAt Try.prog 46 0 with
  | .region _ ops _ => match ops.toList[i]? with
    | some o => o
    | none => { dst := none, op := .move (.tmp 0), type := 0, pos := "", after := #[], guard := none }
  | _ => { dst := none, op := .move (.tmp 0), type := 0, pos := "", after := #[], guard := none }
noncomputable def dR : Nat := match rawAt Try.prog 46 0 with
  | .region r _ _ => r
  | _ => 0
theorem d46 : rawAt Try.prog 46 0 = .region dR #[dO 0, dO 1, dO 2, dO 3] false := by kernel_rfl
theorem AW_r46 {Q : Exit → St → Prop} {σ : St} {id : Nat} {xs : List (List CD)} {l : Nat} (hs : σ.get 0 = .own id) (hi : σ.get 5 = .I (l : Int)) (ho : obGet id σ.ob = some (.arr 42 1 xs)) (hl : l ≤ xs.length) (hn : σ.n = 42)
    (h : Q .normal ((((σ.put 36 (.own id)).put 37 (.I (l : Int))).put 38 .any).upd id (.arr 42 1 (xs.take l ++ List.replicate (xs.length - l) [.np])))) : AW Try.prog (.raw (rawAt Try.prog 46 0)) Q σ := by
  refine AW_raw ?_
  rw [d46]
  exact CW_clr' (s := 0) (i := 5) (d1 := 36) (d2 := 37) (d3 := 38) (t := 41) (e := 42) (k := 1) (id := id) (l := l) ⟨by kernel_rfl, by kernel_rfl, by kernel_rfl⟩ ⟨by kernel_rfl, by kernel_rfl, by kernel_rfl⟩ ⟨by kernel_rfl, by kernel_rfl, by kernel_rfl⟩ ⟨by kernel_rfl, by kernel_rfl, by kernel_rfl⟩ (by kernel_rfl) (by kernel_rfl) (zc := [.np]) (by kernel_rfl) (by decide) rfl hs hi ho hl (by omega) (by omega) (by omega) (by decide) (by decide) h
theorem h46r {Q : Exit → St → Prop} {σ : St} (h : Hold (AW Try.prog (.raw (rawAt Try.prog 46 0)) Q σ)) : AW Try.prog (.raw (rawAt Try.prog 46 0)) Q σ := h.out
theorem x46a (k : N) (id : Nat) (hid : id < 1000000) : FnW Try.prog 46 [.own id, .fn 47 []] [(id, .arr 42 1 [[ncd k]])] [.own 42 1 [[ncd k]]] [] [] := by
  have g := x44a k
  refine fn_walkW code46 (by simp) (by rfl) ?_
  (repeat' (first | refine Sni.mk (fun hc => ?_) ?_ | refine Both.mk ?_ ?_ | ((first | refine aw ?_ | refine aD ?_ | refine aX ?_ | refine cT ?_ | refine cF ?_ | refine cR (g ..) ?_ | refine cG (g ..) ?_); try simp (disch := omega) only [go_sem, seval, reduceCtorEq]) | refine aI (fun hc => ?_) fun hc => ?_ | simp (disch := omega) only [go_sem, seval, reduceCtorEq] | (refine And.intro ?_ ?_; focus (first | (intros; omega) | (intros; simp_all; done))) | refine aC ?_ ?_ | refine aC' ?_ ?_ | refine aA ?_ ?_ | fail))
theorem x46b (id : Nat) (hid : id < 1000000) : FnW Try.prog 46 [.own id, .fn 47 []] [(id, .arr 42 1 [[.np]])] [.own 42 1 []] [] [] := by
  have g := x44b
  refine fn_walkW code46 (by simp) (by rfl) ?_
  (repeat' (first | (with_reducible refine h46r ?_) | refine Sni.mk (fun hc => ?_) ?_ | refine Both.mk ?_ ?_ | refine AW_enter ?_ | refine AWin_round ?_ | ((first | refine aw ?_ | refine aD ?_ | refine aX ?_ | refine cT ?_ | refine cF ?_ | refine cR (g ..) ?_ | refine cG (g ..) ?_); try simp (disch := omega) only [go_sem, seval, reduceCtorEq, List.length_cons, List.length_nil]) | refine aI (fun hc => ?_) fun hc => ?_ | simp (disch := omega) only [go_sem, seval, reduceCtorEq, List.length_cons, List.length_nil] | (refine And.intro ?_ ?_; focus (first | (intros; omega) | (intros; simp_all; done))) | refine aC ?_ ?_ | refine aC' ?_ ?_ | refine aA ?_ ?_ | fail))
  refine ⟨AW_r46 (id := id) (xs := [[.np]]) (l := 0) (by rfl) (by rfl) ?_ (by decide) (by rfl) ?_⟩
  · simp (disch := omega) only [go_sem, seval, reduceCtorEq]
  simp (disch := omega) only [go_sem, seval, reduceCtorEq, List.length_cons, List.length_nil, List.take_zero, List.nil_append]
  (repeat' (first | refine Sni.mk (fun hc => ?_) ?_ | refine Both.mk ?_ ?_ | ((first | refine aw ?_ | refine aD ?_ | refine aX ?_ | refine cT ?_ | refine cF ?_); try simp (disch := omega) only [go_sem, seval, reduceCtorEq, List.length_replicate, List.take_zero]) | refine aI (fun hc => ?_) fun hc => ?_ | simp (disch := omega) only [go_sem, seval, reduceCtorEq, List.length_replicate, List.take_zero] | (refine And.intro ?_ ?_; focus (first | (intros; omega) | (intros; simp_all; done))) | refine aA ?_ ?_ | fail))
  all_goals first | omega | skip
  all_goals (refine ⟨hid, ?_⟩)
  (repeat' (first | refine Sni.mk (fun hc => ?_) ?_ | refine Both.mk ?_ ?_ | ((first | refine aw ?_ | refine aD ?_ | refine aX ?_ | refine cT ?_ | refine cF ?_); try simp (disch := omega) only [go_sem, seval, reduceCtorEq]) | refine aI (fun hc => ?_) fun hc => ?_ | simp (disch := omega) only [go_sem, seval, reduceCtorEq] | (refine And.intro ?_ ?_; focus (first | (intros; omega) | (intros; simp_all; done))) | refine aA ?_ ?_ | fail))
def ocs : Option N → List (List CD)
  | none => []
  | some k => [[ncd k]]
theorem ocs_jn (l : List N) (o : Option N) : cells l ++ ocs o = cells (jn l o) := by
  cases o with
  | none => simp [ocs, jn]
  | some k => simp [ocs, jn, cells_map]
theorem x46 (o : Option N) (id : Nat) (hid : id < 1000000) : FnW Try.prog 46 [.own id, .fn 47 []] [(id, .arr 42 1 [[ocd o]])] [.own 42 1 (ocs o)] [] [] := by
  cases o with
  | none => exact x46b id hid
  | some k => exact x46a k id hid
theorem x37n_41 (o : Option N) : FnW Try.prog 37 [.c .nil, .own 41] [(41, .arr 42 1 [[ocd o]])] [.own 42 1 (ocs o)] [] [] := by
  have g := x46 o 41 (by omega)
  have hl : (ocs o).length ≤ 1 := by cases o <;> simp [ocs]
  generalize ocs o = xs at *
  refine fn_walkW code37 (by simp) (by rfl) ?_
  (repeat' (first | refine Sni.mk (fun hc => ?_) ?_ | refine Both.mk ?_ ?_ | ((first | refine aw ?_ | refine aD ?_ | refine aX ?_ | refine cW (g ..) (by simp (disch := omega) only [go_sem, seval, reduceCtorEq, List.length_nil, maxLen]) ?_ | refine cT ?_ | refine cF ?_); try simp (disch := omega) only [go_sem, seval, reduceCtorEq, List.length_nil, maxLen]) | refine aI (fun hc => ?_) fun hc => ?_ | simp (disch := omega) only [go_sem, seval, reduceCtorEq, List.length_nil, maxLen] | (refine And.intro ?_ ?_; focus (first | (intros; omega) | (intros; simp_all; done))) | refine aA ?_ ?_ | fail))
  all_goals first | omega | skip
theorem x37n_110 (o : Option N) : FnW Try.prog 37 [.c .nil, .own 110] [(110, .arr 42 1 [[ocd o]])] [.own 42 1 (ocs o)] [] [] := by
  have g := x46 o 110 (by omega)
  have hl : (ocs o).length ≤ 1 := by cases o <;> simp [ocs]
  generalize ocs o = xs at *
  refine fn_walkW code37 (by simp) (by rfl) ?_
  (repeat' (first | refine Sni.mk (fun hc => ?_) ?_ | refine Both.mk ?_ ?_ | ((first | refine aw ?_ | refine aD ?_ | refine aX ?_ | refine cW (g ..) (by simp (disch := omega) only [go_sem, seval, reduceCtorEq, List.length_nil, maxLen]) ?_ | refine cT ?_ | refine cF ?_); try simp (disch := omega) only [go_sem, seval, reduceCtorEq, List.length_nil, maxLen]) | refine aI (fun hc => ?_) fun hc => ?_ | simp (disch := omega) only [go_sem, seval, reduceCtorEq, List.length_nil, maxLen] | (refine And.intro ?_ ?_; focus (first | (intros; omega) | (intros; simp_all; done))) | refine aA ?_ ?_ | fail))
  all_goals first | omega | skip
theorem x37_66 (xs : List (List CD)) (hx : xs.length ≤ 1000) (o : Option N) : FnW Try.prog 37 [.own 42, .own 66] [(42, .arr 42 1 xs), (66, .arr 42 1 [[ocd o]])] [.own 42 1 (xs ++ ocs o)] [] [] := by
  have g := x46 o 66 (by omega)
  have hl : (ocs o).length ≤ 1 := by cases o <;> simp [ocs]
  generalize ocs o = ys at *
  refine fn_walkW code37 (by simp) (by rfl) ?_
  (repeat' (first | refine Sni.mk (fun hc => ?_) ?_ | refine Both.mk ?_ ?_ | ((first | refine aw ?_ | refine aD ?_ | refine aX ?_ | refine cW (g ..) (by simp (disch := omega) only [go_sem, seval, reduceCtorEq, maxLen]) ?_ | refine cT ?_ | refine cF ?_); try simp (disch := omega) only [go_sem, seval, reduceCtorEq, maxLen]) | refine aI (fun hc => ?_) fun hc => ?_ | simp (disch := omega) only [go_sem, seval, reduceCtorEq, maxLen] | (refine And.intro ?_ ?_; focus (first | (intros; omega) | (intros; simp_all; done))) | refine aA ?_ ?_ | fail))
  all_goals first | omega | skip
theorem x37_110 (xs : List (List CD)) (hx : xs.length ≤ 1000) (o : Option N) : FnW Try.prog 37 [.own 100, .own 110] [(100, .arr 42 1 xs), (110, .arr 42 1 [[ocd o]])] [.own 42 1 (xs ++ ocs o)] [] [] := by
  have g := x46 o 110 (by omega)
  have hl : (ocs o).length ≤ 1 := by cases o <;> simp [ocs]
  generalize ocs o = ys at *
  refine fn_walkW code37 (by simp) (by rfl) ?_
  (repeat' (first | refine Sni.mk (fun hc => ?_) ?_ | refine Both.mk ?_ ?_ | ((first | refine aw ?_ | refine aD ?_ | refine aX ?_ | refine cW (g ..) (by simp (disch := omega) only [go_sem, seval, reduceCtorEq, maxLen]) ?_ | refine cT ?_ | refine cF ?_); try simp (disch := omega) only [go_sem, seval, reduceCtorEq, maxLen]) | refine aI (fun hc => ?_) fun hc => ?_ | simp (disch := omega) only [go_sem, seval, reduceCtorEq, maxLen] | (refine And.intro ?_ ?_; focus (first | (intros; omega) | (intros; simp_all; done))) | refine aA ?_ ?_ | fail))
  all_goals first | omega | skip
end Go.Proofs.Ytcimlelkeppoiaa

open Go Go.AL Go.RowKit
namespace Go.Proofs.Ytcimlelkeppoiaa
set_option maxRecDepth 20000
noncomputable section
/- (coinage/pqtree.row).state -/
abbrev c32_1 : AC := .reg [⟨(some 4), .mv (.k (.I 0)), none⟩] false
abbrev c32_2 : AC := .reg [⟨(some 8), .mv (.t 1), none⟩,
  ⟨(some 9), .nilck (.t 8), none⟩,
  ⟨(some 10), .fad 2 (.t 9), none⟩,
  ⟨(some 11), .ld none (.t 10), none⟩,
  ⟨(some 12), .len (.t 11), none⟩,
  ⟨(some 13), .bin .eql (.t 12) (.k (.I 0)), none⟩] false
abbrev c32_3 : AC := .reg [⟨(some 14), .mv (.t 0), none⟩,
  ⟨(some 15), .mv (.t 1), none⟩,
  ⟨(some 16), .nilck (.t 15), none⟩,
  ⟨(some 17), .fad 0 (.t 16), none⟩,
  ⟨(some 18), .ld none (.t 17), none⟩,
  ⟨(some 19), .look (.one .i64) (.inl (.sc (.bool false))) false (.t 14) (.t 18), none⟩] false
abbrev c32_4 : AC := .reg [⟨(some 4), .mv (.k (.I 2)), none⟩] false
abbrev c32_5 : AC := .seq c32_4 .ret
abbrev c32_6 : AC := .cond (.t 19) c32_5 .skip
abbrev c32_7 : AC := .seq c32_3 c32_6
abbrev c32_8 : AC := .reg [⟨(some 4), .mv (.k (.I 0)), none⟩] false
abbrev c32_9 : AC := .seq c32_8 .ret
abbrev c32_10 : AC := .seq c32_7 c32_9
abbrev c32_11 : AC := .cond (.t 13) c32_10 .skip
abbrev c32_12 : AC := .seq c32_2 c32_11
abbrev c32_13 : AC := .reg [⟨(some 20), .mv (.t 0), none⟩,
  ⟨(some 21), .mv (.t 1), none⟩,
  ⟨(some 22), .nilck (.t 21), none⟩,
  ⟨(some 23), .fad 2 (.t 22), none⟩,
  ⟨(some 24), .ld none (.t 23), none⟩,
  ⟨(some 25), .iad 1 (.t 24) (.k (.I 0)), none⟩,
  ⟨(some 26), .ld none (.t 25), none⟩,
  ⟨(some 27), .call 32 [(.t 20), (.t 26)], none⟩,
  ⟨(some 5), .mv (.t 27), none⟩] false
abbrev c32_14 : AC := .reg [⟨(some 28), .mv (.t 1), none⟩,
  ⟨(some 29), .nilck (.t 28), none⟩,
  ⟨(some 30), .fad 2 (.t 29), none⟩,
  ⟨(some 31), .ld none (.t 30), none⟩,
  ⟨(some 32), .slc 1 (.t 31) (some (.k (.I 1))) none, none⟩,
  ⟨(some 33), .len (.t 32), none⟩,
  ⟨(some 34), .mv (.k (.I 0)), none⟩] false
abbrev c32_15 : AC := .reg [⟨(some 35), .bin .lss (.t 34) (.t 33), none⟩] false
abbrev c32_16 : AC := .cond (.t 35) .skip (.exit 0)
abbrev c32_17 : AC := .reg [⟨(some 36), .iad 1 (.t 32) (.t 34), none⟩,
  ⟨(some 37), .ld none (.t 36), none⟩,
  ⟨(some 7), .mv (.t 37), none⟩] false
abbrev c32_18 : AC := .reg [⟨(some 38), .mv (.t 0), none⟩,
  ⟨(some 39), .mv (.t 7), none⟩,
  ⟨(some 40), .call 32 [(.t 38), (.t 39)], none⟩,
  ⟨(some 41), .mv (.t 5), none⟩,
  ⟨(some 42), .bin .neq (.t 40) (.t 41), none⟩] false
abbrev c32_19 : AC := .reg [⟨(some 4), .mv (.k (.I 1)), none⟩] false
abbrev c32_20 : AC := .seq c32_19 .ret
abbrev c32_21 : AC := .cond (.t 42) c32_20 .skip
abbrev c32_22 : AC := .seq c32_18 c32_21
abbrev c32_23 : AC := .seq c32_17 c32_22
abbrev c32_24 : AC := .block 1 c32_23
abbrev c32_25 : AC := .reg [⟨(some 43), .bin .add (.t 34) (.k (.I 1)), none⟩,
  ⟨(some 34), .mv (.t 43), none⟩] false
abbrev c32_26 : AC := .seq c32_24 c32_25
abbrev c32_27 : AC := .seq c32_16 c32_26
abbrev c32_28 : AC := .seq c32_15 c32_27
abbrev c32_29 : AC := .loop c32_28
abbrev c32_30 : AC := .block 0 c32_29
abbrev c32_31 : AC := .seq c32_14 c32_30
abbrev c32_32 : AC := .reg [⟨(some 44), .mv (.t 5), none⟩,
  ⟨(some 4), .mv (.t 44), none⟩] false
abbrev c32_33 : AC := .seq c32_32 .ret
abbrev c32_34 : AC := .seq c32_31 c32_33
abbrev c32_35 : AC := .seq c32_13 c32_34
abbrev c32_36 : AC := .seq c32_12 c32_35
abbrev c32_37 : AC := .seq c32_1 c32_36
abbrev c32 : AC := c32_37
theorem code32 : fnCode Try.prog 32 = some (c32, [4], 45) := by kernel_rfl
end
def stK (b : Bool) : List Nat → Nat
  | [] => if b then 2 else 0
  | s :: ss => if ss.all (fun t => t == s) then s else 1
mutual
def st (r : Nat → Bool) : N → Nat
  | .nd l _ ks => stK (r l) (sts r ks)
def sts (r : Nat → Bool) : List N → List Nat
  | [] => []
  | k :: ks => st r k :: sts r ks
end
theorem sts_map (r : Nat → Bool) : ∀ ks : List N, sts r ks = ks.map (st r)
  | [] => rfl
  | k :: ks => by simp only [sts, List.map_cons]; rw [sts_map r ks]
theorem st_nd (r : Nat → Bool) (l : Nat) (q : Bool) (ks : List N) : st r (.nd l q ks) = stK (r l) (ks.map (st r)) := by
  rw [← sts_map]; rfl
mutual
def dep : N → Nat
  | .nd _ _ ks => deps ks + 1
def deps : List N → Nat
  | [] => 0
  | k :: ks => max (dep k) (deps ks)
end
theorem dep_kid : ∀ {ks : List N} {k : N}, k ∈ ks → dep k ≤ deps ks
  | [], _, h => by simp at h
  | a :: r, k, h => by
    simp only [deps]
    rcases List.mem_cons.1 h with rfl | h
    · omega
    · have := dep_kid h; omega
theorem N.ind {p : N → Prop} (h : ∀ l q ks, (∀ k ∈ ks, p k) → p (.nd l q ks)) : ∀ v, p v := by
  have key : ∀ d v, dep v ≤ d → p v := by
    intro d
    induction d with
    | zero => intro v hv; obtain ⟨l, q, ks⟩ := v; simp only [dep] at hv; omega
    | succ d ih =>
      intro v hv
      obtain ⟨l, q, ks⟩ := v
      refine h l q ks fun k hk => ih k ?_
      have := dep_kid hk
      simp only [dep] at hv; omega
  exact fun v => key (dep v) v (Nat.le_refl _)
theorem st_le (r : Nat → Bool) : ∀ v, st r v ≤ 2 := by
  refine N.ind fun l q ks ih => ?_
  rw [st_nd]
  cases ks with
  | nil => simp only [List.map_nil, stK]; split <;> omega
  | cons k ks =>
    simp only [List.map_cons, stK]
    split
    · exact ih k (by simp)
    · omega
def rowC (l : List Nat) : List (List Int × Sum CD (List CD)) := l.map fun n : Nat => ([(n : Int)], .inl (.B true))
abbrev RM (l : List Nat) : CD := .mp (.one .i64) (rowC l)
def inR (l : List Nat) (n : Nat) : Bool := decide (n ∈ l)
theorem rowC_look (n : Nat) : ∀ l : List Nat, argAV ((mlook (rowC l) [(n : Int)]).getD (.inl (.sc (.bool false)))) = .B (inR l n)
  | [] => rfl
  | m :: r => by
    have := rowC_look n r
    unfold inR at this ⊢
    simp only [rowC, List.map_cons, mlook] at this ⊢
    by_cases h : n = m
    · subst h
      simp [argAV]
    · have h' : ([(n : Int)] = [(m : Int)]) = False := eq_false (by simp; omega)
      have h2 : (n ∈ m :: r) ↔ n ∈ r := by simp [h]
      simp only [h', if_false, this, h2]
inductive Sm : N → Prop where
  | nd {l : Nat} {q : Bool} {ks : List N} (hl : l ≤ 100) (hk : ks.length ≤ 100) (h : ∀ k ∈ ks, Sm k) : Sm (.nd l q ks)
theorem x32 (l : List Nat) : ∀ v, Sm v → FnR Try.prog 32 [.c (RM l), .c (ncd v)] [.c (.I (st (inR l) v : Nat))] := by
  refine N.ind fun n q ks ih => ?_
  intro hs
  cases hs with
  | nd hl hk hks =>
  have hlk := rowC_look n l
  rw [st_nd]
  cases ks with
  | nil =>
    cases hb : inR l n with
    | true =>
      rw [hb] at hlk
      refine fn_walk code32 (by simp) ?_
      (repeat' (first | refine Sni.mk (fun hc => ?_) ?_ | refine Both.mk ?_ ?_ | ((first | refine aw ?_ | refine aD ?_ | refine aX ?_ | refine cT ?_ | refine cF ?_); try simp (disch := omega) only [go_sem, seval, reduceCtorEq, ncd, cells, kcd, hlk, stK, List.map_nil, List.length_nil]) | refine aI (fun hc => ?_) fun hc => ?_ | simp (disch := omega) only [go_sem, seval, reduceCtorEq, ncd, cells, kcd, hlk, stK, List.map_nil, List.length_nil] | (refine And.intro ?_ ?_; focus (first | (intros; omega) | (intros; simp_all; done))) | refine aA ?_ ?_ | fail))
    | false =>
      rw [hb] at hlk
      refine fn_walk code32 (by simp) ?_
      (repeat' (first | refine Sni.mk (fun hc => ?_) ?_ | refine Both.mk ?_ ?_ | ((first | refine aw ?_ | refine aD ?_ | refine aX ?_ | refine cT ?_ | refine cF ?_); try simp (disch := omega) only [go_sem, seval, reduceCtorEq, ncd, cells, kcd, hlk, stK, List.map_nil, List.length_nil]) | refine aI (fun hc => ?_) fun hc => ?_ | simp (disch := omega) only [go_sem, seval, reduceCtorEq, ncd, cells, kcd, hlk, stK, List.map_nil, List.length_nil] | (refine And.intro ?_ ?_; focus (first | (intros; omega) | (intros; simp_all; done))) | refine aA ?_ ?_ | fail))
  | cons k ks =>
    have ihk := ih k (by simp) (hks k (by simp))
    have hkl : ks.length ≤ 99 := by simp only [List.length_cons] at hk; omega
    have hcl : (cells (k :: ks)).length = ks.length + 1 := cells_len (k :: ks)
    have hg0 : (cells (k :: ks)).getD 0 [] = [ncd k] := rfl
    have hkc : kcd (cells (k :: ks)) = .sl 1 (cells (k :: ks)) := rfl
    have h0 : (((ks.length + 1 : Nat) : Int) = 0) = False := eq_false (by omega)
    have h0' : ((0 : Int) < ((ks.length + 1 : Nat) : Int)) = True := eq_true (by omega)
    have htk : List.take (ks.length + 1) (cells (k :: ks)) = cells (k :: ks) := List.take_of_length_le (by rw [hcl]; exact Nat.le_refl _)
    have hdr : List.drop 1 (cells (k :: ks)) = cells ks := rfl
    have hcl2 := cells_len ks
    have h1 : ((1 : Int) ≤ ((ks.length + 1 : Nat) : Int)) = True := eq_true (by omega)
    generalize hs0 : st (inR l) k = s0 at *
    have hsk : stK (inR l n) ((k :: ks).map (st (inR l))) = if (ks.map (st (inR l))).all (fun t => t == s0) then s0 else 1 := by rw [List.map_cons, hs0]; rfl
    rw [hsk]
    refine fn_walk code32 (by simp) ?_
    unfold ncd
    rw [hkc]
    (repeat' (first | refine Sni.mk (fun hc => ?_) ?_ | refine Both.mk ?_ ?_ | ((first | refine aw ?_ | refine aD ?_ | refine aX ?_ | refine cT ?_ | refine cF ?_ | refine cR (ihk ..) ?_ | refine cG (ihk ..) ?_); try simp (disch := omega) only [go_sem, seval, reduceCtorEq, hcl, hg0, h0, h0', htk, hdr, hcl2, h1]) | refine aI (fun hc => ?_) fun hc => ?_ | simp (disch := omega) only [go_sem, seval, reduceCtorEq, hcl, hg0, h0, h0', htk, hdr, hcl2, h1] | (refine And.intro ?_ ?_; focus (first | (intros; omega) | (intros; simp_all; done))) | refine aC ?_ ?_ | refine aC' ?_ ?_ | refine aA ?_ ?_ | fail))
    all_goals first | omega | skip
    refine AW_loopK [0, 5, 32, 33] [4, 7, 34, 35, 36, 37, 38, 39, 40, 41, 42, 43] (fun i : Nat => i ≤ ks.length ∧ ∀ j, j < i → st (inR l) (nth ks j) = s0) (fun i => [(34, .I (i : Int))]) (fun _ => []) (fun i => ks.length - i) 0 ⟨by omega, fun j hj => by omega⟩ ?_ ?_
    · simp (disch := omega) only [go_sem, seval, reduceCtorEq, Int.natCast_zero]
    · intro i hi
      obtain ⟨hi, hR⟩ := hi
      rcases Nat.lt_or_ge i ks.length with hil | hil
      · have hkk : ((i : Int) < (ks.length : Int)) = True := eq_true (by omega)
        have hm : nth ks i ∈ ks := by rw [nth_eq ks i hil]; exact List.getElem_mem hil
        have ihi := ih (nth ks i) (by simp [hm]) (hks _ (by simp [hm]))
        have hge := cells_get hil
        by_cases he : st (inR l) (nth ks i) = s0
        · rw [he] at ihi
          (repeat' (first | refine Sni.mk (fun hc => ?_) ?_ | refine Both.mk ?_ ?_ | ((first | refine aw ?_ | refine aD ?_ | refine aX ?_ | refine cT ?_ | refine cF ?_ | refine cR (ihi ..) ?_ | refine cG (ihi ..) ?_); try simp (disch := omega) only [go_sem, seval, reduceCtorEq, hkk, hge, hcl2, Int.toNat_natCast]) | refine aI (fun hc => ?_) fun hc => ?_ | simp (disch := omega) only [go_sem, seval, reduceCtorEq, hkk, hge, hcl2, Int.toNat_natCast] | (refine And.intro ?_ ?_; focus (first | (intros; omega) | (intros; simp_all; done))) | refine aC ?_ ?_ | refine aC' ?_ ?_ | refine aA ?_ ?_ | fail))
          all_goals first | omega | skip
          refine .mk (i + 1) ⟨by omega, fun j hj => ?_⟩ (by omega) ?_
          · rcases Nat.lt_succ_iff_lt_or_eq.1 hj with hj | rfl
            · exact hR j hj
            · exact he
          · simp (disch := omega) only [go_sem, seval, reduceCtorEq, Int.natCast_add, Int.natCast_one]
        · have hne : (((st (inR l) (nth ks i) : Nat) : Int) = (s0 : Int)) = False := eq_false (by omega)
          have hall : (ks.map (st (inR l))).all (fun t => t == s0) = false := by
            rw [List.all_eq_false]
            exact ⟨_, List.mem_map_of_mem hm, by simpa using he⟩
          rw [hall]
          generalize st (inR l) (nth ks i) = s1 at *
          (repeat' (first | refine Sni.mk (fun hc => ?_) ?_ | refine Both.mk ?_ ?_ | ((first | refine aw ?_ | refine aD ?_ | refine aX ?_ | refine cT ?_ | refine cF ?_ | refine cR (ihi ..) ?_ | refine cG (ihi ..) ?_); try simp (disch := omega) only [go_sem, seval, reduceCtorEq, hkk, hge, hcl2, hne, Int.toNat_natCast]) | refine aI (fun hc => ?_) fun hc => ?_ | simp (disch := omega) only [go_sem, seval, reduceCtorEq, hkk, hge, hcl2, hne, Int.toNat_natCast] | (refine And.intro ?_ ?_; focus (first | (intros; omega) | (intros; simp_all; done))) | refine aC ?_ ?_ | refine aC' ?_ ?_ | refine aA ?_ ?_ | fail))
          all_goals first | omega | skip
      · obtain rfl : i = ks.length := by omega
        have hkk : ((ks.length : Int) < (ks.length : Int)) = False := eq_false (by omega)
        have hall : (ks.map (st (inR l))).all (fun t => t == s0) = true := by
          rw [List.all_eq_true]
          intro t ht
          obtain ⟨k', hk', rfl⟩ := List.mem_map.1 ht
          obtain ⟨j, hj, rfl⟩ := List.getElem_of_mem hk'
          rw [← nth_eq ks j hj, hR j hj]; simp
        rw [hall, if_pos rfl]
        (repeat' (first | refine Sni.mk (fun hc => ?_) ?_ | refine Both.mk ?_ ?_ | ((first | refine aw ?_ | refine aD ?_ | refine aX ?_ | refine cT ?_ | refine cF ?_); try simp (disch := omega) only [go_sem, seval, reduceCtorEq, hkk]) | refine aI (fun hc => ?_) fun hc => ?_ | simp (disch := omega) only [go_sem, seval, reduceCtorEq, hkk] | (refine And.intro ?_ ?_; focus (first | (intros; omega) | (intros; simp_all; done))) | refine aA ?_ ?_ | fail))
end Go.Proofs.Ytcimlelkeppoiaa

open Go Go.AL Go.RowKit
namespace Go.Proofs.Ytcimlelkeppoiaa
set_option maxRecDepth 20000
noncomputable section
/- (coinage/pqtree.row).sorted -/
abbrev c35_1 : AC := .reg [⟨(some 4), .alloc 65 [(.c .nil), (.c .nil), (.c .nil)], none⟩] false
abbrev c35_2 : AC := .reg [⟨(some 5), .alloc 65 [(.c .nil), (.c .nil), (.c .nil)], none⟩] false
abbrev c35_3 : AC := .reg [⟨(some 9), .mv (.t 1), none⟩,
  ⟨(some 10), .nilck (.t 9), none⟩,
  ⟨(some 11), .fad 2 (.t 10), none⟩,
  ⟨(some 12), .ld none (.t 11), none⟩,
  ⟨(some 13), .len (.t 12), none⟩,
  ⟨(some 14), .mv (.k (.I 0)), none⟩] false
abbrev c35_4 : AC := .reg [⟨(some 15), .bin .lss (.t 14) (.t 13), none⟩] false
abbrev c35_5 : AC := .cond (.t 15) .skip (.exit 0)
abbrev c35_6 : AC := .reg [⟨(some 16), .iad 1 (.t 12) (.t 14), none⟩,
  ⟨(some 17), .ld none (.t 16), none⟩,
  ⟨(some 7), .mv (.t 17), none⟩] false
abbrev c35_7 : AC := .reg [⟨(some 18), .mv (.t 0), none⟩,
  ⟨(some 19), .mv (.t 7), none⟩,
  ⟨(some 20), .call 32 [(.t 18), (.t 19)], none⟩,
  ⟨(some 8), .mv (.t 20), none⟩] false
abbrev c35_8 : AC := .reg [⟨(some 21), .mv (.t 8), none⟩,
  ⟨(some 22), .mv (.t 8), none⟩,
  ⟨(some 23), .iadA 3 1 (.t 5) (.t 22), none⟩,
  ⟨(some 24), .ld none (.t 23), none⟩,
  ⟨(some 25), .mv (.t 7), none⟩,
  ⟨(some 26), .bslice 42 1 [(.t 25)], none⟩,
  ⟨(some 27), .app 42 1 8 (.t 24) (.t 26), none⟩,
  ⟨(some 28), .iadA 3 1 (.t 5) (.t 21), none⟩,
  ⟨none, .st none (.t 28) (.t 27), none⟩] false
abbrev c35_9 : AC := .seq c35_7 c35_8
abbrev c35_10 : AC := .seq c35_6 c35_9
abbrev c35_11 : AC := .block 1 c35_10
abbrev c35_12 : AC := .reg [⟨(some 29), .bin .add (.t 14) (.k (.I 1)), none⟩,
  ⟨(some 14), .mv (.t 29), none⟩] false
abbrev c35_13 : AC := .seq c35_11 c35_12
abbrev c35_14 : AC := .seq c35_5 c35_13
abbrev c35_15 : AC := .seq c35_4 c35_14
abbrev c35_16 : AC := .loop c35_15
abbrev c35_17 : AC := .block 0 c35_16
abbrev c35_18 : AC := .seq c35_3 c35_17
abbrev c35_19 : AC := .reg [⟨(some 30), .ld (some 3) (.t 5), none⟩,
  ⟨none, .st (some 3) (.t 4) (.t 30), none⟩] false
abbrev c35_20 : AC := .seq c35_19 .ret
abbrev c35_21 : AC := .seq c35_18 c35_20
abbrev c35_22 : AC := .seq c35_2 c35_21
abbrev c35_23 : AC := .seq c35_1 c35_22
abbrev c35 : AC := c35_23
theorem code35 : fnCode Try.prog 35 = some (c35, [5000004], 31) := by kernel_rfl
end
def fil (r : Nat → Bool) (s : Nat) (ks : List N) : List N := ks.filter fun k => st r k == s
theorem fil_snoc (r : Nat → Bool) (s : Nat) (ks : List N) (k : N) : fil r s (ks ++ [k]) = fil r s ks ++ (if st r k = s then [k] else []) := by
  unfold fil
  rw [List.filter_append]
  by_cases h : st r k = s
  · rw [if_pos h]; simp [h]
  · rw [if_neg h]; simp [h]
theorem fil_len (r : Nat → Bool) (s : Nat) (ks : List N) : (fil r s ks).length ≤ ks.length := List.length_filter_le ..
theorem h35_l {Q : Exit → St → Prop} {σ : St} (h : Hold (AW Try.prog c35_3 Q σ)) : AW Try.prog c35_3 Q σ := h.out
set_option maxHeartbeats 4000000 in
theorem x35 (l : List Nat) (n : Nat) (q : Bool) (ks : List N) (hs : Sm (.nd n q ks)) (h0 : ks ≠ []) : FnG Try.prog 35 [.c (RM l), .c (ncd (.nd n q ks))] [] [.agg [.own 901, .own 902, .own 903]]
    [(901, .arr 42 1 (cells (fil (inR l) 0 ks))), (902, .arr 42 1 (cells (fil (inR l) 1 ks))), (903, .arr 42 1 (cells (fil (inR l) 2 ks)))] [] := by
  cases hs with
  | nd hl hk hks =>
  have hkc : kcd (cells ks) = .sl 1 (cells ks) := by cases ks with | nil => exact absurd rfl h0 | cons a r => rfl
  have hcl := cells_len ks
  refine fn_walkG code35 (by simp) (by rfl) ?_
  unfold ncd
  rw [hkc]
  (repeat' (first | (with_reducible refine h35_l ?_) | refine Sni.mk (fun hc => ?_) ?_ | refine Both.mk ?_ ?_ | ((first | refine aw ?_ | refine aD ?_ | refine aX ?_ | refine cT ?_ | refine cF ?_); try simp (disch := omega) only [go_sem, seval, reduceCtorEq]) | refine aI (fun hc => ?_) fun hc => ?_ | simp (disch := omega) only [go_sem, seval, reduceCtorEq] | (refine And.intro ?_ ?_; focus (first | (intros; omega) | (intros; simp_all; done))) | refine aA ?_ ?_ | fail))
  refine ⟨AW_nilB 5 0 901 42 1 65 [.c .nil, .c .nil, .c .nil] (by rfl) (by rfl) ?_⟩
  simp (disch := omega) only [go_sem, seval, reduceCtorEq]
  refine AW_nilB 5 1 902 42 1 65 [.own 901, .c .nil, .c .nil] (by rfl) (by rfl) ?_
  simp (disch := omega) only [go_sem, seval, reduceCtorEq]
  refine AW_nilB 5 2 903 42 1 65 [.own 901, .own 902, .c .nil] (by rfl) (by rfl) ?_
  simp (disch := omega) only [go_sem, seval, reduceCtorEq]
  (repeat' (first | refine Sni.mk (fun hc => ?_) ?_ | refine Both.mk ?_ ?_ | ((first | refine aw ?_ | refine aD ?_ | refine aX ?_ | refine cT ?_ | refine cF ?_); try simp (disch := omega) only [go_sem, seval, reduceCtorEq, hcl]) | refine aI (fun hc => ?_) fun hc => ?_ | simp (disch := omega) only [go_sem, seval, reduceCtorEq, hcl] | (refine And.intro ?_ ?_; focus (first | (intros; omega) | (intros; simp_all; done))) | refine aA ?_ ?_ | fail))
  refine AW_loopK [0, 4, 5, 12, 13] [7, 8, 14, 15, 16, 17, 18, 19, 20, 21, 22, 23, 24, 25, 26, 27, 28, 29] (fun i : Nat => i ≤ ks.length) (fun i => [(14, .I (i : Int))]) (fun i => [(901, .arr 42 1 (cells (fil (inR l) 0 (ks.take i)))), (902, .arr 42 1 (cells (fil (inR l) 1 (ks.take i)))), (903, .arr 42 1 (cells (fil (inR l) 2 (ks.take i)))), (5, .box 65 [.own 901, .own 902, .own 903]), (4, .box 65 [.c .nil, .c .nil, .c .nil])]) (fun i => ks.length - i) 0 (by omega) ?_ ?_
  · simp (disch := omega) only [go_sem, seval, reduceCtorEq, List.take_zero, fil, List.filter_nil, cells, Int.natCast_zero]
  · intro i hi
    rcases Nat.lt_or_ge i ks.length with hil | hil
    · have hkk : ((i : Int) < (ks.length : Int)) = True := eq_true (by omega)
      have hm : nth ks i ∈ ks := by rw [nth_eq ks i hil]; exact List.getElem_mem hil
      have ihi := x32 l (nth ks i) (hks _ hm)
      have hge := cells_get hil
      have hsl := st_le (inR l) (nth ks i)
      have htk : ks.take (i + 1) = ks.take i ++ [nth ks i] := by rw [nth_eq ks i hil, List.take_succ_eq_append_getElem hil]
      have e0 := fil_snoc (inR l) 0 (ks.take i) (nth ks i)
      have e1 := fil_snoc (inR l) 1 (ks.take i) (nth ks i)
      have e2 := fil_snoc (inR l) 2 (ks.take i) (nth ks i)
      rw [← htk] at e0 e1 e2
      have l0 : (cells (fil (inR l) 0 (ks.take i))).length ≤ 100 := by rw [cells_len]; have := fil_len (inR l) 0 (ks.take i); have := List.length_take_le i ks; omega
      have l1 : (cells (fil (inR l) 1 (ks.take i))).length ≤ 100 := by rw [cells_len]; have := fil_len (inR l) 1 (ks.take i); have := List.length_take_le i ks; omega
      have l2 : (cells (fil (inR l) 2 (ks.take i))).length ≤ 100 := by rw [cells_len]; have := fil_len (inR l) 2 (ks.take i); have := List.length_take_le i ks; omega
      have hcases : st (inR l) (nth ks i) = 0 ∨ st (inR l) (nth ks i) = 1 ∨ st (inR l) (nth ks i) = 2 := by omega
      have f0 := cells_app (fil (inR l) 0 (ks.take i)) [nth ks i]
      have f1 := cells_app (fil (inR l) 1 (ks.take i)) [nth ks i]
      have f2 := cells_app (fil (inR l) 2 (ks.take i)) [nth ks i]
      have f3 : cells [nth ks i] = [[ncd (nth ks i)]] := rfl
      rcases hcases with h | h | h
      · rw [h] at ihi
        rw [h, if_pos rfl] at e0
        rw [h, if_neg (by decide)] at e1
        rw [h, if_neg (by decide)] at e2
        rw [f3] at f0
        have hst : (((0 : Nat) : Int)) = 0 := rfl
        rw [hst] at ihi
        (repeat' (first | refine Sni.mk (fun hc => ?_) ?_ | refine Both.mk ?_ ?_ | ((first | refine aw ?_ | refine aD ?_ | refine aX ?_ | refine cT ?_ | refine cF ?_ | refine cR (ihi ..) ?_ | refine cG (ihi ..) ?_); try simp (disch := omega) only [go_sem, seval, reduceCtorEq, hkk, hge, hcl, maxLen, ← f0, Int.natCast_zero, Int.natCast_one, Int.toNat_natCast, List.length_cons, List.length_nil]) | refine aI (fun hc => ?_) fun hc => ?_ | simp (disch := omega) only [go_sem, seval, reduceCtorEq, hkk, hge, hcl, maxLen, ← f0, Int.natCast_zero, Int.natCast_one, Int.toNat_natCast, List.length_cons, List.length_nil] | (refine And.intro ?_ ?_; focus (first | (intros; omega) | (intros; simp_all; done))) | refine aC ?_ ?_ | refine aC' ?_ ?_ | refine aA ?_ ?_ | fail))
        all_goals first | omega | skip
        all_goals (
          refine .mk (i + 1) (by omega) (by omega) ?_
          rw [e0, e1, e2]
          simp (disch := omega) only [go_sem, seval, reduceCtorEq, Int.natCast_add, Int.natCast_one, List.append_nil])
      · rw [h] at ihi
        rw [h, if_neg (by decide)] at e0
        rw [h, if_pos rfl] at e1
        rw [h, if_neg (by decide)] at e2
        rw [f3] at f1
        have hst : (((1 : Nat) : Int)) = 1 := rfl
        rw [hst] at ihi
        (repeat' (first | refine Sni.mk (fun hc => ?_) ?_ | refine Both.mk ?_ ?_ | ((first | refine aw ?_ | refine aD ?_ | refine aX ?_ | refine cT ?_ | refine cF ?_ | refine cR (ihi ..) ?_ | refine cG (ihi ..) ?_); try simp (disch := omega) only [go_sem, seval, reduceCtorEq, hkk, hge, hcl, maxLen, ← f1, Int.natCast_zero, Int.natCast_one, Int.toNat_natCast, List.length_cons, List.length_nil]) | refine aI (fun hc => ?_) fun hc => ?_ | simp (disch := omega) only [go_sem, seval, reduceCtorEq, hkk, hge, hcl, maxLen, ← f1, Int.natCast_zero, Int.natCast_one, Int.toNat_natCast, List.length_cons, List.length_nil] | (refine And.intro ?_ ?_; focus (first | (intros; omega) | (intros; simp_all; done))) | refine aC ?_ ?_ | refine aC' ?_ ?_ | refine aA ?_ ?_ | fail))
        all_goals first | omega | skip
        all_goals (
          refine .mk (i + 1) (by omega) (by omega) ?_
          rw [e0, e1, e2]
          simp (disch := omega) only [go_sem, seval, reduceCtorEq, Int.natCast_add, Int.natCast_one, List.append_nil])
      · rw [h] at ihi
        rw [h, if_neg (by decide)] at e0
        rw [h, if_neg (by decide)] at e1
        rw [h, if_pos rfl] at e2
        rw [f3] at f2
        have hst : (((2 : Nat) : Int)) = 2 := rfl
        rw [hst] at ihi
        (repeat' (first | refine Sni.mk (fun hc => ?_) ?_ | refine Both.mk ?_ ?_ | ((first | refine aw ?_ | refine aD ?_ | refine aX ?_ | refine cT ?_ | refine cF ?_ | refine cR (ihi ..) ?_ | refine cG (ihi ..) ?_); try simp (disch := omega) only [go_sem, seval, reduceCtorEq, hkk, hge, hcl, maxLen, ← f2, Int.natCast_zero, Int.natCast_one, Int.toNat_natCast, List.length_cons, List.length_nil]) | refine aI (fun hc => ?_) fun hc => ?_ | simp (disch := omega) only [go_sem, seval, reduceCtorEq, hkk, hge, hcl, maxLen, ← f2, Int.natCast_zero, Int.natCast_one, Int.toNat_natCast, List.length_cons, List.length_nil] | (refine And.intro ?_ ?_; focus (first | (intros; omega) | (intros; simp_all; done))) | refine aC ?_ ?_ | refine aC' ?_ ?_ | refine aA ?_ ?_ | fail))
        all_goals first | omega | skip
        all_goals (
          refine .mk (i + 1) (by omega) (by omega) ?_
          rw [e0, e1, e2]
          simp (disch := omega) only [go_sem, seval, reduceCtorEq, Int.natCast_add, Int.natCast_one, List.append_nil])
    · obtain rfl : i = ks.length := by omega
      have hkk : ((ks.length : Int) < (ks.length : Int)) = False := eq_false (by omega)
      rw [List.take_length]
      (repeat' (first | refine Sni.mk (fun hc => ?_) ?_ | refine Both.mk ?_ ?_ | ((first | refine aw ?_ | refine aD ?_ | refine aX ?_ | refine cT ?_ | refine cF ?_); try simp (disch := omega) only [go_sem, seval, reduceCtorEq, hkk]) | refine aI (fun hc => ?_) fun hc => ?_ | simp (disch := omega) only [go_sem, seval, reduceCtorEq, hkk] | (refine And.intro ?_ ?_; focus (first | (intros; omega) | (intros; simp_all; done))) | refine aA ?_ ?_ | fail))
end Go.Proofs.Ytcimlelkeppoiaa

open Go Go.AL
namespace Go.Proofs.Ytcimlelkeppoiaa
set_option maxRecDepth 20000
abbrev Z := N × Option (List N)
def linA (r : Nat → Bool) : List N → Nat → List Z → Option (List N)
  | acc, _, [] => some acc
  | acc, last, (k, o) :: zs => if st r k < last ∨ (st r k = 1 ∧ last = 1) then none else match o with
    | none => none
    | some m => linA r (acc ++ m) (st r k) zs
def linP (e f : Option N) : List Z → Option (List N)
  | [] => some (jn (jn [] e) f)
  | [(_, none)] => none
  | [(_, some m)] => some (jn (jn [] e ++ m) f)
  | _ => none
def linK (r : Nat → Bool) (l : Nat) (q : Bool) (ks : List N) (zs : List Z) : Option (List N) :=
  if st r (.nd l q ks) ≠ 1 then some [.nd l q ks]
  else bif q then linA r [] 0 (if st r (nth ks 0) > st r (nth ks (ks.length - 1)) then zs.reverse else zs)
  else linP (grp (fil r 0 ks)) (grp (fil r 2 ks)) (zs.filter fun z => st r z.1 == 1)
mutual
def lin (r : Nat → Bool) : N → Option (List N)
  | .nd l q ks => linK r l q ks (lins r ks)
def lins (r : Nat → Bool) : List N → List Z
  | [] => []
  | k :: ks => (k, lin r k) :: lins r ks
end
theorem lins_map (r : Nat → Bool) : ∀ ks : List N, lins r ks = ks.map fun k => (k, lin r k)
  | [] => rfl
  | k :: ks => by simp only [lins, List.map_cons]; rw [lins_map r ks]
theorem lin_nd (r : Nat → Bool) (l : Nat) (q : Bool) (ks : List N) : lin r (.nd l q ks) = linK r l q ks (ks.map fun k => (k, lin r k)) := by
  rw [← lins_map]; rfl
mutual
def sz : N → Nat
  | .nd _ _ ks => szs ks + 1
def szs : List N → Nat
  | [] => 0
  | k :: ks => sz k + szs ks
end
theorem sz_nd (l : Nat) (q : Bool) (ks : List N) : sz (.nd l q ks) = szs ks + 1 := rfl
theorem sz_pos : ∀ v, 1 ≤ sz v
  | .nd _ _ _ => by simp [sz]
theorem szs_mem : ∀ {ks : List N} {k : N}, k ∈ ks → sz k ≤ szs ks
  | [], _, h => by simp at h
  | a :: r, k, h => by
    simp only [szs]
    rcases List.mem_cons.1 h with rfl | h
    · omega
    · have := szs_mem h; omega
theorem szs_len : ∀ ks : List N, ks.length ≤ szs ks
  | [] => by simp
  | k :: ks => by
    have := szs_len ks
    have := sz_pos k
    simp only [List.length_cons, szs]; omega
theorem szs_app : ∀ a b : List N, szs (a ++ b) = szs a + szs b
  | [], b => by simp [szs]
  | k :: a, b => by simp only [List.cons_append, szs, szs_app a b]; omega
theorem szs_rev : ∀ ks : List N, szs ks.reverse = szs ks
  | [] => rfl
  | k :: ks => by rw [List.reverse_cons, szs_app, szs_rev ks]; simp only [szs]; omega
theorem jn_len (a : List N) (o : Option N) : (jn a o).length ≤ a.length + 1 := by cases o <;> simp [jn]
theorem linA_len (r : Nat → Bool) : ∀ (zs : List Z) (acc : List N) (last : Nat) (out : List N), (∀ z ∈ zs, ∀ m, z.2 = some m → m.length ≤ 2 * sz z.1) → linA r acc last zs = some out → out.length ≤ acc.length + 2 * szs (zs.map (·.1))
  | [], acc, last, out, _, h => by simp only [linA, Option.some.injEq] at h; subst h; simp
  | (k, o) :: zs, acc, last, out, hz, h => by
    simp only [linA] at h
    split at h
    · cases h
    · split at h
      · cases h
      · rename_i m
        have ih := linA_len r zs (acc ++ m) (st r k) out (fun z hm => hz z (by simp [hm])) h
        have := hz (k, some m) (by simp) m rfl
        simp only [List.map_cons, szs, List.length_append] at ih this ⊢
        omega
theorem lin_len (r : Nat → Bool) : ∀ v out, lin r v = some out → out.length ≤ 2 * sz v := by
  refine N.ind fun l q ks ih => ?_
  intro out h
  rw [lin_nd] at h
  unfold linK at h
  split at h
  · simp only [Option.some.injEq] at h; subst h; have := sz_pos (.nd l q ks); simp only [List.length_cons, List.length_nil]; omega
  · have hz : ∀ z ∈ ks.map (fun k => (k, lin r k)), ∀ m, z.2 = some m → m.length ≤ 2 * sz z.1 := fun z hm m hz => by
      obtain ⟨k, hk, rfl⟩ := List.mem_map.1 hm
      exact ih k hk m hz
    rw [sz_nd]
    cases q with
    | true =>
      simp only [cond_true] at h
      have hmm : (ks.map fun k => (k, lin r k)).map (·.1) = ks := by rw [List.map_map]; simp [Function.comp_def]
      split at h
      · have := linA_len r _ [] 0 out (fun z hm => hz z (List.mem_reverse.1 hm)) h
        rw [List.map_reverse, szs_rev, hmm] at this
        simp only [List.length_nil] at this; omega
      · have := linA_len r _ [] 0 out hz h
        rw [hmm] at this
        simp only [List.length_nil] at this; omega
    | false =>
      simp only [cond_false] at h
      generalize hf : (ks.map fun k => (k, lin r k)).filter (fun z => st r z.1 == 1) = fs at h
      have hsub : ∀ z ∈ fs, z ∈ ks.map (fun k => (k, lin r k)) := fun z hm => by rw [← hf] at hm; exact (List.mem_filter.1 hm).1
      unfold linP at h
      split at h
      · simp only [Option.some.injEq] at h; subst h
        have h1 := jn_len (jn [] (grp (fil r 0 ks))) (grp (fil r 2 ks))
        have h2 := jn_len [] (grp (fil r 0 ks))
        simp only [List.length_nil] at h2; omega
      · cases h
      · rename_i k m
        simp only [Option.some.injEq] at h; subst h
        have h1 := jn_len (jn [] (grp (fil r 0 ks)) ++ m) (grp (fil r 2 ks))
        have h2 := jn_len [] (grp (fil r 0 ks))
        have h3 := hz _ (hsub (k, some m) (by simp)) m rfl
        have h4 : sz k ≤ szs ks := by
          have := hsub (k, some m) (by simp)
          obtain ⟨k', hk', e⟩ := List.mem_map.1 this
          simp only [Prod.mk.injEq] at e
          rw [← e.1]; exact szs_mem hk'
        simp only [List.length_append, List.length_nil] at h1 h2 h3; omega
      · cases h
end Go.Proofs.Ytcimlelkeppoiaa

open Go Go.AL Go.RowKit
namespace Go.Proofs.Ytcimlelkeppoiaa
set_option maxRecDepth 20000
noncomputable section
/- (coinage/pqtree.row).linear -/
abbrev c36_1 : AC := .reg [⟨(some 4), .mv (.k (.c .nil)), none⟩,
  ⟨(some 5), .mv (.k (.B false)), none⟩] false
abbrev c36_2 : AC := .reg [⟨(some 20), .mv (.t 0), none⟩,
  ⟨(some 21), .mv (.t 1), none⟩,
  ⟨(some 22), .call 32 [(.t 20), (.t 21)], none⟩,
  ⟨(some 23), .bin .neq (.t 22) (.k (.I 1)), none⟩] false
abbrev c36_3 : AC := .reg [⟨(some 24), .mv (.t 1), none⟩,
  ⟨(some 25), .bslice 42 1 [(.t 24)], none⟩,
  ⟨(some 4), .mv (.t 25), none⟩,
  ⟨(some 5), .mv (.k (.B true)), none⟩] false
abbrev c36_4 : AC := .seq c36_3 .ret
abbrev c36_5 : AC := .cond (.t 23) c36_4 .skip
abbrev c36_6 : AC := .seq c36_2 c36_5
abbrev c36_7 : AC := .reg [⟨(some 26), .mv (.t 1), none⟩,
  ⟨(some 27), .nilck (.t 26), none⟩,
  ⟨(some 28), .fad 1 (.t 27), none⟩,
  ⟨(some 29), .ld none (.t 28), none⟩,
  ⟨(some 30), .not (.t 29), none⟩] false
abbrev c36_8 : AC := .reg [⟨(some 31), .mv (.t 0), none⟩,
  ⟨(some 32), .mv (.t 1), none⟩,
  ⟨(some 33), .call 35 [(.t 31), (.t 32)], none⟩,
  ⟨(some 6), .alloc 65 [(.c .nil), (.c .nil), (.c .nil)], none⟩,
  ⟨none, .st (some 3) (.t 6) (.t 33), none⟩] false
abbrev c36_9 : AC := .reg [⟨(some 34), .iadA 3 1 (.t 6) (.k (.I 1)), none⟩,
  ⟨(some 35), .ld none (.t 34), none⟩,
  ⟨(some 36), .len (.t 35), none⟩,
  ⟨(some 37), .bin .gtr (.t 36) (.k (.I 1)), none⟩] false
abbrev c36_10 : AC := .reg [⟨(some 4), .mv (.k (.c .nil)), none⟩,
  ⟨(some 5), .mv (.k (.B false)), none⟩] false
abbrev c36_11 : AC := .seq c36_10 .ret
abbrev c36_12 : AC := .cond (.t 37) c36_11 .skip
abbrev c36_13 : AC := .seq c36_9 c36_12
abbrev c36_14 : AC := .reg [⟨(some 38), .iadA 3 1 (.t 6) (.k (.I 0)), none⟩,
  ⟨(some 39), .ld none (.t 38), none⟩,
  ⟨(some 40), .call 21 [(.t 39)], none⟩,
  ⟨(some 41), .bslice 42 1 [(.t 40)], none⟩,
  ⟨(some 42), .call 37 [(.k (.c .nil)), (.t 41)], none⟩,
  ⟨(some 7), .mv (.t 42), none⟩] false
abbrev c36_15 : AC := .reg [⟨(some 43), .iadA 3 1 (.t 6) (.k (.I 1)), none⟩,
  ⟨(some 44), .ld none (.t 43), none⟩,
  ⟨(some 45), .len (.t 44), none⟩,
  ⟨(some 46), .mv (.k (.I 0)), none⟩] false
abbrev c36_16 : AC := .reg [⟨(some 47), .bin .lss (.t 46) (.t 45), none⟩] false
abbrev c36_17 : AC := .cond (.t 47) .skip (.exit 0)
abbrev c36_18 : AC := .reg [⟨(some 48), .iad 1 (.t 44) (.t 46), none⟩,
  ⟨(some 49), .ld none (.t 48), none⟩,
  ⟨(some 9), .mv (.t 49), none⟩] false
abbrev c36_19 : AC := .reg [⟨(some 51), .mv (.t 0), none⟩,
  ⟨(some 52), .mv (.t 9), none⟩,
  ⟨(some 53), .call 36 [(.t 51), (.t 52)], none⟩,
  ⟨(some 50), .mv (.t 53), none⟩,
  ⟨(some 54), .ext (.t 50) 0, none⟩,
  ⟨(some 55), .ext (.t 50) 1, none⟩,
  ⟨(some 10), .mv (.t 54), none⟩,
  ⟨(some 11), .mv (.t 55), none⟩] false
abbrev c36_20 : AC := .reg [⟨(some 56), .mv (.t 11), none⟩,
  ⟨(some 57), .not (.t 56), none⟩] false
abbrev c36_21 : AC := .reg [⟨(some 4), .mv (.k (.c .nil)), none⟩,
  ⟨(some 5), .mv (.k (.B false)), none⟩] false
abbrev c36_22 : AC := .seq c36_21 .ret
abbrev c36_23 : AC := .cond (.t 57) c36_22 .skip
abbrev c36_24 : AC := .seq c36_20 c36_23
abbrev c36_25 : AC := .reg [⟨(some 58), .mv (.t 7), none⟩,
  ⟨(some 59), .mv (.t 10), none⟩,
  ⟨(some 60), .app 42 1 8 (.t 58) (.t 59), none⟩,
  ⟨(some 7), .mv (.t 60), none⟩] false
abbrev c36_26 : AC := .seq c36_24 c36_25
abbrev c36_27 : AC := .seq c36_19 c36_26
abbrev c36_28 : AC := .seq c36_18 c36_27
abbrev c36_29 : AC := .block 1 c36_28
abbrev c36_30 : AC := .reg [⟨(some 61), .bin .add (.t 46) (.k (.I 1)), none⟩,
  ⟨(some 46), .mv (.t 61), none⟩] false
abbrev c36_31 : AC := .seq c36_29 c36_30
abbrev c36_32 : AC := .seq c36_17 c36_31
abbrev c36_33 : AC := .seq c36_16 c36_32
abbrev c36_34 : AC := .loop c36_33
abbrev c36_35 : AC := .block 0 c36_34
abbrev c36_36 : AC := .seq c36_15 c36_35
abbrev c36_37 : AC := .reg [⟨(some 62), .mv (.t 7), none⟩,
  ⟨(some 63), .iadA 3 1 (.t 6) (.k (.I 2)), none⟩,
  ⟨(some 64), .ld none (.t 63), none⟩,
  ⟨(some 65), .call 21 [(.t 64)], none⟩,
  ⟨(some 66), .bslice 42 1 [(.t 65)], none⟩,
  ⟨(some 67), .call 37 [(.t 62), (.t 66)], none⟩,
  ⟨(some 4), .mv (.t 67), none⟩,
  ⟨(some 5), .mv (.k (.B true)), none⟩] false
abbrev c36_38 : AC := .seq c36_37 .ret
abbrev c36_39 : AC := .seq c36_36 c36_38
abbrev c36_40 : AC := .seq c36_14 c36_39
abbrev c36_41 : AC := .seq c36_13 c36_40
abbrev c36_42 : AC := .seq c36_8 c36_41
abbrev c36_43 : AC := .cond (.t 30) c36_42 .skip
abbrev c36_44 : AC := .seq c36_7 c36_43
abbrev c36_45 : AC := .reg [⟨(some 68), .mv (.t 1), none⟩,
  ⟨(some 69), .nilck (.t 68), none⟩,
  ⟨(some 70), .fad 2 (.t 69), none⟩,
  ⟨(some 71), .ld none (.t 70), none⟩,
  ⟨(some 12), .mv (.t 71), none⟩] false
abbrev c36_46 : AC := .regD [(⟨(some 72), .mv (.t 0), none⟩, [0]),
  (⟨(some 73), .mv (.t 12), none⟩, [12]),
  (⟨(some 74), .iad 1 (.t 73) (.k (.I 0)), none⟩, [73]),
  (⟨(some 75), .ld none (.t 74), none⟩, [74]),
  (⟨(some 76), .call 32 [(.t 72), (.t 75)], none⟩, [72, 75]),
  (⟨(some 77), .mv (.t 0), none⟩, [0]),
  (⟨(some 78), .mv (.t 12), none⟩, [12]),
  (⟨(some 79), .mv (.t 12), none⟩, [12]),
  (⟨(some 80), .len (.t 79), none⟩, [79]),
  (⟨(some 81), .bin .sub (.t 80) (.k (.I 1)), none⟩, [80]),
  (⟨(some 82), .iad 1 (.t 78) (.t 81), none⟩, [78, 81]),
  (⟨(some 83), .ld none (.t 82), none⟩, [82]),
  (⟨(some 84), .call 32 [(.t 77), (.t 83)], none⟩, [77, 83]),
  (⟨(some 85), .bin .gtr (.t 76) (.t 84), none⟩, [76, 84])]
abbrev c36_47 : AC := .reg [⟨(some 86), .mv (.t 12), none⟩,
  ⟨(some 87), .call 38 [(.t 86)], none⟩,
  ⟨(some 12), .mv (.t 87), none⟩] false
abbrev c36_48 : AC := .cond (.t 85) c36_47 .skip
abbrev c36_49 : AC := .seq c36_46 c36_48
abbrev c36_50 : AC := .reg [⟨(some 13), .mv (.k (.c .nil)), none⟩] false
abbrev c36_51 : AC := .reg [⟨(some 14), .mv (.k (.I 0)), none⟩] false
abbrev c36_52 : AC := .reg [⟨(some 88), .mv (.t 12), none⟩,
  ⟨(some 89), .len (.t 88), none⟩,
  ⟨(some 90), .mv (.k (.I 0)), none⟩] false
abbrev c36_53 : AC := .reg [⟨(some 91), .bin .lss (.t 90) (.t 89), none⟩] false
abbrev c36_54 : AC := .cond (.t 91) .skip (.exit 2)
abbrev c36_55 : AC := .reg [⟨(some 92), .iad 1 (.t 88) (.t 90), none⟩,
  ⟨(some 93), .ld none (.t 92), none⟩,
  ⟨(some 16), .mv (.t 93), none⟩] false
abbrev c36_56 : AC := .reg [⟨(some 94), .mv (.t 0), none⟩,
  ⟨(some 95), .mv (.t 16), none⟩,
  ⟨(some 96), .call 32 [(.t 94), (.t 95)], none⟩,
  ⟨(some 17), .mv (.t 96), none⟩] false
abbrev c36_57 : AC := .reg [⟨(some 97), .mv (.t 17), none⟩,
  ⟨(some 98), .mv (.t 14), none⟩,
  ⟨(some 99), .bin .lss (.t 97) (.t 98), none⟩,
  ⟨(some 100), .mv (.t 99), none⟩,
  ⟨(some 101), .mv (.t 17), (some (100, false))⟩,
  ⟨(some 102), .bin .eql (.t 101) (.k (.I 1)), (some (100, false))⟩,
  ⟨(some 103), .mv (.t 102), (some (100, false))⟩,
  ⟨(some 104), .mv (.t 14), (some (103, true))⟩,
  ⟨(some 105), .bin .eql (.t 104) (.k (.I 1)), (some (103, true))⟩,
  ⟨(some 106), .pick (.t 103) (.t 105) (.k (.B false)), (some (100, false))⟩,
  ⟨(some 107), .pick (.t 100) (.k (.B true)) (.t 106), none⟩] false
abbrev c36_58 : AC := .reg [⟨(some 4), .mv (.k (.c .nil)), none⟩,
  ⟨(some 5), .mv (.k (.B false)), none⟩] false
abbrev c36_59 : AC := .seq c36_58 .ret
abbrev c36_60 : AC := .cond (.t 107) c36_59 .skip
abbrev c36_61 : AC := .seq c36_57 c36_60
abbrev c36_62 : AC := .reg [⟨(some 108), .mv (.t 17), none⟩,
  ⟨(some 14), .mv (.t 108), none⟩] false
abbrev c36_63 : AC := .reg [⟨(some 110), .mv (.t 0), none⟩,
  ⟨(some 111), .mv (.t 16), none⟩,
  ⟨(some 112), .call 36 [(.t 110), (.t 111)], none⟩,
  ⟨(some 109), .mv (.t 112), none⟩,
  ⟨(some 113), .ext (.t 109) 0, none⟩,
  ⟨(some 114), .ext (.t 109) 1, none⟩,
  ⟨(some 18), .mv (.t 113), none⟩,
  ⟨(some 19), .mv (.t 114), none⟩] false
abbrev c36_64 : AC := .reg [⟨(some 115), .mv (.t 19), none⟩,
  ⟨(some 116), .not (.t 115), none⟩] false
abbrev c36_65 : AC := .reg [⟨(some 4), .mv (.k (.c .nil)), none⟩,
  ⟨(some 5), .mv (.k (.B false)), none⟩] false
abbrev c36_66 : AC := .seq c36_65 .ret
abbrev c36_67 : AC := .cond (.t 116) c36_66 .skip
abbrev c36_68 : AC := .seq c36_64 c36_67
abbrev c36_69 : AC := .reg [⟨(some 117), .mv (.t 13), none⟩,
  ⟨(some 118), .mv (.t 18), none⟩,
  ⟨(some 119), .app 42 1 8 (.t 117) (.t 118), none⟩,
  ⟨(some 13), .mv (.t 119), none⟩] false
abbrev c36_70 : AC := .seq c36_68 c36_69
abbrev c36_71 : AC := .seq c36_63 c36_70
abbrev c36_72 : AC := .seq c36_62 c36_71
abbrev c36_73 : AC := .seq c36_61 c36_72
abbrev c36_74 : AC := .seq c36_56 c36_73
abbrev c36_75 : AC := .seq c36_55 c36_74
abbrev c36_76 : AC := .block 3 c36_75
abbrev c36_77 : AC := .reg [⟨(some 120), .bin .add (.t 90) (.k (.I 1)), none⟩,
  ⟨(some 90), .mv (.t 120), none⟩] false
abbrev c36_78 : AC := .seq c36_76 c36_77
abbrev c36_79 : AC := .seq c36_54 c36_78
abbrev c36_80 : AC := .seq c36_53 c36_79
abbrev c36_81 : AC := .loop c36_80
abbrev c36_82 : AC := .block 2 c36_81
abbrev c36_83 : AC := .seq c36_52 c36_82
abbrev c36_84 : AC := .reg [⟨(some 121), .mv (.t 13), none⟩,
  ⟨(some 4), .mv (.t 121), none⟩,
  ⟨(some 5), .mv (.k (.B true)), none⟩] false
abbrev c36_85 : AC := .seq c36_84 .ret
abbrev c36_86 : AC := .seq c36_83 c36_85
abbrev c36_87 : AC := .seq c36_51 c36_86
abbrev c36_88 : AC := .seq c36_50 c36_87
abbrev c36_89 : AC := .seq c36_49 c36_88
abbrev c36_90 : AC := .seq c36_45 c36_89
abbrev c36_91 : AC := .seq c36_44 c36_90
abbrev c36_92 : AC := .seq c36_6 c36_91
abbrev c36_93 : AC := .seq c36_1 c36_92
abbrev c36 : AC := c36_93
theorem code36 : fnCode Try.prog 36 = some (c36, [4, 5], 122) := by kernel_rfl
end
theorem h36_13 {Q : Exit → St → Prop} {σ : St} (h : Hold (AW Try.prog c36_13 Q σ)) : AW Try.prog c36_13 Q σ := h.out
def RL (o : Option (List N)) : List RV := match o with
  | none => [.c .nil, .c (.B false)]
  | some ks => [.own 42 1 (cells ks), .c (.B true)]
theorem RL_none : RL none = [.c .nil, .c (.B false)] := rfl
theorem RL_some (ks : List N) : RL (some ks) = [.own 42 1 (cells ks), .c (.B true)] := rfl
theorem zf (r : Nat → Bool) (g : N → Option (List N)) (ks : List N) : (ks.map fun k => (k, g k)).filter (fun z => st r z.1 == 1) = (fil r 1 ks).map fun k => (k, g k) := by
  unfold fil
  rw [List.filter_map]; rfl
set_option maxHeartbeats 8000000 in
theorem x36P (l : List Nat) (n : Nat) (ks : List N) (hs : Sm (.nd n false ks)) (hz : sz (.nd n false ks) ≤ 100) (hst : st (inR l) (.nd n false ks) = 1)
    (ih : ∀ k ∈ ks, FnR Try.prog 36 [.c (RM l), .c (ncd k)] (RL (lin (inR l) k))) : FnR Try.prog 36 [.c (RM l), .c (ncd (.nd n false ks))] (RL (lin (inR l) (.nd n false ks))) := by
  have h0 : ks ≠ [] := fun e => by
    subst e; rw [st_nd] at hst; simp only [List.map_nil, stK] at hst; split at hst <;> cases hst
  have g32 := x32 l _ hs
  rw [hst] at g32
  have g35 := x35 l n false ks hs h0
  have hks : ks.length ≤ 100 := by cases hs with | nd _ h _ => exact h
  have le := fil_len (inR l) 0 ks
  have lf := fil_len (inR l) 2 ks
  have ge := x21 (fil (inR l) 0 ks) (by omega)
  have gf := x21 (fil (inR l) 2 ks) (by omega)
  have g37 := x37n_41 (grp (fil (inR l) 0 ks))
  have hlin : lin (inR l) (.nd n false ks) = linP (grp (fil (inR l) 0 ks)) (grp (fil (inR l) 2 ks)) ((fil (inR l) 1 ks).map fun k => (k, lin (inR l) k)) := by
    rw [lin_nd]; unfold linK; rw [if_neg (by omega)]; simp only [cond_false]; rw [zf]
  rw [hlin]
  have hcp := cells_len (fil (inR l) 1 ks)
  have hpm : ∀ k ∈ fil (inR l) 1 ks, k ∈ ks := fun k hk => (List.mem_filter.1 hk).1
  have hj0 : ocs (grp (fil (inR l) 0 ks)) = cells (jn [] (grp (fil (inR l) 0 ks))) := by rw [← ocs_jn]; rfl
  have hl0 := jn_len [] (grp (fil (inR l) 0 ks))
  generalize fil (inR l) 1 ks = ps at *
  generalize grp (fil (inR l) 0 ks) = E at *
  generalize grp (fil (inR l) 2 ks) = F at *
  rw [hj0] at g37
  match ps, hcp, hpm with
  | [], hcp, hpm =>
    have g37' := x37_66 (cells (jn [] E)) (by rw [cells_len]; simp only [List.length_nil] at hl0; omega) F
    rw [ocs_jn] at g37'
    have hR : RL (linP E F (([] : List N).map fun k => (k, lin (inR l) k))) = [.own 42 1 (cells (jn (jn [] E) F)), .c (.B true)] := rfl
    rw [hR]
    refine fn_walk code36 (by simp) ?_
    (repeat' (first | (with_reducible refine h36_13 ?_) | refine Sni.mk (fun hc => ?_) ?_ | refine Both.mk ?_ ?_ | ((first | refine aw ?_ | refine aD ?_ | refine aX ?_ | refine CallAt.mkG (g35 ..) (by simp (disch := omega) only [go_sem, seval, reduceCtorEq]) ?_ | refine cT ?_ | refine cF ?_ | refine cR (g32 ..) ?_ | refine cG (g32 ..) ?_); try simp (disch := omega) only [go_sem, seval, reduceCtorEq]) | refine aI (fun hc => ?_) fun hc => ?_ | simp (disch := omega) only [go_sem, seval, reduceCtorEq] | (refine And.intro ?_ ?_; focus (first | (intros; omega) | (intros; simp_all; done))) | refine aC ?_ ?_ | refine aC' ?_ ?_ | refine aA ?_ ?_ | fail))
    refine ⟨AW_frz [901, 902, 903] ?_⟩
    simp (disch := omega) only [go_sem, seval, reduceCtorEq]
    (repeat' (first | refine Sni.mk (fun hc => ?_) ?_ | refine Both.mk ?_ ?_ | refine AW_enter ?_ | refine AWin_round ?_ | ((first | refine aw ?_ | refine aD ?_ | refine aX ?_ | refine cW (g37 ..) (by simp (disch := omega) only [go_sem, seval, reduceCtorEq, hcp, cells, List.length_nil]) ?_ | refine cW (g37' ..) (by simp (disch := omega) only [go_sem, seval, reduceCtorEq, hcp, cells, List.length_nil]) ?_ | refine cT ?_ | refine cF ?_ | refine cR (ge ..) ?_ | refine cG (ge ..) ?_ | refine cR (gf ..) ?_ | refine cG (gf ..) ?_); try simp (disch := omega) only [go_sem, seval, reduceCtorEq, hcp, cells, List.length_nil]) | refine aI (fun hc => ?_) fun hc => ?_ | simp (disch := omega) only [go_sem, seval, reduceCtorEq, hcp, cells, List.length_nil] | (refine And.intro ?_ ?_; focus (first | (intros; omega) | (intros; simp_all; done))) | refine aC ?_ ?_ | refine aC' ?_ ?_ | refine aA ?_ ?_ | fail))
    all_goals first | omega | skip
  | [k], hcp, hpm =>
    have ihk := ih k (hpm k (by simp))
    have hkz : sz k ≤ 100 := by
      have h1 := szs_mem (hpm k (by simp))
      rw [sz_nd] at hz; omega
    have hll := lin_len (inR l) k
    have hg : (cells [k]).getD 0 [] = [ncd k] := rfl
    cases hlk : lin (inR l) k with
    | none =>
      rw [hlk, RL_none] at ihk
      have hR : RL (linP E F ([k].map fun k => (k, lin (inR l) k))) = [.c .nil, .c (.B false)] := by rw [List.map_cons, hlk]; rfl
      rw [hR]
      refine fn_walk code36 (by simp) ?_
      (repeat' (first | (with_reducible refine h36_13 ?_) | refine Sni.mk (fun hc => ?_) ?_ | refine Both.mk ?_ ?_ | ((first | refine aw ?_ | refine aD ?_ | refine aX ?_ | refine CallAt.mkG (g35 ..) (by simp (disch := omega) only [go_sem, seval, reduceCtorEq]) ?_ | refine cT ?_ | refine cF ?_ | refine cR (g32 ..) ?_ | refine cG (g32 ..) ?_); try simp (disch := omega) only [go_sem, seval, reduceCtorEq]) | refine aI (fun hc => ?_) fun hc => ?_ | simp (disch := omega) only [go_sem, seval, reduceCtorEq] | (refine And.intro ?_ ?_; focus (first | (intros; omega) | (intros; simp_all; done))) | refine aC ?_ ?_ | refine aC' ?_ ?_ | refine aA ?_ ?_ | fail))
      refine ⟨AW_frz [901, 902, 903] ?_⟩
      simp (disch := omega) only [go_sem, seval, reduceCtorEq]
      (repeat' (first | refine Sni.mk (fun hc => ?_) ?_ | refine Both.mk ?_ ?_ | refine AW_enter ?_ | refine AWin_round ?_ | ((first | refine aw ?_ | refine aD ?_ | refine aX ?_ | refine cW (g37 ..) (by simp (disch := omega) only [go_sem, seval, reduceCtorEq, hcp, hg, List.length_cons, List.length_nil]) ?_ | refine cT ?_ | refine cF ?_ | refine cR (ge ..) ?_ | refine cG (ge ..) ?_ | refine cR (gf ..) ?_ | refine cG (gf ..) ?_ | refine cR (ihk ..) ?_ | refine cG (ihk ..) ?_); try simp (disch := omega) only [go_sem, seval, reduceCtorEq, hcp, hg, List.length_cons, List.length_nil]) | refine aI (fun hc => ?_) fun hc => ?_ | simp (disch := omega) only [go_sem, seval, reduceCtorEq, hcp, hg, List.length_cons, List.length_nil] | (refine And.intro ?_ ?_; focus (first | (intros; omega) | (intros; simp_all; done))) | refine aC ?_ ?_ | refine aC' ?_ ?_ | refine aA ?_ ?_ | fail))
      all_goals first | omega | skip
    | some m =>
      have hml := hll m hlk
      rw [hlk, RL_some] at ihk
      have g37' := x37_66 (cells (jn [] E ++ m)) (by rw [cells_len, List.length_append]; simp only [List.length_nil] at hl0; omega) F
      rw [ocs_jn] at g37'
      have hR : RL (linP E F ([k].map fun k => (k, lin (inR l) k))) = [.own 42 1 (cells (jn (jn [] E ++ m) F)), .c (.B true)] := by rw [List.map_cons, hlk]; rfl
      rw [hR]
      have hca : cells (jn [] E) ++ cells m = cells (jn [] E ++ m) := (cells_app _ _).symm
      have hl1 := cells_len (jn [] E)
      have hl2 := cells_len m
      have hl0' : (jn [] E).length ≤ 1 := hl0
      refine fn_walk code36 (by simp) ?_
      (repeat' (first | (with_reducible refine h36_13 ?_) | refine Sni.mk (fun hc => ?_) ?_ | refine Both.mk ?_ ?_ | ((first | refine aw ?_ | refine aD ?_ | refine aX ?_ | refine CallAt.mkG (g35 ..) (by simp (disch := omega) only [go_sem, seval, reduceCtorEq]) ?_ | refine cT ?_ | refine cF ?_ | refine cR (g32 ..) ?_ | refine cG (g32 ..) ?_); try simp (disch := omega) only [go_sem, seval, reduceCtorEq]) | refine aI (fun hc => ?_) fun hc => ?_ | simp (disch := omega) only [go_sem, seval, reduceCtorEq] | (refine And.intro ?_ ?_; focus (first | (intros; omega) | (intros; simp_all; done))) | refine aC ?_ ?_ | refine aC' ?_ ?_ | refine aA ?_ ?_ | fail))
      refine ⟨AW_frz [901, 902, 903] ?_⟩
      simp (disch := omega) only [go_sem, seval, reduceCtorEq]
      (repeat' (first | refine Sni.mk (fun hc => ?_) ?_ | refine Both.mk ?_ ?_ | refine AW_enter ?_ | refine AWin_round ?_ | ((first | refine aw ?_ | refine aD ?_ | refine aX ?_ | refine cW (g37 ..) (by simp (disch := omega) only [go_sem, seval, reduceCtorEq, hcp, hg, hca, hl1, hl2, maxLen, List.length_cons, List.length_nil]) ?_ | refine cW (g37' ..) (by simp (disch := omega) only [go_sem, seval, reduceCtorEq, hcp, hg, hca, hl1, hl2, maxLen, List.length_cons, List.length_nil]) ?_ | refine cT ?_ | refine cF ?_ | refine cR (ge ..) ?_ | refine cG (ge ..) ?_ | refine cR (gf ..) ?_ | refine cG (gf ..) ?_ | refine cR (ihk ..) ?_ | refine cG (ihk ..) ?_); try simp (disch := omega) only [go_sem, seval, reduceCtorEq, hcp, hg, hca, hl1, hl2, maxLen, List.length_cons, List.length_nil]) | refine aI (fun hc => ?_) fun hc => ?_ | simp (disch := omega) only [go_sem, seval, reduceCtorEq, hcp, hg, hca, hl1, hl2, maxLen, List.length_cons, List.length_nil] | (refine And.intro ?_ ?_; focus (first | (intros; omega) | (intros; simp_all; done))) | refine aC ?_ ?_ | refine aC' ?_ ?_ | refine aA ?_ ?_ | fail))
      all_goals first | omega | skip
  | a :: b :: r, hcp, hpm =>
    have hR : RL (linP E F ((a :: b :: r).map fun k => (k, lin (inR l) k))) = [.c .nil, .c (.B false)] := by
      have : linP E F ((a :: b :: r).map fun k => (k, lin (inR l) k)) = none := by
        simp only [List.map_cons]
        cases lin (inR l) a <;> rfl
      rw [this]; rfl
    rw [hR]
    have hl2 : (cells (a :: b :: r)).length = r.length + 2 := hcp
    have hgt : (((r.length + 2 : Nat) : Int) > 1) = True := eq_true (by omega)
    refine fn_walk code36 (by simp) ?_
    (repeat' (first | (with_reducible refine h36_13 ?_) | refine Sni.mk (fun hc => ?_) ?_ | refine Both.mk ?_ ?_ | ((first | refine aw ?_ | refine aD ?_ | refine aX ?_ | refine CallAt.mkG (g35 ..) (by simp (disch := omega) only [go_sem, seval, reduceCtorEq]) ?_ | refine cT ?_ | refine cF ?_ | refine cR (g32 ..) ?_ | refine cG (g32 ..) ?_); try simp (disch := omega) only [go_sem, seval, reduceCtorEq]) | refine aI (fun hc => ?_) fun hc => ?_ | simp (disch := omega) only [go_sem, seval, reduceCtorEq] | (refine And.intro ?_ ?_; focus (first | (intros; omega) | (intros; simp_all; done))) | refine aC ?_ ?_ | refine aC' ?_ ?_ | refine aA ?_ ?_ | fail))
    refine ⟨AW_frz [901, 902, 903] ?_⟩
    simp (disch := omega) only [go_sem, seval, reduceCtorEq]
    (repeat' (first | refine Sni.mk (fun hc => ?_) ?_ | refine Both.mk ?_ ?_ | ((first | refine aw ?_ | refine aD ?_ | refine aX ?_ | refine cT ?_ | refine cF ?_); try simp (disch := omega) only [go_sem, seval, reduceCtorEq, hl2, hgt]) | refine aI (fun hc => ?_) fun hc => ?_ | simp (disch := omega) only [go_sem, seval, reduceCtorEq, hl2, hgt] | (refine And.intro ?_ ?_; focus (first | (intros; omega) | (intros; simp_all; done))) | refine aA ?_ ?_ | fail))
    all_goals first | omega | skip
end Go.Proofs.Ytcimlelkeppoiaa

open Go Go.AL Go.RowKit
namespace Go.Proofs.Ytcimlelkeppoiaa
set_option maxRecDepth 20000
theorem h36_87 {Q : Exit → St → Prop} {σ : St} (h : Hold (AW Try.prog c36_87 Q σ)) : AW Try.prog c36_87 Q σ := h.out
theorem h36_88 {Q : Exit → St → Prop} {σ : St} (h : Hold (AW Try.prog c36_88 Q σ)) : AW Try.prog c36_88 Q σ := h.out
def sQ (l : List Nat) (ws : List N) : St := ⟨122, [(0, .c (RM l)), (12, .c (K ws))], []⟩
structure Wq where
  (i : Nat) (acc : List N) (last : Nat)
set_option maxHeartbeats 8000000 in
theorem z36 (l : List Nat) (ws : List N) (hz : szs ws ≤ 100) (hsm : ∀ k ∈ ws, Sm k) (ih : ∀ k ∈ ws, FnR Try.prog 36 [.c (RM l), .c (ncd k)] (RL (lin (inR l) k))) :
    AW Try.prog c36_88 (retQ [4, 5] (RL (linA (inR l) [] 0 (ws.map fun k => (k, lin (inR l) k))))) (sQ l ws) := by
  have hcl := cells_len ws
  have hwl := szs_len ws
  generalize hRES : linA (inR l) [] 0 (ws.map fun k => (k, lin (inR l) k)) = RES
  unfold sQ
  (repeat' (first | (with_reducible refine h36_87 ?_) | refine Sni.mk (fun hc => ?_) ?_ | refine Both.mk ?_ ?_ | ((first | refine aw ?_ | refine aD ?_ | refine aX ?_ | refine cT ?_ | refine cF ?_); try simp (disch := omega) only [go_sem, seval, reduceCtorEq]) | refine aI (fun hc => ?_) fun hc => ?_ | simp (disch := omega) only [go_sem, seval, reduceCtorEq] | (refine And.intro ?_ ?_; focus (first | (intros; omega) | (intros; simp_all; done))) | refine aA ?_ ?_ | fail))
  refine ⟨AW_nil 13 901 42 1 (by rfl) ?_⟩
  simp (disch := omega) only [go_sem, seval, reduceCtorEq]
  (repeat' (first | refine Sni.mk (fun hc => ?_) ?_ | refine Both.mk ?_ ?_ | ((first | refine aw ?_ | refine aD ?_ | refine aX ?_ | refine cT ?_ | refine cF ?_); try simp (disch := omega) only [go_sem, seval, reduceCtorEq, hcl]) | refine aI (fun hc => ?_) fun hc => ?_ | simp (disch := omega) only [go_sem, seval, reduceCtorEq, hcl] | (refine And.intro ?_ ?_; focus (first | (intros; omega) | (intros; simp_all; done))) | refine aA ?_ ?_ | fail))
  refine AW_loopK [0, 88, 89] [4, 5, 13, 14, 16, 17, 18, 19, 90, 91, 92, 93, 94, 95, 96, 97, 98, 99, 100, 101, 102, 103, 104, 105, 106, 107, 108, 109, 110, 111, 112, 113, 114, 115, 116, 117, 118, 119, 120] (fun w : Wq => w.i ≤ ws.length ∧ linA (inR l) w.acc w.last ((ws.map fun k => (k, lin (inR l) k)).drop w.i) = RES ∧ w.acc.length ≤ 2 * szs (ws.take w.i) ∧ w.last ≤ 2) (fun w => [(13, .own 901), (14, .I (w.last : Int)), (90, .I (w.i : Int))]) (fun w => [(901, .arr 42 1 (cells w.acc))]) (fun w => ws.length - w.i) ⟨0, [], 0⟩ ⟨by simp, by simpa using hRES, by simp, by simp⟩ ?_ ?_
  · simp (disch := omega) only [go_sem, seval, reduceCtorEq, cells, Int.natCast_zero]
  · rintro ⟨i, acc, last⟩ ⟨w1, w2, w3, w4⟩
    simp only at w1 w2 w3 w4
    have hal := cells_len acc
    have htz : szs (ws.take i) ≤ 100 := by
      have := szs_app (ws.take i) (ws.drop i)
      rw [List.take_append_drop] at this; omega
    rcases Nat.lt_or_ge i ws.length with hil | hil
    · have hkk : ((i : Int) < (ws.length : Int)) = True := eq_true (by omega)
      have hm : nth ws i ∈ ws := by rw [nth_eq ws i hil]; exact List.getElem_mem hil
      have g32 := x32 l (nth ws i) (hsm _ hm)
      have ihk := ih _ hm
      have hge := cells_get hil
      have hll := lin_len (inR l) (nth ws i)
      have htk : ws.take (i + 1) = ws.take i ++ [nth ws i] := by rw [nth_eq ws i hil, List.take_succ_eq_append_getElem hil]
      have hdr : (ws.map fun k => (k, lin (inR l) k)).drop i = (nth ws i, lin (inR l) (nth ws i)) :: (ws.map fun k => (k, lin (inR l) k)).drop (i + 1) := by
        rw [List.drop_eq_getElem_cons (by simpa using hil), List.getElem_map, nth_eq ws i hil]
      rw [hdr] at w2
      have hsl := st_le (inR l) (nth ws i)
      have htz2 : szs (ws.take (i + 1)) = szs (ws.take i) + sz (nth ws i) := by rw [htk, szs_app]; simp [szs]
      have htz3 : szs (ws.take (i + 1)) ≤ 100 := by
        have := szs_app (ws.take (i + 1)) (ws.drop (i + 1))
        rw [List.take_append_drop] at this; omega
      simp only [linA] at w2
      generalize hk : nth ws i = k at *
      generalize hs : st (inR l) k = s at *
      by_cases hlt : s < last
      · have f1 : ((s : Int) < (last : Int)) = True := eq_true (by omega)
        rw [if_pos (.inl hlt)] at w2
        subst w2
        rw [RL_none]
        (repeat' (first | refine Sni.mk (fun hc => ?_) ?_ | refine Both.mk ?_ ?_ | ((first | refine aw ?_ | refine aD ?_ | refine aX ?_ | refine cT ?_ | refine cF ?_ | refine cR (g32 ..) ?_ | refine cG (g32 ..) ?_ | refine cD (g32 ..) ?_); try simp (disch := omega) only [go_sem, seval, reduceCtorEq, hkk, hge, hcl, f1, Int.toNat_natCast]) | refine aI (fun hc => ?_) fun hc => ?_ | simp (disch := omega) only [go_sem, seval, reduceCtorEq, hkk, hge, hcl, f1, Int.toNat_natCast] | (refine And.intro ?_ ?_; focus (first | (intros; omega) | (intros; simp_all; done))) | refine aC ?_ ?_ | refine aC' ?_ ?_ | refine aA ?_ ?_ | fail))
        all_goals first | omega | skip
      · have f1 : ((s : Int) < (last : Int)) = False := eq_false (by omega)
        by_cases hp : s = 1 ∧ last = 1
        · obtain ⟨rfl, rfl⟩ := hp
          rw [if_pos (.inr ⟨rfl, rfl⟩)] at w2
          subst w2
          rw [RL_none]
          (repeat' (first | refine Sni.mk (fun hc => ?_) ?_ | refine Both.mk ?_ ?_ | ((first | refine aw ?_ | refine aD ?_ | refine aX ?_ | refine cT ?_ | refine cF ?_ | refine cR (g32 ..) ?_ | refine cG (g32 ..) ?_ | refine cD (g32 ..) ?_); try simp (disch := omega) only [go_sem, seval, reduceCtorEq, hkk, hge, hcl, f1, Int.toNat_natCast, Int.natCast_one]) | refine aI (fun hc => ?_) fun hc => ?_ | simp (disch := omega) only [go_sem, seval, reduceCtorEq, hkk, hge, hcl, f1, Int.toNat_natCast, Int.natCast_one] | (refine And.intro ?_ ?_; focus (first | (intros; omega) | (intros; simp_all; done))) | refine aC ?_ ?_ | refine aC' ?_ ?_ | refine aA ?_ ?_ | fail))
          all_goals first | omega | skip
        · rw [if_neg (by omega)] at w2
          have hpb : ((s : Int) = 1) = False ∨ (((s : Int) = 1) = True ∧ ((last : Int) = 1) = False) := by
            by_cases h1 : s = 1
            · exact .inr ⟨eq_true (by omega), eq_false (by omega)⟩
            · exact .inl (eq_false (by omega))
          cases hlk : lin (inR l) k with
          | none =>
            rw [hlk, RL_none] at ihk
            rw [hlk] at w2
            simp only at w2
            subst w2
            rw [RL_none]
            rcases hpb with f2 | ⟨f2, f3⟩
            · (repeat' (first | refine Sni.mk (fun hc => ?_) ?_ | refine Both.mk ?_ ?_ | ((first | refine aw ?_ | refine aD ?_ | refine aX ?_ | refine cT ?_ | refine cF ?_ | refine cR (g32 ..) ?_ | refine cG (g32 ..) ?_ | refine cD (g32 ..) ?_ | refine cR (ihk ..) ?_ | refine cG (ihk ..) ?_ | refine cD (ihk ..) ?_); try simp (disch := omega) only [go_sem, seval, reduceCtorEq, hkk, hge, hcl, f1, f2, Int.toNat_natCast]) | refine aI (fun hc => ?_) fun hc => ?_ | simp (disch := omega) only [go_sem, seval, reduceCtorEq, hkk, hge, hcl, f1, f2, Int.toNat_natCast] | (refine And.intro ?_ ?_; focus (first | (intros; omega) | (intros; simp_all; done))) | refine aC ?_ ?_ | refine aC' ?_ ?_ | refine aA ?_ ?_ | fail))
              all_goals first | omega | skip
            · (repeat' (first | refine Sni.mk (fun hc => ?_) ?_ | refine Both.mk ?_ ?_ | ((first | refine aw ?_ | refine aD ?_ | refine aX ?_ | refine cT ?_ | refine cF ?_ | refine cR (g32 ..) ?_ | refine cG (g32 ..) ?_ | refine cD (g32 ..) ?_ | refine cR (ihk ..) ?_ | refine cG (ihk ..) ?_ | refine cD (ihk ..) ?_); try simp (disch := omega) only [go_sem, seval, reduceCtorEq, hkk, hge, hcl, f1, f2, f3, Int.toNat_natCast]) | refine aI (fun hc => ?_) fun hc => ?_ | simp (disch := omega) only [go_sem, seval, reduceCtorEq, hkk, hge, hcl, f1, f2, f3, Int.toNat_natCast] | (refine And.intro ?_ ?_; focus (first | (intros; omega) | (intros; simp_all; done))) | refine aC ?_ ?_ | refine aC' ?_ ?_ | refine aA ?_ ?_ | fail))
              all_goals first | omega | skip
          | some m =>
            have hml := hll m hlk
            rw [hlk, RL_some] at ihk
            rw [hlk] at w2
            simp only at w2
            have hca : cells acc ++ cells m = cells (acc ++ m) := (cells_app _ _).symm
            have hl2 := cells_len m
            rcases hpb with f2 | ⟨f2, f3⟩
            · (repeat' (first | refine Sni.mk (fun hc => ?_) ?_ | refine Both.mk ?_ ?_ | ((first | refine aw ?_ | refine aD ?_ | refine aX ?_ | refine cT ?_ | refine cF ?_ | refine cR (g32 ..) ?_ | refine cG (g32 ..) ?_ | refine cD (g32 ..) ?_ | refine cR (ihk ..) ?_ | refine cG (ihk ..) ?_ | refine cD (ihk ..) ?_); try simp (disch := omega) only [go_sem, seval, reduceCtorEq, hkk, hge, hcl, hal, hl2, hca, f1, f2, maxLen, Int.toNat_natCast]) | refine aI (fun hc => ?_) fun hc => ?_ | simp (disch := omega) only [go_sem, seval, reduceCtorEq, hkk, hge, hcl, hal, hl2, hca, f1, f2, maxLen, Int.toNat_natCast] | (refine And.intro ?_ ?_; focus (first | (intros; omega) | (intros; simp_all; done))) | refine aC ?_ ?_ | refine aC' ?_ ?_ | refine aA ?_ ?_ | fail))
              all_goals first | omega | skip
              all_goals (
                refine .mk ⟨i + 1, acc ++ m, s⟩ ⟨by simp only []; omega, w2, by simp only [List.length_append]; omega, by simp only []; omega⟩ (by simp only []; omega) ?_
                simp (disch := omega) only [go_sem, seval, reduceCtorEq, Int.natCast_add, Int.natCast_one])
            · (repeat' (first | refine Sni.mk (fun hc => ?_) ?_ | refine Both.mk ?_ ?_ | ((first | refine aw ?_ | refine aD ?_ | refine aX ?_ | refine cT ?_ | refine cF ?_ | refine cR (g32 ..) ?_ | refine cG (g32 ..) ?_ | refine cD (g32 ..) ?_ | refine cR (ihk ..) ?_ | refine cG (ihk ..) ?_ | refine cD (ihk ..) ?_); try simp (disch := omega) only [go_sem, seval, reduceCtorEq, hkk, hge, hcl, hal, hl2, hca, f1, f2, f3, maxLen, Int.toNat_natCast]) | refine aI (fun hc => ?_) fun hc => ?_ | simp (disch := omega) only [go_sem, seval, reduceCtorEq, hkk, hge, hcl, hal, hl2, hca, f1, f2, f3, maxLen, Int.toNat_natCast] | (refine And.intro ?_ ?_; focus (first | (intros; omega) | (intros; simp_all; done))) | refine aC ?_ ?_ | refine aC' ?_ ?_ | refine aA ?_ ?_ | fail))
              all_goals first | omega | skip
              all_goals (
                refine .mk ⟨i + 1, acc ++ m, s⟩ ⟨by simp only []; omega, w2, by simp only [List.length_append]; omega, by simp only []; omega⟩ (by simp only []; omega) ?_
                simp (disch := omega) only [go_sem, seval, reduceCtorEq, Int.natCast_add, Int.natCast_one])
    · obtain rfl : i = ws.length := by omega
      have hkk : ((ws.length : Int) < (ws.length : Int)) = False := eq_false (by omega)
      rw [List.drop_of_length_le (by simp)] at w2
      simp only [linA] at w2
      subst w2
      rw [RL_some]
      (repeat' (first | refine Sni.mk (fun hc => ?_) ?_ | refine Both.mk ?_ ?_ | ((first | refine aw ?_ | refine aD ?_ | refine aX ?_ | refine cT ?_ | refine cF ?_); try simp (disch := omega) only [go_sem, seval, reduceCtorEq, hkk]) | refine aI (fun hc => ?_) fun hc => ?_ | simp (disch := omega) only [go_sem, seval, reduceCtorEq, hkk] | (refine And.intro ?_ ?_; focus (first | (intros; omega) | (intros; simp_all; done))) | refine aA ?_ ?_ | fail))
set_option maxHeartbeats 8000000 in
theorem x36Q (l : List Nat) (n : Nat) (ks : List N) (hs : Sm (.nd n true ks)) (hz : sz (.nd n true ks) ≤ 100) (hst : st (inR l) (.nd n true ks) = 1)
    (ih : ∀ k ∈ ks, FnR Try.prog 36 [.c (RM l), .c (ncd k)] (RL (lin (inR l) k))) : FnR Try.prog 36 [.c (RM l), .c (ncd (.nd n true ks))] (RL (lin (inR l) (.nd n true ks))) := by
  have h0 : ks ≠ [] := fun e => by
    subst e; rw [st_nd] at hst; simp only [List.map_nil, stK] at hst; split at hst <;> cases hst
  have hpos : 0 < ks.length := Nat.pos_of_ne_zero fun e => h0 (List.eq_nil_of_length_eq_zero e)
  have g32 := x32 l _ hs
  rw [hst] at g32
  have hsm : ∀ k ∈ ks, Sm k := by cases hs with | nd _ _ h => exact h
  have hks : ks.length ≤ 100 := by cases hs with | nd _ h _ => exact h
  have hkc : kcd (cells ks) = .sl 1 (cells ks) := by cases ks with | nil => exact absurd rfl h0 | cons a r => rfl
  have hlin : lin (inR l) (.nd n true ks) = linA (inR l) [] 0 ((if st (inR l) (nth ks 0) > st (inR l) (nth ks (ks.length - 1)) then ks.reverse else ks).map fun k => (k, lin (inR l) k)) := by
    rw [lin_nd]; unfold linK; rw [if_neg (by omega)]; simp only [cond_true]
    split
    · rw [List.map_reverse]
    · rfl
  rw [hlin]
  have hnc : ncd (.nd n true ks) = .dp [.I (n : Int), .B true, .sl 1 (cells ks)] := by unfold ncd; rw [hkc]
  rw [hnc] at g32 ⊢
  have hcl := cells_len ks
  have m0 : nth ks 0 ∈ ks := by rw [nth_eq ks 0 hpos]; exact List.getElem_mem hpos
  have m1 : nth ks (ks.length - 1) ∈ ks := by rw [nth_eq ks _ (by omega)]; exact List.getElem_mem _
  have ga := x32 l _ (hsm _ m0)
  have gb := x32 l _ (hsm _ m1)
  have hga := cells_get hpos
  have hgb := cells_get (ks := ks) (i := ks.length - 1) (by omega)
  rw [sz_nd] at hz
  have e1 : ((0 : Int) < (ks.length : Int)) = True := eq_true (by omega)
  have e2 : ((ks.length : Int) - 1 < (ks.length : Int)) = True := eq_true (by omega)
  have e3 : ((ks.length : Int) - 1).toNat = ks.length - 1 := by omega
  have e4 : (0 : Int).toNat = 0 := rfl
  generalize nth ks 0 = k0 at *
  generalize nth ks (ks.length - 1) = k1 at *
  generalize st (inR l) k0 = s0 at *
  generalize st (inR l) k1 = s1 at *
  by_cases hgt : s0 > s1
  · have f1 : ((s0 : Int) > (s1 : Int)) = True := eq_true (by omega)
    rw [if_pos hgt]
    have gr := x38 ks (by omega) h0
    have zz := z36 l ks.reverse (by rw [szs_rev]; omega) (fun k hk => hsm k (List.mem_reverse.1 hk)) fun k hk => ih k (List.mem_reverse.1 hk)
    generalize RL (linA (inR l) [] 0 (ks.reverse.map fun k => (k, lin (inR l) k))) = RES at *
    refine fn_walk code36 (by simp) ?_
    (repeat' (first | (with_reducible refine h36_88 ?_) | refine Sni.mk (fun hc => ?_) ?_ | refine Both.mk ?_ ?_ | ((first | refine aw ?_ | refine aD ?_ | refine aX ?_ | refine cT ?_ | refine cF ?_ | refine cR (g32 ..) ?_ | refine cG (g32 ..) ?_ | refine cD (g32 ..) ?_ | refine cR (ga ..) ?_ | refine cG (ga ..) ?_ | refine cD (ga ..) ?_ | refine cR (gb ..) ?_ | refine cG (gb ..) ?_ | refine cD (gb ..) ?_ | refine cR (gr ..) ?_ | refine cG (gr ..) ?_ | refine cD (gr ..) ?_); try simp (disch := omega) only [go_sem, seval, reduceCtorEq, hcl, hga, hgb, e1, e2, e3, e4, f1]) | refine aI (fun hc => ?_) fun hc => ?_ | simp (disch := omega) only [go_sem, seval, reduceCtorEq, hcl, hga, hgb, e1, e2, e3, e4, f1] | (refine And.intro ?_ ?_; focus (first | (intros; omega) | (intros; simp_all; done))) | refine aC ?_ ?_ | refine aC' ?_ ?_ | refine aA ?_ ?_ | fail))
    all_goals first | omega | skip
    refine ⟨AW_frz [87] ?_⟩
    refine AW_le (sQ l ks.reverse) (by unfold sQ; simp (disch := omega) only [go_sem, seval, reduceCtorEq]) zz
  · have f1 : ((s0 : Int) > (s1 : Int)) = False := eq_false (by omega)
    rw [if_neg hgt]
    have zz := z36 l ks (by omega) hsm ih
    generalize RL (linA (inR l) [] 0 (ks.map fun k => (k, lin (inR l) k))) = RES at *
    refine fn_walk code36 (by simp) ?_
    (repeat' (first | (with_reducible refine h36_88 ?_) | refine Sni.mk (fun hc => ?_) ?_ | refine Both.mk ?_ ?_ | ((first | refine aw ?_ | refine aD ?_ | refine aX ?_ | refine cT ?_ | refine cF ?_ | refine cR (g32 ..) ?_ | refine cG (g32 ..) ?_ | refine cD (g32 ..) ?_ | refine cR (ga ..) ?_ | refine cG (ga ..) ?_ | refine cD (ga ..) ?_ | refine cR (gb ..) ?_ | refine cG (gb ..) ?_ | refine cD (gb ..) ?_); try simp (disch := omega) only [go_sem, seval, reduceCtorEq, hcl, hga, hgb, e1, e2, e3, e4, f1]) | refine aI (fun hc => ?_) fun hc => ?_ | simp (disch := omega) only [go_sem, seval, reduceCtorEq, hcl, hga, hgb, e1, e2, e3, e4, f1] | (refine And.intro ?_ ?_; focus (first | (intros; omega) | (intros; simp_all; done))) | refine aC ?_ ?_ | refine aC' ?_ ?_ | refine aA ?_ ?_ | fail))
    all_goals first | omega | skip
    refine ⟨AW_le (sQ l ks) (by unfold sQ; simp (disch := omega) only [go_sem, seval, reduceCtorEq]) zz⟩
set_option maxHeartbeats 4000000 in
theorem x36 (l : List Nat) : ∀ v, Sm v → sz v ≤ 100 → FnR Try.prog 36 [.c (RM l), .c (ncd v)] (RL (lin (inR l) v)) := by
  refine N.ind fun n q ks ih => ?_
  intro hs hz
  have hsm : ∀ k ∈ ks, Sm k := by cases hs with | nd _ _ h => exact h
  have ihk : ∀ k ∈ ks, FnR Try.prog 36 [.c (RM l), .c (ncd k)] (RL (lin (inR l) k)) := fun k hk => ih k hk (hsm k hk) (by
    have := szs_mem hk
    rw [sz_nd] at hz; omega)
  by_cases hst : st (inR l) (.nd n q ks) = 1
  · cases q with
    | true => exact x36Q l n ks hs hz hst ihk
    | false => exact x36P l n ks hs hz hst ihk
  · have hlin : lin (inR l) (.nd n q ks) = some [.nd n q ks] := by rw [lin_nd]; unfold linK; rw [if_pos hst]
    rw [hlin, RL_some]
    have g32 := x32 l _ hs
    have f1 : (((st (inR l) (.nd n q ks) : Nat) : Int) = 1) = False := eq_false (by omega)
    have hc : cells [.nd n q ks] = [[ncd (.nd n q ks)]] := rfl
    rw [hc]
    generalize st (inR l) (.nd n q ks) = s at *
    generalize ncd (.nd n q ks) = d at *
    refine fn_walk code36 (by simp) ?_
    (repeat' (first | refine Sni.mk (fun hc => ?_) ?_ | refine Both.mk ?_ ?_ | ((first | refine aw ?_ | refine aD ?_ | refine aX ?_ | refine cT ?_ | refine cF ?_ | refine cR (g32 ..) ?_ | refine cG (g32 ..) ?_ | refine cD (g32 ..) ?_); try simp (disch := omega) only [go_sem, seval, reduceCtorEq, f1]) | refine aI (fun hc => ?_) fun hc => ?_ | simp (disch := omega) only [go_sem, seval, reduceCtorEq, f1] | (refine And.intro ?_ ?_; focus (first | (intros; omega) | (intros; simp_all; done))) | refine aC ?_ ?_ | refine aC' ?_ ?_ | refine aA ?_ ?_ | fail))
end Go.Proofs.Ytcimlelkeppoiaa

