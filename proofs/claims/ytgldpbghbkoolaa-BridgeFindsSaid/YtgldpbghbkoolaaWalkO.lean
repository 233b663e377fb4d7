/-
  Lemmas for the proof: no statement of its own.
-/
import Derived.Test.YtgldpbghbkoolaaWalkN
import Derived.Test.YtgldpbghbkoolaaAlD
import Derived.KernelRfl
set_option linter.unusedVariables false
set_option linter.unusedSimpArgs false
-- P p_15.txt
open Go Go.AL Go.RowKit
namespace Go.Proofs.Ytgldpbghbkoolaa
set_option maxRecDepth 20000
/- coinage/bridge.Hinges -/
abbrev c25_1 : AC := .reg [⟨(some 1), .box 25 (some 3) (.t 0), none⟩,
  ⟨(some 2), .mv (.k (.c .nil)), none⟩,
  ⟨(some 3), .mv (.k (.I 0)), none⟩] false
abbrev c25_2 : AC := .reg [⟨(some 15), .ld (some 3) (.t 1), none⟩,
  ⟨(some 16), .call 48 [(.t 15)], none⟩,
  ⟨(some 14), .mv (.t 16), none⟩,
  ⟨(some 17), .ext (.t 14) 0, none⟩,
  ⟨(some 18), .ext (.t 14) 1, none⟩,
  ⟨(some 4), .mv (.t 17), none⟩,
  ⟨(some 5), .mv (.t 18), none⟩] false
abbrev c25_3 : AC := .reg [⟨(some 19), .mv (.t 5), none⟩,
  ⟨(some 20), .bin .neq (.t 19) (.k (.I 0)), none⟩] false
abbrev c25_4 : AC := .reg [⟨(some 21), .mv (.t 5), none⟩,
  ⟨(some 2), .mv (.k (.c .nil)), none⟩,
  ⟨(some 3), .mv (.t 21), none⟩] false
abbrev c25_5 : AC := .seq c25_4 .ret
abbrev c25_6 : AC := .cond (.t 20) c25_5 .skip
abbrev c25_7 : AC := .seq c25_3 c25_6
abbrev c25_8 : AC := .reg [⟨(some 22), .ld (some 3) (.t 1), none⟩,
  ⟨(some 23), .call 34 [(.t 22)], none⟩,
  ⟨(some 6), .alloc 62 [(.I 0), (.c .nil), (.c .nil)], none⟩,
  ⟨none, .st (some 3) (.t 6) (.t 23), none⟩] false
abbrev c25_9 : AC := .reg [⟨(some 25), .ld (some 3) (.t 6), none⟩,
  ⟨(some 26), .call 40 [(.t 25), (.k (.fn 49 []))], none⟩,
  ⟨(some 24), .mv (.t 26), none⟩,
  ⟨(some 27), .ext (.t 24) 0, none⟩,
  ⟨(some 28), .ext (.t 24) 1, none⟩,
  ⟨(some 7), .mv (.t 27), none⟩,
  ⟨(some 8), .mv (.t 28), none⟩] false
abbrev c25_10 : AC := .reg [⟨(some 9), .mv (.k (.c .nil)), none⟩] false
abbrev c25_11 : AC := .reg [⟨(some 29), .mv (.t 4), none⟩,
  ⟨(some 30), .len (.t 29), none⟩,
  ⟨(some 31), .mv (.k (.I 0)), none⟩] false
abbrev c25_12 : AC := .reg [⟨(some 32), .bin .lss (.t 31) (.t 30), none⟩] false
abbrev c25_13 : AC := .cond (.t 32) .skip (.exit 0)
abbrev c25_14 : AC := .reg [⟨(some 33), .mv (.t 31), none⟩,
  ⟨(some 34), .iad 2 (.t 29) (.t 31), none⟩,
  ⟨(some 35), .ld (some 2) (.t 34), none⟩,
  ⟨(some 10), .alloc 3 [(.I 0)], none⟩,
  ⟨(some 11), .alloc 27 [(.I 0), (.I 0)], none⟩,
  ⟨none, .st none (.t 10) (.t 33), none⟩,
  ⟨none, .st (some 2) (.t 11) (.t 35), none⟩] false
abbrev c25_15 : AC := .reg [⟨(some 37), .ld (some 3) (.t 6), none⟩,
  ⟨(some 38), .mkfn 50 [(.t 6), (.t 10)], none⟩,
  ⟨(some 39), .call 40 [(.t 37), (.t 38)], none⟩,
  ⟨(some 36), .mv (.t 39), none⟩,
  ⟨(some 40), .ext (.t 36) 0, none⟩,
  ⟨(some 41), .ext (.t 36) 1, none⟩,
  ⟨(some 12), .mv (.t 40), none⟩,
  ⟨(some 13), .mv (.t 41), none⟩] false
abbrev c25_16 : AC := .reg [⟨(some 42), .mv (.t 13), none⟩,
  ⟨(some 43), .bin .sub (.t 42) (.k (.I 1)), none⟩,
  ⟨(some 44), .mv (.t 8), none⟩,
  ⟨(some 45), .bin .gtr (.t 43) (.t 44), none⟩] false
abbrev c25_17 : AC := .reg [⟨(some 46), .mv (.t 9), none⟩,
  ⟨(some 47), .ld (some 2) (.t 11), none⟩,
  ⟨(some 48), .bslice 27 2 [(.t 47)], none⟩,
  ⟨(some 49), .app 27 2 16 (.t 46) (.t 48), none⟩,
  ⟨(some 9), .mv (.t 49), none⟩] false
abbrev c25_18 : AC := .cond (.t 45) c25_17 .skip
abbrev c25_19 : AC := .seq c25_16 c25_18
abbrev c25_20 : AC := .seq c25_15 c25_19
abbrev c25_21 : AC := .seq c25_14 c25_20
abbrev c25_22 : AC := .block 1 c25_21
abbrev c25_23 : AC := .reg [⟨(some 50), .bin .add (.t 31) (.k (.I 1)), none⟩,
  ⟨(some 31), .mv (.t 50), none⟩] false
abbrev c25_24 : AC := .seq c25_22 c25_23
abbrev c25_25 : AC := .seq c25_13 c25_24
abbrev c25_26 : AC := .seq c25_12 c25_25
abbrev c25_27 : AC := .loop c25_26
abbrev c25_28 : AC := .block 0 c25_27
abbrev c25_29 : AC := .seq c25_11 c25_28
abbrev c25_30 : AC := .reg [⟨(some 51), .mv (.t 9), none⟩,
  ⟨(some 2), .mv (.t 51), none⟩,
  ⟨(some 3), .mv (.k (.I 0)), none⟩] false
abbrev c25_31 : AC := .seq c25_30 .ret
abbrev c25_32 : AC := .seq c25_29 c25_31
abbrev c25_33 : AC := .seq c25_10 c25_32
abbrev c25_34 : AC := .seq c25_9 c25_33
abbrev c25_35 : AC := .seq c25_8 c25_34
abbrev c25_36 : AC := .seq c25_7 c25_35
abbrev c25_37 : AC := .seq c25_2 c25_36
abbrev c25_38 : AC := .seq c25_1 c25_37
abbrev c25 : AC := c25_38
theorem code25 : fnCode Try.prog 25 = some (c25, [2, 3], 52) := by kernel_rfl
/- coinage/bridge.Hinges$1 -/
abbrev c50_1 : AC := .reg [⟨(some 4), .mv (.k (.B false)), none⟩] false
abbrev c50_2 : AC := .regD [(⟨(some 5), .fad 2 (.t 1), none⟩, [1]),
  (⟨(some 6), .ld none (.t 5), none⟩, [5]),
  (⟨(some 7), .mv (.t 0), none⟩, [0]),
  (⟨(some 8), .iad 2 (.t 6) (.t 7), none⟩, [6, 7]),
  (⟨(some 9), .iadA 2 1 (.t 8) (.k (.I 0)), none⟩, [8]),
  (⟨(some 10), .ld none (.t 9), none⟩, [9]),
  (⟨(some 11), .ld none (.t 2), none⟩, [2]),
  (⟨(some 12), .bin .neq (.t 10) (.t 11), none⟩, [10, 11]),
  (⟨(some 13), .mv (.t 12), none⟩, [12]),
  (⟨(some 14), .fad 2 (.t 1), (some (13, true))⟩, [1, 13]),
  (⟨(some 15), .ld none (.t 14), (some (13, true))⟩, [14, 13]),
  (⟨(some 16), .mv (.t 0), (some (13, true))⟩, [0, 13]),
  (⟨(some 17), .iad 2 (.t 15) (.t 16), (some (13, true))⟩, [15, 16, 13]),
  (⟨(some 18), .iadA 2 1 (.t 17) (.k (.I 1)), (some (13, true))⟩, [17, 13]),
  (⟨(some 19), .ld none (.t 18), (some (13, true))⟩, [18, 13]),
  (⟨(some 20), .ld none (.t 2), (some (13, true))⟩, [2, 13]),
  (⟨(some 21), .bin .neq (.t 19) (.t 20), (some (13, true))⟩, [19, 20, 13]),
  (⟨(some 22), .pick (.t 13) (.t 21) (.k (.B false)), none⟩, [13, 21]),
  (⟨(some 4), .mv (.t 22), none⟩, [22])]
abbrev c50_3 : AC := .seq c50_2 .ret
abbrev c50_4 : AC := .seq c50_1 c50_3
abbrev c50 : AC := c50_4
theorem code50 : fnCode Try.prog 50 = some (c50, [4], 23) := by kernel_rfl

/-- the ids of the links of a die, among the first k -/
def touI (ls : List Lk) (d : Die) (k : Nat) : List Int := ((ls.take k).filter fun x => (across x d).isSome).map Lk.id
theorem touI_succ (ls : List Lk) (d : Die) (k : Nat) (h : k < ls.length) : touI ls d (k + 1) = touI ls d k ++ if (across (nth ls k) d).isSome then [(nth ls k).id] else [] := by
  unfold touI
  rw [List.take_succ_eq_append_getElem h, List.filter_append, List.map_append, nth_eq ls k h]
  congr 1
  simp only [List.filter_cons, List.filter_nil]
  split <;> rfl
theorem touI_len (ls : List Lk) (d : Die) (k : Nat) (h : k ≤ ls.length) : (touI ls d k).length ≤ k := by
  unfold touI; rw [List.length_map]
  exact Nat.le_trans (List.length_filter_le _ _) (by simp; omega)
theorem touI_mem {ls : List Lk} {d : Die} {x : Int} : x ∈ touI ls d ls.length ↔ ∃ l ∈ ls, (across l d).isSome = true ∧ l.id = x := by
  unfold touI
  rw [List.take_length]
  simp only [List.mem_map, List.mem_filter, and_assoc]
/-- a hinge -/
noncomputable def hinB (g : Gr) (d : Die) : Bool := decide (ccG g [] + 1 < ccG g (touI g.links d g.links.length))
noncomputable def hinL (g : Gr) (i : Nat) : List Die := ((diesG g).take i).filter (hinB g)
theorem hinL_succ (g : Gr) (i : Nat) (h : i < (diesG g).length) : hinL g (i + 1) = hinL g i ++ if hinB g (nth (diesG g) i) then [nth (diesG g) i] else [] := by
  unfold hinL
  rw [List.take_succ_eq_append_getElem h, List.filter_append, nth_eq _ i h]
  congr 1
  simp only [List.filter_cons, List.filter_nil]
theorem hinL_len (g : Gr) (i : Nat) (h : i ≤ (diesG g).length) : (hinL g i).length ≤ i := by
  unfold hinL
  exact Nat.le_trans (List.length_filter_le _ _) (by simp; omega)
noncomputable def hingesG (g : Gr) : List Die := hinL g (diesG g).length
theorem n27e (g : Gr) (hv : validG g = false) : FnR Try.prog 27 [g.av] [.c .nil, .c (.I 1)] := by
  have g37 := f37 g
  have e0 : errV g = 1 := by unfold errV; rw [hv]; rfl
  rw [e0] at g37
  refine fn_walk code27 (by simp) ?_
  (repeat' (first | refine NextAt.mk (fun hc => ?_) (fun pre n v post hc hkey => ?_) | refine Sni.mk (fun hc => ?_) ?_ | refine Both.mk ?_ ?_ | refine AW_seq ?_ | refine AW_block ?_ | ((first | refine AW_reg ?_ | refine AW_cond ?_ | refine AW_skip ?_ | refine AW_exit ?_ | refine AW_ret ?_ | refine AW_regD (by kernel_rfl) ?_ | refine AW_regX (by kernel_rfl) ?_ | refine CallAtG.t (Eq.refl true) ?_ | refine CallAtG.f (Eq.refl false) ?_ | refine CallAt.mk _ (g37 ..) (by first | (intro h; cases h; done) | (intro _; repeat' (first | exact List.forall_mem_nil _ | trivial | refine List.forall_mem_cons.2 ⟨?_, ?_⟩)) | (intro _; simp [RV.flatP, CD.flatP]; done)) ?_ | refine CallAtG.mk _ (fun _ => g37 ..) ?_ | refine CallDS.mk _ (by simp [RV.data]) (fun _ => g37 ..) (by first | (intro h; cases h; done) | (intro _; repeat' (first | exact List.forall_mem_nil _ | trivial | refine List.forall_mem_cons.2 ⟨?_, ?_⟩)) | (intro _; simp [RV.flatP, CD.flatP]; done)) ?_); try simp (disch := omega) only [go_sem, seval, reduceCtorEq, ↓reduceIte, beq_dec, Int.toNat_natCast, IntKind.signed, IntKind.bits]) | refine And.intro (fun hc => (?_ : AW _ _ _ _)) (fun hc => (?_ : AW _ _ _ _)) | simp (disch := omega) only [go_sem, seval, reduceCtorEq, ↓reduceIte, beq_dec, Int.toNat_natCast, IntKind.signed, IntKind.bits] | (refine And.intro ?_ ?_; focus (first | (intros; omega) | (intros; simp_all; done))) | refine And.intro (?_ : CallAt _ _ _ _ _ _ _ _) ?_ | refine And.intro (?_ : CallAt _ _ _ _ _ _ _ _ ∧ _) ?_ | refine And.intro (?_ : AW _ _ _ _) ?_ | fail))
theorem hold27 {Q : Exit → St → Prop} {σ : St} (h : Hold (AW Try.prog c27_8 Q σ)) : AW Try.prog c27_8 Q σ := h.out
theorem hold27b {Q : Exit → St → Prop} {σ : St} (h : Hold (AW Try.prog c27_29 Q σ)) : AW Try.prog c27_29 Q σ := h.out
theorem hold27c {Q : Exit → St → Prop} {σ : St} (h : Hold (AW Try.prog c27_30 Q σ)) : AW Try.prog c27_30 Q σ := h.out
set_option maxHeartbeats 4000000 in
theorem n27 (g : Gr) (hv : validG g = true) : FnR Try.prog 27 [g.av] [.own 27 2 ((hingesG g).map Die.cd), .c (.I 0)] := by
  have g37 := f37 g
  rw [dies_valid hv, errV_valid hv] at g37
  have hsm := valid_small hv
  have hdl := dies_len g
  have g52 := n52g g [] hv
  have g52n := FnR.nil (pre := [.c (DL (diesG g)), .c (LL g.links)]) (post := []) (k := 1) g52
  have g51 := n51g g [] hv
  unfold hingesG
  refine fn_walk code27 (by simp) ?_
  (repeat' (first | (with_reducible refine hold27 ?_; try simp (disch := omega) only [go_sem, seval, reduceCtorEq, ↓reduceIte, beq_dec, Int.toNat_natCast, IntKind.signed, IntKind.bits, List.length_map]) | refine NextAt.mk (fun hc => ?_) (fun pre n v post hc hkey => ?_) | refine Sni.mk (fun hc => ?_) ?_ | refine Both.mk ?_ ?_ | refine AW_seq ?_ | refine AW_block ?_ | ((first | refine AW_reg ?_ | refine AW_cond ?_ | refine AW_skip ?_ | refine AW_exit ?_ | refine AW_ret ?_ | refine AW_regD (by kernel_rfl) ?_ | refine AW_regX (by kernel_rfl) ?_ | refine CallAtG.t (Eq.refl true) ?_ | refine CallAtG.f (Eq.refl false) ?_ | refine CallAt.mk _ (g37 ..) (by first | (intro h; cases h; done) | (intro _; repeat' (first | exact List.forall_mem_nil _ | trivial | refine List.forall_mem_cons.2 ⟨?_, ?_⟩)) | (intro _; simp [RV.flatP, CD.flatP, List.length_map]; done)) ?_ | refine CallAtG.mk _ (fun _ => g37 ..) ?_ | refine CallDS.mk _ (by simp [RV.data]) (fun _ => g37 ..) (by first | (intro h; cases h; done) | (intro _; repeat' (first | exact List.forall_mem_nil _ | trivial | refine List.forall_mem_cons.2 ⟨?_, ?_⟩)) | (intro _; simp [RV.flatP, CD.flatP, List.length_map]; done)) ?_); try simp (disch := omega) only [go_sem, seval, reduceCtorEq, ↓reduceIte, beq_dec, Int.toNat_natCast, IntKind.signed, IntKind.bits, List.length_map]) | refine And.intro (fun hc => (?_ : AW _ _ _ _)) (fun hc => (?_ : AW _ _ _ _)) | simp (disch := omega) only [go_sem, seval, reduceCtorEq, ↓reduceIte, beq_dec, Int.toNat_natCast, IntKind.signed, IntKind.bits, List.length_map] | (refine And.intro ?_ ?_; focus (first | (intros; omega) | (intros; simp_all; done))) | refine And.intro (?_ : CallAt _ _ _ _ _ _ _ _) ?_ | refine And.intro (?_ : CallAt _ _ _ _ _ _ _ _ ∧ _) ?_ | refine And.intro (?_ : AW _ _ _ _) ?_ | fail))
  refine ⟨AW_frz [13] ?_⟩
  (repeat' (first | refine NextAt.mk (fun hc => ?_) (fun pre n v post hc hkey => ?_) | refine Sni.mk (fun hc => ?_) ?_ | refine Both.mk ?_ ?_ | refine AW_seq ?_ | refine AW_block ?_ | ((first | refine AW_reg ?_ | refine AW_cond ?_ | refine AW_skip ?_ | refine AW_exit ?_ | refine AW_ret ?_ | refine AW_regD (by kernel_rfl) ?_ | refine AW_regX (by kernel_rfl) ?_ | refine CallAtG.t (Eq.refl true) ?_ | refine CallAtG.f (Eq.refl false) ?_ | refine CallAt.mk _ (g52n ..) (by first | (intro h; cases h; done) | (intro _; repeat' (first | exact List.forall_mem_nil _ | trivial | refine List.forall_mem_cons.2 ⟨?_, ?_⟩)) | (intro _; simp [RV.flatP, CD.flatP, List.length_map]; done)) ?_ | refine CallAtG.mk _ (fun _ => g52n ..) ?_ | refine CallDS.mk _ (by simp [RV.data]) (fun _ => g52n ..) (by first | (intro h; cases h; done) | (intro _; repeat' (first | exact List.forall_mem_nil _ | trivial | refine List.forall_mem_cons.2 ⟨?_, ?_⟩)) | (intro _; simp [RV.flatP, CD.flatP, List.length_map]; done)) ?_ | refine CallAt.mk _ (g51 ..) (by first | (intro h; cases h; done) | (intro _; repeat' (first | exact List.forall_mem_nil _ | trivial | refine List.forall_mem_cons.2 ⟨?_, ?_⟩)) | (intro _; simp [RV.flatP, CD.flatP, List.length_map]; done)) ?_ | refine CallAtG.mk _ (fun _ => g51 ..) ?_ | refine CallDS.mk _ (by simp [RV.data]) (fun _ => g51 ..) (by first | (intro h; cases h; done) | (intro _; repeat' (first | exact List.forall_mem_nil _ | trivial | refine List.forall_mem_cons.2 ⟨?_, ?_⟩)) | (intro _; simp [RV.flatP, CD.flatP, List.length_map]; done)) ?_); try simp (disch := omega) only [go_sem, seval, reduceCtorEq, ↓reduceIte, beq_dec, Int.toNat_natCast, IntKind.signed, IntKind.bits, List.length_map]) | refine And.intro (fun hc => (?_ : AW _ _ _ _)) (fun hc => (?_ : AW _ _ _ _)) | simp (disch := omega) only [go_sem, seval, reduceCtorEq, ↓reduceIte, beq_dec, Int.toNat_natCast, IntKind.signed, IntKind.bits, List.length_map] | (refine And.intro ?_ ?_; focus (first | (intros; omega) | (intros; simp_all; done))) | refine And.intro (?_ : CallAt _ _ _ _ _ _ _ _) ?_ | refine And.intro (?_ : CallAt _ _ _ _ _ _ _ _ ∧ _) ?_ | refine And.intro (?_ : AW _ _ _ _) ?_ | fail))
  refine AW_nil 7 900 27 2 (by rfl) ?_
  refine AW_loopK [1, 4, 6] [7, 8, 9, 10, 24, 25, 26, 27, 28, 29, 30, 31, 32, 33, 34, 35, 36, 37, 38, 39, 40, 41, 42, 43, 44, 45, 46, 47, 48, 49, 50, 51, 52, 53, 54, 55, 56, 57, 58, 59, 60, 61, 62, 63, 64, 65, 66, 67, 68, 69, 70, 71] (fun i : Nat => i ≤ (diesG g).length) (fun i => [(8, .I i), (7, .own 900)]) (fun i => [(900, .arr 27 2 ((hinL g i).map Die.cd))]) (fun i => (diesG g).length - i) 0 (by omega) ?_ ?_
  · simp (disch := omega) only [go_sem, seval, reduceCtorEq, ↓reduceIte, beq_dec, Int.toNat_natCast, IntKind.signed, IntKind.bits, Int.natCast_zero, hinL, List.take_zero, List.filter_nil, List.map_nil]
  · intro i hi
    have hbl := hinL_len g i hi
    rcases Nat.lt_or_ge i (diesG g).length with hil | hil
    · have hsuc := hinL_succ g i hil
      generalize hinL g i = z at *
      have ga := n52g g (touI g.links (nth (diesG g) i) g.links.length) hv
      have gb := n51g g (touI g.links (nth (diesG g) i) g.links.length) hv
      have hcl := ccG_le g (touI g.links (nth (diesG g) i) g.links.length)
      unfold hinB at hsuc
      generalize hc' : ccG g (touI g.links (nth (diesG g) i) g.links.length) = c' at *
      generalize hd : nth (diesG g) i = d at *
      (repeat' (first | (with_reducible refine hold27b ?_; try simp (disch := omega) only [go_sem, seval, reduceCtorEq, ↓reduceIte, beq_dec, Int.toNat_natCast, IntKind.signed, IntKind.bits, List.length_map]) | refine NextAt.mk (fun hc => ?_) (fun pre n v post hc hkey => ?_) | refine Sni.mk (fun hc => ?_) ?_ | refine Both.mk ?_ ?_ | refine AW_seq ?_ | refine AW_block ?_ | ((first | refine AW_reg ?_ | refine AW_cond ?_ | refine AW_skip ?_ | refine AW_exit ?_ | refine AW_ret ?_ | refine AW_regD (by kernel_rfl) ?_ | refine AW_regX (by kernel_rfl) ?_ | refine CallAtG.t (Eq.refl true) ?_ | refine CallAtG.f (Eq.refl false) ?_); try simp (disch := omega) only [go_sem, seval, reduceCtorEq, ↓reduceIte, beq_dec, Int.toNat_natCast, IntKind.signed, IntKind.bits, List.length_map]) | refine And.intro (fun hc => (?_ : AW _ _ _ _)) (fun hc => (?_ : AW _ _ _ _)) | simp (disch := omega) only [go_sem, seval, reduceCtorEq, ↓reduceIte, beq_dec, Int.toNat_natCast, IntKind.signed, IntKind.bits, List.length_map] | (refine And.intro ?_ ?_; focus (first | (intros; omega) | (intros; simp_all; done))) | refine And.intro (?_ : CallAt _ _ _ _ _ _ _ _) ?_ | refine And.intro (?_ : CallAt _ _ _ _ _ _ _ _ ∧ _) ?_ | refine And.intro (?_ : AW _ _ _ _) ?_ | fail))
      · refine ⟨?_⟩
        refine AW_nil 9 901 3 1 (by rfl) ?_
        (repeat' (first | refine NextAt.mk (fun hc => ?_) (fun pre n v post hc hkey => ?_) | refine Sni.mk (fun hc => ?_) ?_ | refine Both.mk ?_ ?_ | refine AW_seq ?_ | refine AW_block ?_ | ((first | refine AW_reg ?_ | refine AW_cond ?_ | refine AW_skip ?_ | refine AW_exit ?_ | refine AW_ret ?_ | refine AW_regD (by kernel_rfl) ?_ | refine AW_regX (by kernel_rfl) ?_ | refine CallAtG.t (Eq.refl true) ?_ | refine CallAtG.f (Eq.refl false) ?_); try simp (disch := omega) only [go_sem, seval, reduceCtorEq, ↓reduceIte, beq_dec, Int.toNat_natCast, IntKind.signed, IntKind.bits]) | refine And.intro (fun hc => (?_ : AW _ _ _ _)) (fun hc => (?_ : AW _ _ _ _)) | simp (disch := omega) only [go_sem, seval, reduceCtorEq, ↓reduceIte, beq_dec, Int.toNat_natCast, IntKind.signed, IntKind.bits] | (refine And.intro ?_ ?_; focus (first | (intros; omega) | (intros; simp_all; done))) | refine And.intro (?_ : CallAt _ _ _ _ _ _ _ _) ?_ | refine And.intro (?_ : CallAt _ _ _ _ _ _ _ _ ∧ _) ?_ | refine And.intro (?_ : AW _ _ _ _) ?_ | fail))
        refine AW_loopK [1, 4, 6, 7, 8] [9, 10, 30, 31, 32, 33, 34, 35, 36, 37, 38, 39, 40, 41, 42, 43, 44, 45, 46, 47, 48, 49, 50, 51, 52, 53, 54, 55] (fun k : Nat => k ≤ g.links.length) (fun k => [(10, .I k), (9, .own 901)]) (fun k => [(901, .arr 3 1 (iRow (touI g.links d k)))]) (fun k => g.links.length - k) 0 (by omega) ?_ ?_
        · simp (disch := omega) only [go_sem, seval, reduceCtorEq, ↓reduceIte, beq_dec, Int.toNat_natCast, IntKind.signed, IntKind.bits, Int.natCast_zero, touI, List.take_zero, List.filter_nil, List.map_nil]
        · intro k hk
          have htl := touI_len g.links d k hk
          rcases Nat.lt_or_ge k g.links.length with hkl | hkl
          · have htu := touI_succ g.links d k hkl
            have g47 := n47 (nth g.links k) d
            generalize touI g.links d k = y at *
            cases hb : (across (nth g.links k) d).isSome with
            | true =>
              rw [hb] at htu g47
              (repeat' (first | refine NextAt.mk (fun hc => ?_) (fun pre n v post hc hkey => ?_) | refine Sni.mk (fun hc => ?_) ?_ | refine Both.mk ?_ ?_ | refine AW_seq ?_ | refine AW_block ?_ | ((first | refine AW_reg ?_ | refine AW_cond ?_ | refine AW_skip ?_ | refine AW_exit ?_ | refine AW_ret ?_ | refine AW_regD (by kernel_rfl) ?_ | refine AW_regX (by kernel_rfl) ?_ | refine CallAtG.t (Eq.refl true) ?_ | refine CallAtG.f (Eq.refl false) ?_ | refine CallAt.mk _ (g47 ..) (by first | (intro h; cases h; done) | (intro _; repeat' (first | exact List.forall_mem_nil _ | trivial | refine List.forall_mem_cons.2 ⟨?_, ?_⟩)) | (intro _; simp [RV.flatP, CD.flatP, List.length_map, getD_map Lk.cd, Lk.cd, getD_map Die.cd, Die.cd, hd, maxLen]; done)) ?_ | refine CallAtG.mk _ (fun _ => g47 ..) ?_ | refine CallDS.mk _ (by simp [RV.data]) (fun _ => g47 ..) (by first | (intro h; cases h; done) | (intro _; repeat' (first | exact List.forall_mem_nil _ | trivial | refine List.forall_mem_cons.2 ⟨?_, ?_⟩)) | (intro _; simp [RV.flatP, CD.flatP, List.length_map, getD_map Lk.cd, Lk.cd, getD_map Die.cd, Die.cd, hd, maxLen]; done)) ?_); try simp (disch := omega) only [go_sem, seval, reduceCtorEq, ↓reduceIte, beq_dec, Int.toNat_natCast, IntKind.signed, IntKind.bits, List.length_map, getD_map Lk.cd, Lk.cd, getD_map Die.cd, Die.cd, hd, maxLen]) | refine And.intro (fun hc => (?_ : AW _ _ _ _)) (fun hc => (?_ : AW _ _ _ _)) | simp (disch := omega) only [go_sem, seval, reduceCtorEq, ↓reduceIte, beq_dec, Int.toNat_natCast, IntKind.signed, IntKind.bits, List.length_map, getD_map Lk.cd, Lk.cd, getD_map Die.cd, Die.cd, hd, maxLen] | (refine And.intro ?_ ?_; focus (first | (intros; omega) | (intros; simp_all; done))) | refine And.intro (?_ : CallAt _ _ _ _ _ _ _ _) ?_ | refine And.intro (?_ : CallAt _ _ _ _ _ _ _ _ ∧ _) ?_ | refine And.intro (?_ : AW _ _ _ _) ?_ | refine And.intro (?_ : _ ∧ _) ?_ | fail))
              all_goals first
                | (exfalso; omega)
                | (refine .mk (k + 1) (by omega) (by omega) ?_
                   rw [htu, if_pos rfl, iRow_app']
                   simp (disch := omega) only [go_sem, seval, reduceCtorEq, ↓reduceIte, beq_dec, Int.toNat_natCast, IntKind.signed, IntKind.bits, Int.natCast_add, Int.natCast_one]
                   done)
                | trace_state
            | false =>
              rw [hb] at htu g47
              (repeat' (first | refine NextAt.mk (fun hc => ?_) (fun pre n v post hc hkey => ?_) | refine Sni.mk (fun hc => ?_) ?_ | refine Both.mk ?_ ?_ | refine AW_seq ?_ | refine AW_block ?_ | ((first | refine AW_reg ?_ | refine AW_cond ?_ | refine AW_skip ?_ | refine AW_exit ?_ | refine AW_ret ?_ | refine AW_regD (by kernel_rfl) ?_ | refine AW_regX (by kernel_rfl) ?_ | refine CallAtG.t (Eq.refl true) ?_ | refine CallAtG.f (Eq.refl false) ?_ | refine CallAt.mk _ (g47 ..) (by first | (intro h; cases h; done) | (intro _; repeat' (first | exact List.forall_mem_nil _ | trivial | refine List.forall_mem_cons.2 ⟨?_, ?_⟩)) | (intro _; simp [RV.flatP, CD.flatP, List.length_map, getD_map Lk.cd, Lk.cd, getD_map Die.cd, Die.cd, hd, maxLen]; done)) ?_ | refine CallAtG.mk _ (fun _ => g47 ..) ?_ | refine CallDS.mk _ (by simp [RV.data]) (fun _ => g47 ..) (by first | (intro h; cases h; done) | (intro _; repeat' (first | exact List.forall_mem_nil _ | trivial | refine List.forall_mem_cons.2 ⟨?_, ?_⟩)) | (intro _; simp [RV.flatP, CD.flatP, List.length_map, getD_map Lk.cd, Lk.cd, getD_map Die.cd, Die.cd, hd, maxLen]; done)) ?_); try simp (disch := omega) only [go_sem, seval, reduceCtorEq, ↓reduceIte, beq_dec, Int.toNat_natCast, IntKind.signed, IntKind.bits, List.length_map, getD_map Lk.cd, Lk.cd, getD_map Die.cd, Die.cd, hd, maxLen]) | refine And.intro (fun hc => (?_ : AW _ _ _ _)) (fun hc => (?_ : AW _ _ _ _)) | simp (disch := omega) only [go_sem, seval, reduceCtorEq, ↓reduceIte, beq_dec, Int.toNat_natCast, IntKind.signed, IntKind.bits, List.length_map, getD_map Lk.cd, Lk.cd, getD_map Die.cd, Die.cd, hd, maxLen] | (refine And.intro ?_ ?_; focus (first | (intros; omega) | (intros; simp_all; done))) | refine And.intro (?_ : CallAt _ _ _ _ _ _ _ _) ?_ | refine And.intro (?_ : CallAt _ _ _ _ _ _ _ _ ∧ _) ?_ | refine And.intro (?_ : AW _ _ _ _) ?_ | refine And.intro (?_ : _ ∧ _) ?_ | fail))
              all_goals first
                | (exfalso; omega)
                | (refine .mk (k + 1) (by omega) (by omega) ?_
                   rw [htu, if_neg (by simp), List.append_nil]
                   simp (disch := omega) only [go_sem, seval, reduceCtorEq, ↓reduceIte, beq_dec, Int.toNat_natCast, IntKind.signed, IntKind.bits, Int.natCast_add, Int.natCast_one]
                   done)
                | trace_state
          · obtain rfl : k = g.links.length := by omega
            (repeat' (first | (with_reducible refine hold27c ?_; try simp (disch := omega) only [go_sem, seval, reduceCtorEq, ↓reduceIte, beq_dec, Int.toNat_natCast, IntKind.signed, IntKind.bits, List.length_map]) | refine NextAt.mk (fun hc => ?_) (fun pre n v post hc hkey => ?_) | refine Sni.mk (fun hc => ?_) ?_ | refine Both.mk ?_ ?_ | refine AW_seq ?_ | refine AW_block ?_ | ((first | refine AW_reg ?_ | refine AW_cond ?_ | refine AW_skip ?_ | refine AW_exit ?_ | refine AW_ret ?_ | refine AW_regD (by kernel_rfl) ?_ | refine AW_regX (by kernel_rfl) ?_ | refine CallAtG.t (Eq.refl true) ?_ | refine CallAtG.f (Eq.refl false) ?_); try simp (disch := omega) only [go_sem, seval, reduceCtorEq, ↓reduceIte, beq_dec, Int.toNat_natCast, IntKind.signed, IntKind.bits, List.length_map]) | refine And.intro (fun hc => (?_ : AW _ _ _ _)) (fun hc => (?_ : AW _ _ _ _)) | simp (disch := omega) only [go_sem, seval, reduceCtorEq, ↓reduceIte, beq_dec, Int.toNat_natCast, IntKind.signed, IntKind.bits, List.length_map] | (refine And.intro ?_ ?_; focus (first | (intros; omega) | (intros; simp_all; done))) | refine And.intro (?_ : CallAt _ _ _ _ _ _ _ _) ?_ | refine And.intro (?_ : CallAt _ _ _ _ _ _ _ _ ∧ _) ?_ | refine And.intro (?_ : AW _ _ _ _) ?_ | fail))
            · exfalso; omega
            refine ⟨AW_frz [901] ?_⟩
            (repeat' (first | refine NextAt.mk (fun hc => ?_) (fun pre n v post hc hkey => ?_) | refine Sni.mk (fun hc => ?_) ?_ | refine Both.mk ?_ ?_ | refine AW_seq ?_ | refine AW_block ?_ | ((first | refine AW_reg ?_ | refine AW_cond ?_ | refine AW_skip ?_ | refine AW_exit ?_ | refine AW_ret ?_ | refine AW_regD (by kernel_rfl) ?_ | refine AW_regX (by kernel_rfl) ?_ | refine CallAtG.t (Eq.refl true) ?_ | refine CallAtG.f (Eq.refl false) ?_ | refine CallAt.mk _ (ga ..) (by first | (intro h; cases h; done) | (intro _; repeat' (first | exact List.forall_mem_nil _ | trivial | refine List.forall_mem_cons.2 ⟨?_, ?_⟩)) | (intro _; simp [RV.flatP, CD.flatP, List.length_map, getD_map Die.cd, Die.cd, hd, maxLen, inK]; done)) ?_ | refine CallAtG.mk _ (fun _ => ga ..) ?_ | refine CallDS.mk _ (by simp [RV.data]) (fun _ => ga ..) (by first | (intro h; cases h; done) | (intro _; repeat' (first | exact List.forall_mem_nil _ | trivial | refine List.forall_mem_cons.2 ⟨?_, ?_⟩)) | (intro _; simp [RV.flatP, CD.flatP, List.length_map, getD_map Die.cd, Die.cd, hd, maxLen, inK]; done)) ?_ | refine CallAt.mk _ (gb ..) (by first | (intro h; cases h; done) | (intro _; repeat' (first | exact List.forall_mem_nil _ | trivial | refine List.forall_mem_cons.2 ⟨?_, ?_⟩)) | (intro _; simp [RV.flatP, CD.flatP, List.length_map, getD_map Die.cd, Die.cd, hd, maxLen, inK]; done)) ?_ | refine CallAtG.mk _ (fun _ => gb ..) ?_ | refine CallDS.mk _ (by simp [RV.data]) (fun _ => gb ..) (by first | (intro h; cases h; done) | (intro _; repeat' (first | exact List.forall_mem_nil _ | trivial | refine List.forall_mem_cons.2 ⟨?_, ?_⟩)) | (intro _; simp [RV.flatP, CD.flatP, List.length_map, getD_map Die.cd, Die.cd, hd, maxLen, inK]; done)) ?_); try simp (disch := omega) only [go_sem, seval, reduceCtorEq, ↓reduceIte, beq_dec, Int.toNat_natCast, IntKind.signed, IntKind.bits, List.length_map, getD_map Die.cd, Die.cd, hd, maxLen, inK]) | refine And.intro (fun hc => (?_ : AW _ _ _ _)) (fun hc => (?_ : AW _ _ _ _)) | simp (disch := omega) only [go_sem, seval, reduceCtorEq, ↓reduceIte, beq_dec, Int.toNat_natCast, IntKind.signed, IntKind.bits, List.length_map, getD_map Die.cd, Die.cd, hd, maxLen, inK] | (refine And.intro ?_ ?_; focus (first | (intros; omega) | (intros; simp_all; done))) | refine And.intro (?_ : CallAt _ _ _ _ _ _ _ _) ?_ | refine And.intro (?_ : CallAt _ _ _ _ _ _ _ _ ∧ _) ?_ | refine And.intro (?_ : AW _ _ _ _) ?_ | refine And.intro (?_ : _ ∧ _) ?_ | fail))
            all_goals first
              | (exfalso; omega)
              | omega
              | (refine .mk (i + 1) (by omega) (by omega) ?_
                 rw [hsuc, if_pos (decide_eq_true (by omega)), List.map_append, List.map_cons, List.map_nil, Die.cd]
                 simp (disch := omega) only [go_sem, seval, reduceCtorEq, ↓reduceIte, beq_dec, Int.toNat_natCast, IntKind.signed, IntKind.bits, Int.natCast_add, Int.natCast_one]
                 done)
              | (refine .mk (i + 1) (by omega) (by omega) ?_
                 rw [hsuc, if_neg (by simp; omega), List.append_nil]
                 simp (disch := omega) only [go_sem, seval, reduceCtorEq, ↓reduceIte, beq_dec, Int.toNat_natCast, IntKind.signed, IntKind.bits, Int.natCast_add, Int.natCast_one]
                 done)
              | trace_state
      · exfalso; omega
    · obtain rfl : i = (diesG g).length := by omega
      (repeat' (first | refine NextAt.mk (fun hc => ?_) (fun pre n v post hc hkey => ?_) | refine Sni.mk (fun hc => ?_) ?_ | refine Both.mk ?_ ?_ | refine AW_seq ?_ | refine AW_block ?_ | ((first | refine AW_reg ?_ | refine AW_cond ?_ | refine AW_skip ?_ | refine AW_exit ?_ | refine AW_ret ?_ | refine AW_regD (by kernel_rfl) ?_ | refine AW_regX (by kernel_rfl) ?_ | refine CallAtG.t (Eq.refl true) ?_ | refine CallAtG.f (Eq.refl false) ?_); try simp (disch := omega) only [go_sem, seval, reduceCtorEq, ↓reduceIte, beq_dec, Int.toNat_natCast, IntKind.signed, IntKind.bits, List.length_map]) | refine And.intro (fun hc => (?_ : AW _ _ _ _)) (fun hc => (?_ : AW _ _ _ _)) | simp (disch := omega) only [go_sem, seval, reduceCtorEq, ↓reduceIte, beq_dec, Int.toNat_natCast, IntKind.signed, IntKind.bits, List.length_map] | (refine And.intro ?_ ?_; focus (first | (intros; omega) | (intros; simp_all; done))) | refine And.intro (?_ : CallAt _ _ _ _ _ _ _ _) ?_ | refine And.intro (?_ : CallAt _ _ _ _ _ _ _ _ ∧ _) ?_ | refine And.intro (?_ : AW _ _ _ _) ?_ | fail))
      all_goals (exfalso; omega)
end Go.Proofs.Ytgldpbghbkoolaa

-- P p_15.txt
open Go Go.AL Go.RowKit
namespace Go.Proofs.Ytgldpbghbkoolaa
set_option maxRecDepth 20000
def hiU (es : Es) (v k : Nat) : Bool := decide ((nth es k).1 ≠ v) && decide ((nth es k).2 ≠ v)
theorem dec_ne (i k : Nat) : decide (i ≠ k) = !decide ((i : Int) = (k : Int)) := by
  by_cases h : i = k
  · subst h; simp
  · have : ¬ ((i : Int) = (k : Int)) := by omega
    simp [h, this]
set_option maxHeartbeats 4000000 in
theorem n50 (n : Nat) (ids : List Int) (es : Es) (v k : Nat) (hk : k < es.length) (hel : es.length ≤ 70) : FnW Try.prog 50 [.I k, .ptr 1000006 0, .ptr 1000010 0] [(1000006, .box 62 [.I n, .c (Row ids), .c (EL es)]), (1000010, .box 3 [.I v])] [.c (.B (hiU es v k))] [(1000006, .box 62 [.I n, .c (Row ids), .c (EL es)]), (1000010, .box 3 [.I v])] [1000006, 1000010] := by
  unfold hiU
  rw [dec_ne, dec_ne]
  refine fn_walkW code50 (by simp) (by rfl) ?_
  (repeat' (first | refine NextAt.mk (fun hc => ?_) (fun pre n v post hc hkey => ?_) | refine Sni.mk (fun hc => ?_) ?_ | refine Both.mk ?_ ?_ | refine AW_seq ?_ | refine AW_block ?_ | ((first | refine AW_reg ?_ | refine AW_cond ?_ | refine AW_skip ?_ | refine AW_exit ?_ | refine AW_ret ?_ | refine AW_regD (by kernel_rfl) ?_ | refine AW_regX (by kernel_rfl) ?_ | refine CallAtG.t (Eq.refl true) ?_ | refine CallAtG.f (Eq.refl false) ?_); try simp (disch := omega) only [go_sem, seval, reduceCtorEq, ↓reduceIte, beq_dec, Int.toNat_natCast, IntKind.signed, IntKind.bits, List.length_map, getD_map (fun e : Nat × Nat => [CD.I (e.1 : Int), CD.I (e.2 : Int)])]) | refine And.intro (fun hc => (?_ : AW _ _ _ _)) (fun hc => (?_ : AW _ _ _ _)) | simp (disch := omega) only [go_sem, seval, reduceCtorEq, ↓reduceIte, beq_dec, Int.toNat_natCast, IntKind.signed, IntKind.bits, List.length_map, getD_map (fun e : Nat × Nat => [CD.I (e.1 : Int), CD.I (e.2 : Int)])] | (refine And.intro ?_ ?_; focus (first | (intros; omega) | (intros; simp_all; done))) | refine And.intro (?_ : CallAt _ _ _ _ _ _ _ _) ?_ | refine And.intro (?_ : CallAt _ _ _ _ _ _ _ _ ∧ _) ?_ | refine And.intro (?_ : AW _ _ _ _) ?_ | refine And.intro (?_ : _ ∧ _) ?_ | fail))
  all_goals first
    | omega
    | trace_state
set_option maxHeartbeats 8000000 in
theorem n40c (n : Nat) (ids : List Int) (es : Es) (v : Nat) (hn : n ≤ 70) (he : EsLt es n) (hel : es.length ≤ 70) : FnW Try.prog 40 [netAV n ids es, .fn 50 [.ptr 1000006 0, .ptr 1000010 0]] [(1000006, .box 62 [.I n, .c (Row ids), .c (EL es)]), (1000010, .box 3 [.I v])] [.own 3 1 (iN (ptS es (hiU es v) n es.length).nm), .c (.I (ptS es (hiU es v) n es.length).c)] [(1000006, .box 62 [.I n, .c (Row ids), .c (EL es)]), (1000010, .box 3 [.I v])] [1000006, 1000010] := by
  refine fn_walkW code40 (by simp) (by rfl) ?_
  (repeat' (first | refine NextAt.mk (fun hc => ?_) (fun pre n v post hc hkey => ?_) | refine Sni.mk (fun hc => ?_) ?_ | refine Both.mk ?_ ?_ | refine AW_seq ?_ | refine AW_block ?_ | ((first | refine AW_reg ?_ | refine AW_cond ?_ | refine AW_skip ?_ | refine AW_exit ?_ | refine AW_ret ?_ | refine AW_regD (by kernel_rfl) ?_ | refine AW_regX (by kernel_rfl) ?_ | refine CallAtG.t (Eq.refl true) ?_ | refine CallAtG.f (Eq.refl false) ?_); try simp (disch := omega) only [go_sem, seval, reduceCtorEq, ↓reduceIte, beq_dec, Int.toNat_natCast, IntKind.signed, IntKind.bits, maxLen]) | refine And.intro (fun hc => (?_ : AW _ _ _ _)) (fun hc => (?_ : AW _ _ _ _)) | simp (disch := omega) only [go_sem, seval, reduceCtorEq, ↓reduceIte, beq_dec, Int.toNat_natCast, IntKind.signed, IntKind.bits, maxLen] | (refine And.intro ?_ ?_; focus (first | (intros; omega) | (intros; simp_all; done))) | refine And.intro (?_ : CallAt _ _ _ _ _ _ _ _) ?_ | refine And.intro (?_ : CallAt _ _ _ _ _ _ _ _ ∧ _) ?_ | refine And.intro (?_ : AW _ _ _ _) ?_ | fail))
  refine AW_loopK [1, 2, 6, 18] [7, 19, 20, 21, 22, 23, 24, 25, 26] (fun i : Nat => i ≤ n) (fun i => [(19, .I i)]) (fun i => [(16, .arr 3 1 (iN (List.range i ++ List.replicate (n - i) 0)))]) (fun i => n - i) 0 (by omega) ?_ ?_
  · simp (disch := omega) only [go_sem, seval, reduceCtorEq, ↓reduceIte, beq_dec, Int.toNat_natCast, IntKind.signed, IntKind.bits, Int.natCast_zero, List.range_zero, List.nil_append, Nat.sub_zero, List.map_replicate]
  · intro i hi
    have hil2 : (List.range i ++ List.replicate (n - i) 0).length = n := by simp; omega
    rcases Nat.lt_or_ge i n with hin | hin
    · have hset := rangeN_set n i hin
      have hge := getD_map (fun x : Nat => [CD.I (x : Int)]) (List.range i ++ List.replicate (n - i) 0) i [] (by omega)
      (repeat' (first | refine NextAt.mk (fun hc => ?_) (fun pre n v post hc hkey => ?_) | refine Sni.mk (fun hc => ?_) ?_ | refine Both.mk ?_ ?_ | refine AW_seq ?_ | refine AW_block ?_ | ((first | refine AW_reg ?_ | refine AW_cond ?_ | refine AW_skip ?_ | refine AW_exit ?_ | refine AW_ret ?_ | refine AW_regD (by kernel_rfl) ?_ | refine AW_regX (by kernel_rfl) ?_ | refine CallAtG.t (Eq.refl true) ?_ | refine CallAtG.f (Eq.refl false) ?_); try simp (disch := omega) only [go_sem, seval, reduceCtorEq, ↓reduceIte, beq_dec, Int.toNat_natCast, IntKind.signed, IntKind.bits, List.length_map, hil2, hge, List.set_cons_zero, hset, Int.toNat_natCast, List.length_replicate]) | refine And.intro (fun hc => (?_ : AW _ _ _ _)) (fun hc => (?_ : AW _ _ _ _)) | simp (disch := omega) only [go_sem, seval, reduceCtorEq, ↓reduceIte, beq_dec, Int.toNat_natCast, IntKind.signed, IntKind.bits, List.length_map, hil2, hge, List.set_cons_zero, hset, Int.toNat_natCast, List.length_replicate] | (refine And.intro ?_ ?_; focus (first | (intros; omega) | (intros; simp_all; done))) | refine And.intro (?_ : CallAt _ _ _ _ _ _ _ _) ?_ | refine And.intro (?_ : CallAt _ _ _ _ _ _ _ _ ∧ _) ?_ | refine And.intro (?_ : AW _ _ _ _) ?_ | fail))
      · refine .mk (i + 1) (by omega) (by omega) ?_
        simp (disch := omega) only [go_sem, seval, reduceCtorEq, ↓reduceIte, beq_dec, Int.toNat_natCast, IntKind.signed, IntKind.bits, Int.natCast_add, Int.natCast_one]
      · exfalso; omega
    · obtain rfl : i = n := by omega
      rw [Nat.sub_self, List.replicate_zero, List.append_nil]
      (repeat' (first | refine NextAt.mk (fun hc => ?_) (fun pre n v post hc hkey => ?_) | refine Sni.mk (fun hc => ?_) ?_ | refine Both.mk ?_ ?_ | refine AW_seq ?_ | refine AW_block ?_ | ((first | refine AW_reg ?_ | refine AW_cond ?_ | refine AW_skip ?_ | refine AW_exit ?_ | refine AW_ret ?_ | refine AW_regD (by kernel_rfl) ?_ | refine AW_regX (by kernel_rfl) ?_ | refine CallAtG.t (Eq.refl true) ?_ | refine CallAtG.f (Eq.refl false) ?_); try simp (disch := omega) only [go_sem, seval, reduceCtorEq, ↓reduceIte, beq_dec, Int.toNat_natCast, IntKind.signed, IntKind.bits, List.length_map, List.length_range, List.length_replicate]) | refine And.intro (fun hc => (?_ : AW _ _ _ _)) (fun hc => (?_ : AW _ _ _ _)) | simp (disch := omega) only [go_sem, seval, reduceCtorEq, ↓reduceIte, beq_dec, Int.toNat_natCast, IntKind.signed, IntKind.bits, List.length_map, List.length_range, List.length_replicate] | (refine And.intro ?_ ?_; focus (first | (intros; omega) | (intros; simp_all; done))) | refine And.intro (?_ : CallAt _ _ _ _ _ _ _ _) ?_ | refine And.intro (?_ : CallAt _ _ _ _ _ _ _ _ ∧ _) ?_ | refine And.intro (?_ : AW _ _ _ _) ?_ | fail))
      · exfalso; omega
      refine AW_loopK [1, 6, 30, 31] [8, 9, 10, 11, 12, 13, 32, 33, 34, 35, 36, 37, 38, 39, 40, 41, 42, 43, 44, 45, 46, 47, 48, 49, 50, 51, 52, 53, 54, 55, 56, 57, 58, 59, 60, 61, 62, 63, 64, 65, 66, 67, 68, 69, 70, 71, 72, 73, 74] (fun k : Nat => k ≤ es.length) (fun k => [(32, .I k), (8, .I (ptS es (hiU es v) i k).c)]) (fun k => [(16, .arr 3 1 (iN (ptS es (hiU es v) i k).nm))]) (fun k => es.length - k) 0 (by omega) ?_ ?_
      · simp (disch := omega) only [go_sem, seval, reduceCtorEq, ↓reduceIte, beq_dec, Int.toNat_natCast, IntKind.signed, IntKind.bits, Int.natCast_zero, ptS]
      · intro k hk
        obtain ⟨pl, pc1, pc2⟩ := ptS_len es (hiU es v) i k
        rcases Nat.lt_or_ge k es.length with hkl | hkl
        · have hsuc : ptS es (hiU es v) i (k + 1) = ptK es (hiU es v) (ptS es (hiU es v) i k) k := rfl
          unfold ptK at hsuc
          obtain ⟨x1, x2⟩ := he k hkl
          generalize ptS es (hiU es v) i k = s at *
          generalize hE : nth es k = e at *
          obtain ⟨x, y⟩ := e
          simp only at x1 x2 hsuc
          have gx := getD_map (fun x : Nat => [CD.I (x : Int)]) s.nm x [] (by omega)
          have gy := getD_map (fun x : Nat => [CD.I (x : Int)]) s.nm y [] (by omega)
          generalize hA : nth s.nm x = A at *
          generalize hB : nth s.nm y = B at *
          have g49 := n50 i ids es v k hkl hel
          by_cases hab : A = B
          · have e1 : ((A : Int) = (B : Int)) = True := by simp; omega
            rw [if_pos (.inl hab)] at hsuc
            (repeat' (first | refine NextAt.mk (fun hc => ?_) (fun pre n v post hc hkey => ?_) | refine Sni.mk (fun hc => ?_) ?_ | refine Both.mk ?_ ?_ | refine AW_seq ?_ | refine AW_block ?_ | ((first | refine AW_reg ?_ | refine AW_cond ?_ | refine AW_skip ?_ | refine AW_exit ?_ | refine AW_ret ?_ | refine AW_regD (by kernel_rfl) ?_ | refine AW_regX (by kernel_rfl) ?_ | refine CallAtG.t (Eq.refl true) ?_ | refine CallAtG.f (Eq.refl false) ?_); try simp (disch := omega) only [go_sem, seval, reduceCtorEq, ↓reduceIte, beq_dec, Int.toNat_natCast, IntKind.signed, IntKind.bits, List.length_map, getD_map (fun e : Nat × Nat => [CD.I (e.1 : Int), CD.I (e.2 : Int)]), hE, gx, gy, e1, Int.toNat_natCast, pl]) | refine And.intro (fun hc => (?_ : AW _ _ _ _)) (fun hc => (?_ : AW _ _ _ _)) | simp (disch := omega) only [go_sem, seval, reduceCtorEq, ↓reduceIte, beq_dec, Int.toNat_natCast, IntKind.signed, IntKind.bits, List.length_map, getD_map (fun e : Nat × Nat => [CD.I (e.1 : Int), CD.I (e.2 : Int)]), hE, gx, gy, e1, Int.toNat_natCast, pl] | (refine And.intro ?_ ?_; focus (first | (intros; omega) | (intros; simp_all; done))) | refine And.intro (?_ : CallAt _ _ _ _ _ _ _ _) ?_ | refine And.intro (?_ : CallAt _ _ _ _ _ _ _ _ ∧ _) ?_ | refine And.intro (?_ : AW _ _ _ _) ?_ | fail))
            · refine .mk (k + 1) (by omega) (by omega) ?_
              rw [hsuc]
              simp (disch := omega) only [go_sem, seval, reduceCtorEq, ↓reduceIte, beq_dec, Int.toNat_natCast, IntKind.signed, IntKind.bits, Int.natCast_add, Int.natCast_one]
            · exfalso; omega
          · have e1 : ((A : Int) = (B : Int)) = False := by simp; omega
            cases hu : (hiU es v) k with
            | false =>
              rw [if_pos (.inr hu)] at hsuc
              try dsimp only at hu
              rw [hu] at g49
              (repeat' (first | refine NextAt.mk (fun hc => ?_) (fun pre n v post hc hkey => ?_) | refine Sni.mk (fun hc => ?_) ?_ | refine Both.mk ?_ ?_ | refine AW_seq ?_ | refine AW_block ?_ | ((first | refine AW_reg ?_ | refine AW_cond ?_ | refine AW_skip ?_ | refine AW_exit ?_ | refine AW_ret ?_ | refine AW_regD (by kernel_rfl) ?_ | refine AW_regX (by kernel_rfl) ?_ | refine CallAt.mkW (g49 ..) (by rfl) (by simp (disch := omega) only [go_sem, seval, reduceCtorEq, ↓reduceIte, beq_dec, Int.toNat_natCast, IntKind.signed, IntKind.bits, List.length_map, getD_map (fun e : Nat × Nat => [CD.I (e.1 : Int), CD.I (e.2 : Int)]), hE, gx, gy, e1, Int.toNat_natCast, pl]) (by rfl) (by rfl) (by first | (intro h; cases h; done) | (intro _; simp [RV.flatP, CD.flatP, flatOb, AO.flatP, List.length_map, getD_map (fun e : Nat × Nat => [CD.I (e.1 : Int), CD.I (e.2 : Int)]), hE, gx, gy, e1, Int.toNat_natCast, pl]; done)) ?_ | refine CallAtG.t (Eq.refl true) ?_ | refine CallAtG.f (Eq.refl false) ?_); try simp (disch := omega) only [go_sem, seval, reduceCtorEq, ↓reduceIte, beq_dec, Int.toNat_natCast, IntKind.signed, IntKind.bits, List.length_map, getD_map (fun e : Nat × Nat => [CD.I (e.1 : Int), CD.I (e.2 : Int)]), hE, gx, gy, e1, Int.toNat_natCast, pl]) | refine And.intro (fun hc => (?_ : AW _ _ _ _)) (fun hc => (?_ : AW _ _ _ _)) | simp (disch := omega) only [go_sem, seval, reduceCtorEq, ↓reduceIte, beq_dec, Int.toNat_natCast, IntKind.signed, IntKind.bits, List.length_map, getD_map (fun e : Nat × Nat => [CD.I (e.1 : Int), CD.I (e.2 : Int)]), hE, gx, gy, e1, Int.toNat_natCast, pl] | (refine And.intro ?_ ?_; focus (first | (intros; omega) | (intros; simp_all; done))) | refine And.intro (?_ : CallAt _ _ _ _ _ _ _ _) ?_ | refine And.intro (?_ : CallAt _ _ _ _ _ _ _ _ ∧ _) ?_ | refine And.intro (?_ : AW _ _ _ _) ?_ | fail))
              · refine .mk (k + 1) (by omega) (by omega) ?_
                rw [hsuc]
                simp (disch := omega) only [go_sem, seval, reduceCtorEq, ↓reduceIte, beq_dec, Int.toNat_natCast, IntKind.signed, IntKind.bits, Int.natCast_add, Int.natCast_one]
              · exfalso; omega
            | true =>
              rw [if_neg (by rintro (h | h); exact hab h; exact Bool.noConfusion (hu.symm.trans h))] at hsuc
              try dsimp only at hu
              try rw [hu] at g49
              (repeat' (first | refine NextAt.mk (fun hc => ?_) (fun pre n v post hc hkey => ?_) | refine Sni.mk (fun hc => ?_) ?_ | refine Both.mk ?_ ?_ | refine AW_seq ?_ | refine AW_block ?_ | ((first | refine AW_reg ?_ | refine AW_cond ?_ | refine AW_skip ?_ | refine AW_exit ?_ | refine AW_ret ?_ | refine AW_regD (by kernel_rfl) ?_ | refine AW_regX (by kernel_rfl) ?_ | refine CallAt.mkW (g49 ..) (by rfl) (by simp (disch := omega) only [go_sem, seval, reduceCtorEq, ↓reduceIte, beq_dec, Int.toNat_natCast, IntKind.signed, IntKind.bits, List.length_map, getD_map (fun e : Nat × Nat => [CD.I (e.1 : Int), CD.I (e.2 : Int)]), hE, gx, gy, e1, Int.toNat_natCast, pl, inK]) (by rfl) (by rfl) (by first | (intro h; cases h; done) | (intro _; simp [RV.flatP, CD.flatP, flatOb, AO.flatP, List.length_map, getD_map (fun e : Nat × Nat => [CD.I (e.1 : Int), CD.I (e.2 : Int)]), hE, gx, gy, e1, Int.toNat_natCast, pl, inK]; done)) ?_ | refine CallAtG.t (Eq.refl true) ?_ | refine CallAtG.f (Eq.refl false) ?_); try simp (disch := omega) only [go_sem, seval, reduceCtorEq, ↓reduceIte, beq_dec, Int.toNat_natCast, IntKind.signed, IntKind.bits, List.length_map, getD_map (fun e : Nat × Nat => [CD.I (e.1 : Int), CD.I (e.2 : Int)]), hE, gx, gy, e1, Int.toNat_natCast, pl, inK]) | refine And.intro (fun hc => (?_ : AW _ _ _ _)) (fun hc => (?_ : AW _ _ _ _)) | simp (disch := omega) only [go_sem, seval, reduceCtorEq, ↓reduceIte, beq_dec, Int.toNat_natCast, IntKind.signed, IntKind.bits, List.length_map, getD_map (fun e : Nat × Nat => [CD.I (e.1 : Int), CD.I (e.2 : Int)]), hE, gx, gy, e1, Int.toNat_natCast, pl, inK] | (refine And.intro ?_ ?_; focus (first | (intros; omega) | (intros; simp_all; done))) | refine And.intro (?_ : CallAt _ _ _ _ _ _ _ _) ?_ | refine And.intro (?_ : CallAt _ _ _ _ _ _ _ _ ∧ _) ?_ | refine And.intro (?_ : AW _ _ _ _) ?_ | fail))
              · refine AW_loopK [1, 6, 8, 11, 12, 30, 31, 32, 59] [13, 60, 61, 62, 63, 64, 65, 66, 67, 68, 69, 70, 71, 72, 73] (fun j : Nat => j ≤ s.nm.length) (fun j => [(60, .I j)]) (fun j => [(16, .arr 3 1 (iN (mxL (fun x => if x = B then A else x) s.nm j)))]) (fun j => s.nm.length - j) 0 (by omega) ?_ ?_
                · simp (disch := omega) only [go_sem, seval, reduceCtorEq, ↓reduceIte, beq_dec, Int.toNat_natCast, IntKind.signed, IntKind.bits, Int.natCast_zero, mxL, List.take_zero, List.map_nil, List.nil_append, List.drop_zero]
                · intro j hj
                  have ml := mxL_len (fun x => if x = B then A else x) s.nm j
                  rcases Nat.lt_or_ge j s.nm.length with hjl | hjl
                  · have gj := getD_map (fun x : Nat => [CD.I (x : Int)]) (mxL (fun x => if x = B then A else x) s.nm j) j [] (by omega)
                    have ma := mxL_at (fun x => if x = B then A else x) s.nm j hjl
                    have ms := mxL_set (fun x => if x = B then A else x) s.nm j hjl
                    have mm := mxL_same (fun x => if x = B then A else x) s.nm j hjl
                    rw [ma] at gj
                    by_cases hjb : nth s.nm j = B
                    · have e2 : ((nth s.nm j : Nat) : Int) = (B : Int) := by omega
                      simp only [hjb, if_true] at ms
                      (repeat' (first | refine NextAt.mk (fun hc => ?_) (fun pre n v post hc hkey => ?_) | refine Sni.mk (fun hc => ?_) ?_ | refine Both.mk ?_ ?_ | refine AW_seq ?_ | refine AW_block ?_ | ((first | refine AW_reg ?_ | refine AW_cond ?_ | refine AW_skip ?_ | refine AW_exit ?_ | refine AW_ret ?_ | refine AW_regD (by kernel_rfl) ?_ | refine AW_regX (by kernel_rfl) ?_ | refine CallAtG.t (Eq.refl true) ?_ | refine CallAtG.f (Eq.refl false) ?_); try simp (disch := omega) only [go_sem, seval, reduceCtorEq, ↓reduceIte, beq_dec, Int.toNat_natCast, IntKind.signed, IntKind.bits, List.length_map, gj, e2, Int.toNat_natCast, ml, pl, List.set_cons_zero, iN_set, ms]) | refine And.intro (fun hc => (?_ : AW _ _ _ _)) (fun hc => (?_ : AW _ _ _ _)) | simp (disch := omega) only [go_sem, seval, reduceCtorEq, ↓reduceIte, beq_dec, Int.toNat_natCast, IntKind.signed, IntKind.bits, List.length_map, gj, e2, Int.toNat_natCast, ml, pl, List.set_cons_zero, iN_set, ms] | (refine And.intro ?_ ?_; focus (first | (intros; omega) | (intros; simp_all; done))) | refine And.intro (?_ : CallAt _ _ _ _ _ _ _ _) ?_ | refine And.intro (?_ : CallAt _ _ _ _ _ _ _ _ ∧ _) ?_ | refine And.intro (?_ : AW _ _ _ _) ?_ | fail))
                      · refine .mk (j + 1) (by omega) (by omega) ?_
                        simp (disch := omega) only [go_sem, seval, reduceCtorEq, ↓reduceIte, beq_dec, Int.toNat_natCast, IntKind.signed, IntKind.bits, Int.natCast_add, Int.natCast_one]
                      all_goals (exfalso; omega)
                    · have e2 : (((nth s.nm j : Nat) : Int) = (B : Int)) = False := by simp; omega
                      have mm := mm (if_neg hjb)
                      (repeat' (first | refine NextAt.mk (fun hc => ?_) (fun pre n v post hc hkey => ?_) | refine Sni.mk (fun hc => ?_) ?_ | refine Both.mk ?_ ?_ | refine AW_seq ?_ | refine AW_block ?_ | ((first | refine AW_reg ?_ | refine AW_cond ?_ | refine AW_skip ?_ | refine AW_exit ?_ | refine AW_ret ?_ | refine AW_regD (by kernel_rfl) ?_ | refine AW_regX (by kernel_rfl) ?_ | refine CallAtG.t (Eq.refl true) ?_ | refine CallAtG.f (Eq.refl false) ?_); try simp (disch := omega) only [go_sem, seval, reduceCtorEq, ↓reduceIte, beq_dec, Int.toNat_natCast, IntKind.signed, IntKind.bits, List.length_map, gj, e2, Int.toNat_natCast, ml, pl]) | refine And.intro (fun hc => (?_ : AW _ _ _ _)) (fun hc => (?_ : AW _ _ _ _)) | simp (disch := omega) only [go_sem, seval, reduceCtorEq, ↓reduceIte, beq_dec, Int.toNat_natCast, IntKind.signed, IntKind.bits, List.length_map, gj, e2, Int.toNat_natCast, ml, pl] | (refine And.intro ?_ ?_; focus (first | (intros; omega) | (intros; simp_all; done))) | refine And.intro (?_ : CallAt _ _ _ _ _ _ _ _) ?_ | refine And.intro (?_ : CallAt _ _ _ _ _ _ _ _ ∧ _) ?_ | refine And.intro (?_ : AW _ _ _ _) ?_ | fail))
                      · refine .mk (j + 1) (by omega) (by omega) ?_
                        rw [← mm]
                        simp (disch := omega) only [go_sem, seval, reduceCtorEq, ↓reduceIte, beq_dec, Int.toNat_natCast, IntKind.signed, IntKind.bits, Int.natCast_add, Int.natCast_one]
                      all_goals (exfalso; omega)
                  · obtain rfl : j = s.nm.length := by omega
                    rw [mxL_end]
                    (repeat' (first | refine NextAt.mk (fun hc => ?_) (fun pre n v post hc hkey => ?_) | refine Sni.mk (fun hc => ?_) ?_ | refine Both.mk ?_ ?_ | refine AW_seq ?_ | refine AW_block ?_ | ((first | refine AW_reg ?_ | refine AW_cond ?_ | refine AW_skip ?_ | refine AW_exit ?_ | refine AW_ret ?_ | refine AW_regD (by kernel_rfl) ?_ | refine AW_regX (by kernel_rfl) ?_ | refine CallAtG.t (Eq.refl true) ?_ | refine CallAtG.f (Eq.refl false) ?_); try simp (disch := omega) only [go_sem, seval, reduceCtorEq, ↓reduceIte, beq_dec, Int.toNat_natCast, IntKind.signed, IntKind.bits, List.length_map, pl]) | refine And.intro (fun hc => (?_ : AW _ _ _ _)) (fun hc => (?_ : AW _ _ _ _)) | simp (disch := omega) only [go_sem, seval, reduceCtorEq, ↓reduceIte, beq_dec, Int.toNat_natCast, IntKind.signed, IntKind.bits, List.length_map, pl] | (refine And.intro ?_ ?_; focus (first | (intros; omega) | (intros; simp_all; done))) | refine And.intro (?_ : CallAt _ _ _ _ _ _ _ _) ?_ | refine And.intro (?_ : CallAt _ _ _ _ _ _ _ _ ∧ _) ?_ | refine And.intro (?_ : AW _ _ _ _) ?_ | fail))
                    · exfalso; omega
                    · refine .mk (k + 1) (by omega) (by omega) ?_
                      rw [hsuc]
                      simp (disch := omega) only [go_sem, seval, reduceCtorEq, ↓reduceIte, beq_dec, Int.toNat_natCast, IntKind.signed, IntKind.bits, Int.natCast_add, Int.natCast_one]
                      all_goals rfl
              all_goals (exfalso; omega)
        · obtain rfl : k = es.length := by omega
          (repeat' (first | refine NextAt.mk (fun hc => ?_) (fun pre n v post hc hkey => ?_) | refine Sni.mk (fun hc => ?_) ?_ | refine Both.mk ?_ ?_ | refine AW_seq ?_ | refine AW_block ?_ | ((first | refine AW_reg ?_ | refine AW_cond ?_ | refine AW_skip ?_ | refine AW_exit ?_ | refine AW_ret ?_ | refine AW_regD (by kernel_rfl) ?_ | refine AW_regX (by kernel_rfl) ?_ | refine CallAtG.t (Eq.refl true) ?_ | refine CallAtG.f (Eq.refl false) ?_); try simp (disch := omega) only [go_sem, seval, reduceCtorEq, ↓reduceIte, beq_dec, Int.toNat_natCast, IntKind.signed, IntKind.bits, List.length_map]) | refine And.intro (fun hc => (?_ : AW _ _ _ _)) (fun hc => (?_ : AW _ _ _ _)) | simp (disch := omega) only [go_sem, seval, reduceCtorEq, ↓reduceIte, beq_dec, Int.toNat_natCast, IntKind.signed, IntKind.bits, List.length_map] | (refine And.intro ?_ ?_; focus (first | (intros; omega) | (intros; simp_all; done))) | refine And.intro (?_ : CallAt _ _ _ _ _ _ _ _) ?_ | refine And.intro (?_ : CallAt _ _ _ _ _ _ _ _ ∧ _) ?_ | refine And.intro (?_ : AW _ _ _ _) ?_ | fail))
          · exfalso; omega
          all_goals trace_state
end Go.Proofs.Ytgldpbghbkoolaa

