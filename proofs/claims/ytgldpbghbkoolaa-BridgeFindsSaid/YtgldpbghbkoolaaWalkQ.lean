/-
  Lemmas for the proof: no statement of its own.
-/
import Derived.Test.YtgldpbghbkoolaaPlainI
set_option linter.unusedVariables false
set_option linter.unusedSimpArgs false
-- P p_15.txt
open Go Go.AL Go.RowKit
namespace Go.Proofs.Ytgldpbghbkoolaa
set_option maxRecDepth 20000
/- coinage/coinageref15.Blocks -/
abbrev c28_1 : AC := .reg [⟨(some 1), .box 25 (some 3) (.t 0), none⟩,
  ⟨(some 2), .mv (.k (.c .nil)), none⟩,
  ⟨(some 3), .mv (.k (.I 0)), none⟩] false
abbrev c28_2 : AC := .reg [⟨(some 16), .ld (some 3) (.t 1), none⟩,
  ⟨(some 17), .call 26 [(.t 16)], none⟩,
  ⟨(some 15), .mv (.t 17), none⟩,
  ⟨(some 18), .ext (.t 15) 0, none⟩,
  ⟨(some 19), .ext (.t 15) 1, none⟩,
  ⟨(some 4), .mv (.t 18), none⟩,
  ⟨(some 5), .mv (.t 19), none⟩] false
abbrev c28_3 : AC := .reg [⟨(some 20), .mv (.t 5), none⟩,
  ⟨(some 21), .bin .neq (.t 20) (.k (.I 0)), none⟩] false
abbrev c28_4 : AC := .reg [⟨(some 22), .mv (.t 5), none⟩,
  ⟨(some 2), .mv (.k (.c .nil)), none⟩,
  ⟨(some 3), .mv (.t 22), none⟩] false
abbrev c28_5 : AC := .seq c28_4 .ret
abbrev c28_6 : AC := .cond (.t 21) c28_5 .skip
abbrev c28_7 : AC := .seq c28_3 c28_6
abbrev c28_8 : AC := .reg [⟨(some 24), .ld (some 3) (.t 1), none⟩,
  ⟨(some 25), .call 36 [(.t 24)], none⟩,
  ⟨(some 23), .mv (.t 25), none⟩,
  ⟨(some 26), .ext (.t 23) 0, none⟩,
  ⟨(some 27), .ext (.t 23) 1, none⟩,
  ⟨(some 6), .mv (.t 26), none⟩,
  ⟨(some 7), .mv (.t 27), none⟩] false
abbrev c28_9 : AC := .reg [⟨(some 28), .mv (.t 6), none⟩,
  ⟨(some 29), .fad 2 (.t 1), none⟩,
  ⟨(some 30), .ld none (.t 29), none⟩,
  ⟨(some 31), .mv (.t 4), none⟩,
  ⟨(some 32), .call 52 [(.t 28), (.t 30), (.t 31)], none⟩,
  ⟨(some 8), .mv (.t 32), none⟩] false
abbrev c28_10 : AC := .reg [⟨(some 9), .mv (.k (.c .nil)), none⟩] false
abbrev c28_11 : AC := .reg [⟨(some 10), .mv (.k (.c .nil)), none⟩] false
abbrev c28_12 : AC := .reg [⟨(some 11), .mv (.k (.I 0)), none⟩] false
abbrev c28_13 : AC := .reg [⟨(some 33), .mv (.t 11), none⟩,
  ⟨(some 34), .fad 2 (.t 1), none⟩,
  ⟨(some 35), .ld none (.t 34), none⟩,
  ⟨(some 36), .len (.t 35), none⟩,
  ⟨(some 37), .bin .lss (.t 33) (.t 36), none⟩] false
abbrev c28_14 : AC := .cond (.t 37) .skip (.exit 0)
abbrev c28_15 : AC := .seq c28_13 c28_14
abbrev c28_16 : AC := .reg [⟨(some 40), .mv (.t 8), none⟩,
  ⟨(some 41), .mv (.t 6), none⟩,
  ⟨(some 42), .fad 2 (.t 1), none⟩,
  ⟨(some 43), .ld none (.t 42), none⟩,
  ⟨(some 44), .mv (.t 11), none⟩,
  ⟨(some 45), .iad 3 (.t 43) (.t 44), none⟩,
  ⟨(some 46), .fad 1 (.t 45), none⟩,
  ⟨(some 47), .ld none (.t 46), none⟩,
  ⟨(some 48), .build [(.I 0), (.I 0)] [(0, 1, (.k (.I 0))), (1, 1, (.t 47))], none⟩,
  ⟨(some 49), .call 37 [(.t 41), (.t 48)], none⟩,
  ⟨(some 50), .iad 1 (.t 40) (.t 49), none⟩,
  ⟨(some 51), .ld none (.t 50), none⟩,
  ⟨(some 12), .mv (.t 51), none⟩] false
abbrev c28_17 : AC := .reg [⟨(some 52), .mv (.t 4), none⟩,
  ⟨(some 53), .fad 2 (.t 1), none⟩,
  ⟨(some 54), .ld none (.t 53), none⟩,
  ⟨(some 55), .mv (.t 11), none⟩,
  ⟨(some 56), .iad 3 (.t 54) (.t 55), none⟩,
  ⟨(some 57), .fad 0 (.t 56), none⟩,
  ⟨(some 58), .ld none (.t 57), none⟩,
  ⟨(some 59), .call 21 [(.t 52), (.t 58)], none⟩,
  ⟨(some 60), .mv (.t 59), none⟩,
  ⟨(some 61), .mv (.t 10), (some (60, false))⟩,
  ⟨(some 62), .mv (.t 12), (some (60, false))⟩,
  ⟨(some 63), .call 21 [(.t 61), (.t 62)], (some (60, false))⟩,
  ⟨(some 64), .pick (.t 60) (.k (.B true)) (.t 63), none⟩] false
abbrev c28_18 : AC := .cond (.t 64) (.exit 1) .skip
abbrev c28_19 : AC := .seq c28_17 c28_18
abbrev c28_20 : AC := .reg [⟨(some 65), .mv (.t 10), none⟩,
  ⟨(some 66), .mv (.t 12), none⟩,
  ⟨(some 67), .bslice 3 1 [(.t 66)], none⟩,
  ⟨(some 68), .app 3 1 8 (.t 65) (.t 67), none⟩,
  ⟨(some 10), .mv (.t 68), none⟩] false
abbrev c28_21 : AC := .reg [⟨(some 13), .mv (.k (.c .nil)), none⟩] false
abbrev c28_22 : AC := .reg [⟨(some 69), .mv (.t 11), none⟩,
  ⟨(some 14), .mv (.t 69), none⟩] false
abbrev c28_23 : AC := .reg [⟨(some 70), .mv (.t 14), none⟩,
  ⟨(some 71), .fad 2 (.t 1), none⟩,
  ⟨(some 72), .ld none (.t 71), none⟩,
  ⟨(some 73), .len (.t 72), none⟩,
  ⟨(some 74), .bin .lss (.t 70) (.t 73), none⟩] false
abbrev c28_24 : AC := .cond (.t 74) .skip (.exit 2)
abbrev c28_25 : AC := .seq c28_23 c28_24
abbrev c28_26 : AC := .reg [⟨(some 77), .mv (.t 4), none⟩,
  ⟨(some 78), .fad 2 (.t 1), none⟩,
  ⟨(some 79), .ld none (.t 78), none⟩,
  ⟨(some 80), .mv (.t 14), none⟩,
  ⟨(some 81), .iad 3 (.t 79) (.t 80), none⟩,
  ⟨(some 82), .fad 0 (.t 81), none⟩,
  ⟨(some 83), .ld none (.t 82), none⟩,
  ⟨(some 84), .call 21 [(.t 77), (.t 83)], none⟩,
  ⟨(some 85), .not (.t 84), none⟩,
  ⟨(some 86), .mv (.t 85), none⟩,
  ⟨(some 87), .mv (.t 8), (some (86, true))⟩,
  ⟨(some 88), .mv (.t 6), (some (86, true))⟩,
  ⟨(some 89), .fad 2 (.t 1), (some (86, true))⟩,
  ⟨(some 90), .ld none (.t 89), (some (86, true))⟩,
  ⟨(some 91), .mv (.t 14), (some (86, true))⟩,
  ⟨(some 92), .iad 3 (.t 90) (.t 91), (some (86, true))⟩,
  ⟨(some 93), .fad 1 (.t 92), (some (86, true))⟩,
  ⟨(some 94), .ld none (.t 93), (some (86, true))⟩,
  ⟨(some 95), .build [(.I 0), (.I 0)] [(0, 1, (.k (.I 0))), (1, 1, (.t 94))], (some (86, true))⟩,
  ⟨(some 96), .call 37 [(.t 88), (.t 95)], (some (86, true))⟩,
  ⟨(some 97), .iad 1 (.t 87) (.t 96), (some (86, true))⟩,
  ⟨(some 98), .ld none (.t 97), (some (86, true))⟩,
  ⟨(some 99), .mv (.t 12), (some (86, true))⟩,
  ⟨(some 100), .bin .eql (.t 98) (.t 99), (some (86, true))⟩,
  ⟨(some 101), .pick (.t 86) (.t 100) (.k (.B false)), none⟩] false
abbrev c28_27 : AC := .reg [⟨(some 102), .mv (.t 13), none⟩,
  ⟨(some 103), .fad 2 (.t 1), none⟩,
  ⟨(some 104), .ld none (.t 103), none⟩,
  ⟨(some 105), .mv (.t 14), none⟩,
  ⟨(some 106), .iad 3 (.t 104) (.t 105), none⟩,
  ⟨(some 107), .fad 0 (.t 106), none⟩,
  ⟨(some 108), .ld none (.t 107), none⟩,
  ⟨(some 109), .bslice 3 1 [(.t 108)], none⟩,
  ⟨(some 110), .app 3 1 8 (.t 102) (.t 109), none⟩,
  ⟨(some 13), .mv (.t 110), none⟩] false
abbrev c28_28 : AC := .cond (.t 101) c28_27 .skip
abbrev c28_29 : AC := .seq c28_26 c28_28
abbrev c28_30 : AC := .block 3 c28_29
abbrev c28_31 : AC := .reg [⟨(some 75), .mv (.t 14), none⟩,
  ⟨(some 76), .bin .add (.t 75) (.k (.I 1)), none⟩,
  ⟨(some 14), .mv (.t 76), none⟩] false
abbrev c28_32 : AC := .seq c28_30 c28_31
abbrev c28_33 : AC := .seq c28_25 c28_32
abbrev c28_34 : AC := .loop c28_33
abbrev c28_35 : AC := .block 2 c28_34
abbrev c28_36 : AC := .seq c28_22 c28_35
abbrev c28_37 : AC := .reg [⟨(some 111), .mv (.t 9), none⟩,
  ⟨(some 112), .mv (.t 13), none⟩,
  ⟨(some 113), .bslice 22 1 [(.t 112)], none⟩,
  ⟨(some 114), .app 22 1 24 (.t 111) (.t 113), none⟩,
  ⟨(some 9), .mv (.t 114), none⟩] false
abbrev c28_38 : AC := .seq c28_36 c28_37
abbrev c28_39 : AC := .seq c28_21 c28_38
abbrev c28_40 : AC := .seq c28_20 c28_39
abbrev c28_41 : AC := .seq c28_19 c28_40
abbrev c28_42 : AC := .seq c28_16 c28_41
abbrev c28_43 : AC := .block 1 c28_42
abbrev c28_44 : AC := .reg [⟨(some 38), .mv (.t 11), none⟩,
  ⟨(some 39), .bin .add (.t 38) (.k (.I 1)), none⟩,
  ⟨(some 11), .mv (.t 39), none⟩] false
abbrev c28_45 : AC := .seq c28_43 c28_44
abbrev c28_46 : AC := .seq c28_15 c28_45
abbrev c28_47 : AC := .loop c28_46
abbrev c28_48 : AC := .block 0 c28_47
abbrev c28_49 : AC := .seq c28_12 c28_48
abbrev c28_50 : AC := .reg [⟨(some 115), .mv (.t 9), none⟩,
  ⟨(some 2), .mv (.t 115), none⟩,
  ⟨(some 3), .mv (.k (.I 0)), none⟩] false
abbrev c28_51 : AC := .seq c28_50 .ret
abbrev c28_52 : AC := .seq c28_49 c28_51
abbrev c28_53 : AC := .seq c28_11 c28_52
abbrev c28_54 : AC := .seq c28_10 c28_53
abbrev c28_55 : AC := .seq c28_9 c28_54
abbrev c28_56 : AC := .seq c28_8 c28_55
abbrev c28_57 : AC := .seq c28_7 c28_56
abbrev c28_58 : AC := .seq c28_2 c28_57
abbrev c28_59 : AC := .seq c28_1 c28_58
abbrev c28 : AC := c28_59
theorem code28 : fnCode Try.prog 28 = some (c28, [2, 3], 116) := by kernel_rfl

def isR (g : Gr) (i : Nat) : Bool := decide ((nth g.links i).id ∈ bridgesG g)
def clR (g : Gr) (i : Nat) : Nat := nth (laG g (bridgesG g)) (plN (diesG g) (nth g.links i).o)
def rbG (g : Gr) (i : Nat) : Bs := rbS (isR g) (clR g) (idsG g) g.links.length i
theorem rbG_eq {g : Gr} (hv : validG g = true) : (rbG g g.links.length).rows = blG g := by
  unfold rbG blG
  have hi : ∀ k, k < g.links.length → isR g k = nth (isG g) k := fun k hk => by
    rw [isG_nth hk]; unfold isR
    rw [Bool.eq_iff_iff, decide_eq_true_eq, br_mem hv hk]
  refine rb_bl hi fun j k hj hk fk fj => ?_
  have hmj := (valid_ends hv _ (nth_mem'' g.links j hj)).1
  have hmk := (valid_ends hv _ (nth_mem'' g.links k hk)).1
  unfold clR clG nmG
  rw [esG_nth hv hj, esG_nth hv hk]
  rw [laG_spec hv _ hmj hmk, pt_name hv _ hmj hmk]
  refine (used_out (fun i h => ?_) _ _).symm
  rw [← hi i h]
  unfold isR
  simp
theorem n28e (g : Gr) (hv : validG g = false) : FnR Try.prog 28 [g.av] [.c .nil, .c (.I 1)] := by
  have g26 := n26e g hv
  refine fn_walk code28 (by simp) ?_
  (repeat' (first | refine NextAt.mk (fun hc => ?_) (fun pre n v post hc hkey => ?_) | refine Sni.mk (fun hc => ?_) ?_ | refine Both.mk ?_ ?_ | refine AW_seq ?_ | refine AW_block ?_ | ((first | refine AW_reg ?_ | refine AW_cond ?_ | refine AW_skip ?_ | refine AW_exit ?_ | refine AW_ret ?_ | refine AW_regD (by kernel_rfl) ?_ | refine AW_regX (by kernel_rfl) ?_ | refine CallAtG.t (Eq.refl true) ?_ | refine CallAtG.f (Eq.refl false) ?_ | refine CallAt.mk _ (g26 ..) (by first | (intro h; cases h; done) | (intro _; repeat' (first | exact List.forall_mem_nil _ | trivial | refine List.forall_mem_cons.2 ⟨?_, ?_⟩)) | (intro _; simp [RV.flatP, CD.flatP]; done)) ?_ | refine CallAtG.mk _ (fun _ => g26 ..) ?_ | refine CallDS.mk _ (by simp [RV.data]) (fun _ => g26 ..) (by first | (intro h; cases h; done) | (intro _; repeat' (first | exact List.forall_mem_nil _ | trivial | refine List.forall_mem_cons.2 ⟨?_, ?_⟩)) | (intro _; simp [RV.flatP, CD.flatP]; done)) ?_); try simp (disch := omega) only [go_sem, seval, reduceCtorEq, ↓reduceIte, beq_dec, Int.toNat_natCast, IntKind.signed, IntKind.bits]) | refine And.intro (fun hc => (?_ : AW _ _ _ _)) (fun hc => (?_ : AW _ _ _ _)) | simp (disch := omega) only [go_sem, seval, reduceCtorEq, ↓reduceIte, beq_dec, Int.toNat_natCast, IntKind.signed, IntKind.bits] | (refine And.intro ?_ ?_; focus (first | (intros; omega) | (intros; simp_all; done))) | refine And.intro (?_ : CallAt _ _ _ _ _ _ _ _) ?_ | refine And.intro (?_ : CallAt _ _ _ _ _ _ _ _ ∧ _) ?_ | refine And.intro (?_ : AW _ _ _ _) ?_ | fail))
theorem hold28a {Q : Exit → St → Prop} {σ : St} (h : Hold (AW Try.prog c28_9 Q σ)) : AW Try.prog c28_9 Q σ := h.out
theorem hold28b {Q : Exit → St → Prop} {σ : St} (h : Hold (AW Try.prog c28_36 Q σ)) : AW Try.prog c28_36 Q σ := h.out
theorem hold28c {Q : Exit → St → Prop} {σ : St} (h : Hold (AW Try.prog c28_37 Q σ)) : AW Try.prog c28_37 Q σ := h.out
set_option maxHeartbeats 8000000 in
theorem n28 (g : Gr) (hv : validG g = true) : FnR Try.prog 28 [g.av] [.own 22 1 ((blG g).map fun r => [Row r]), .c (.I 0)] := by
  have g26 := n26 g hv
  have g37 := f37 g
  rw [dies_valid hv, errV_valid hv] at g37
  have hsm := valid_small hv
  have hdl := dies_len g
  have g52 := n52g g (bridgesG g) hv
  have hla := laG_len g (bridgesG g)
  have hen := valid_ends hv
  rw [← rbG_eq hv]
  unfold rbG
  have hisd : ∀ i, isR g i = decide ((nth g.links i).id ∈ bridgesG g) := fun _ => rfl
  have hcld : ∀ i, clR g i = nth (laG g (bridgesG g)) (plN (diesG g) (nth g.links i).o) := fun _ => rfl
  generalize isR g = is at *
  generalize clR g = cls at *
  generalize bridgesG g = br at *
  generalize laG g br = la at *
  have hidn : ∀ {j}, j < g.links.length → nth (idsG g) j = (nth g.links j).id := fun h => ids_nth h
  generalize idsG g = ids at *
  refine fn_walk code28 (by simp) ?_
  (repeat' (first | (with_reducible refine hold28a ?_; try simp (disch := omega) only [go_sem, seval, reduceCtorEq, ↓reduceIte, beq_dec, Int.toNat_natCast, IntKind.signed, IntKind.bits, List.length_map]) | refine NextAt.mk (fun hc => ?_) (fun pre n v post hc hkey => ?_) | refine Sni.mk (fun hc => ?_) ?_ | refine Both.mk ?_ ?_ | refine AW_seq ?_ | refine AW_block ?_ | ((first | refine AW_reg ?_ | refine AW_cond ?_ | refine AW_skip ?_ | refine AW_exit ?_ | refine AW_ret ?_ | refine AW_regD (by kernel_rfl) ?_ | refine AW_regX (by kernel_rfl) ?_ | refine CallAtG.t (Eq.refl true) ?_ | refine CallAtG.f (Eq.refl false) ?_ | refine CallAt.mk _ (g26 ..) (by first | (intro h; cases h; done) | (intro _; repeat' (first | exact List.forall_mem_nil _ | trivial | refine List.forall_mem_cons.2 ⟨?_, ?_⟩)) | (intro _; simp [RV.flatP, CD.flatP, List.length_map]; done)) ?_ | refine CallAtG.mk _ (fun _ => g26 ..) ?_ | refine CallDS.mk _ (by simp [RV.data]) (fun _ => g26 ..) (by first | (intro h; cases h; done) | (intro _; repeat' (first | exact List.forall_mem_nil _ | trivial | refine List.forall_mem_cons.2 ⟨?_, ?_⟩)) | (intro _; simp [RV.flatP, CD.flatP, List.length_map]; done)) ?_ | refine CallAt.mk _ (g37 ..) (by first | (intro h; cases h; done) | (intro _; repeat' (first | exact List.forall_mem_nil _ | trivial | refine List.forall_mem_cons.2 ⟨?_, ?_⟩)) | (intro _; simp [RV.flatP, CD.flatP, List.length_map]; done)) ?_ | refine CallAtG.mk _ (fun _ => g37 ..) ?_ | refine CallDS.mk _ (by simp [RV.data]) (fun _ => g37 ..) (by first | (intro h; cases h; done) | (intro _; repeat' (first | exact List.forall_mem_nil _ | trivial | refine List.forall_mem_cons.2 ⟨?_, ?_⟩)) | (intro _; simp [RV.flatP, CD.flatP, List.length_map]; done)) ?_); try simp (disch := omega) only [go_sem, seval, reduceCtorEq, ↓reduceIte, beq_dec, Int.toNat_natCast, IntKind.signed, IntKind.bits, List.length_map]) | refine And.intro (fun hc => (?_ : AW _ _ _ _)) (fun hc => (?_ : AW _ _ _ _)) | simp (disch := omega) only [go_sem, seval, reduceCtorEq, ↓reduceIte, beq_dec, Int.toNat_natCast, IntKind.signed, IntKind.bits, List.length_map] | (refine And.intro ?_ ?_; focus (first | (intros; omega) | (intros; simp_all; done))) | refine And.intro (?_ : CallAt _ _ _ _ _ _ _ _) ?_ | refine And.intro (?_ : CallAt _ _ _ _ _ _ _ _ ∧ _) ?_ | refine And.intro (?_ : AW _ _ _ _) ?_ | fail))
  refine ⟨AW_frz [17, 25] ?_⟩
  (repeat' (first | refine NextAt.mk (fun hc => ?_) (fun pre n v post hc hkey => ?_) | refine Sni.mk (fun hc => ?_) ?_ | refine Both.mk ?_ ?_ | refine AW_seq ?_ | refine AW_block ?_ | ((first | refine AW_reg ?_ | refine AW_cond ?_ | refine AW_skip ?_ | refine AW_exit ?_ | refine AW_ret ?_ | refine AW_regD (by kernel_rfl) ?_ | refine AW_regX (by kernel_rfl) ?_ | refine CallAtG.t (Eq.refl true) ?_ | refine CallAtG.f (Eq.refl false) ?_ | refine CallAt.mk _ (g52 ..) (by first | (intro h; cases h; done) | (intro _; repeat' (first | exact List.forall_mem_nil _ | trivial | refine List.forall_mem_cons.2 ⟨?_, ?_⟩)) | (intro _; simp [RV.flatP, CD.flatP, List.length_map]; done)) ?_ | refine CallAtG.mk _ (fun _ => g52 ..) ?_ | refine CallDS.mk _ (by simp [RV.data]) (fun _ => g52 ..) (by first | (intro h; cases h; done) | (intro _; repeat' (first | exact List.forall_mem_nil _ | trivial | refine List.forall_mem_cons.2 ⟨?_, ?_⟩)) | (intro _; simp [RV.flatP, CD.flatP, List.length_map]; done)) ?_); try simp (disch := omega) only [go_sem, seval, reduceCtorEq, ↓reduceIte, beq_dec, Int.toNat_natCast, IntKind.signed, IntKind.bits, List.length_map]) | refine And.intro (fun hc => (?_ : AW _ _ _ _)) (fun hc => (?_ : AW _ _ _ _)) | simp (disch := omega) only [go_sem, seval, reduceCtorEq, ↓reduceIte, beq_dec, Int.toNat_natCast, IntKind.signed, IntKind.bits, List.length_map] | (refine And.intro ?_ ?_; focus (first | (intros; omega) | (intros; simp_all; done))) | refine And.intro (?_ : CallAt _ _ _ _ _ _ _ _) ?_ | refine And.intro (?_ : CallAt _ _ _ _ _ _ _ _ ∧ _) ?_ | refine And.intro (?_ : AW _ _ _ _) ?_ | fail))
  refine AW_nil 9 900 22 1 (by rfl) ?_
  refine AW_nil 10 901 3 1 (by rfl) ?_
  refine AW_loopK [1, 4, 6, 8] [9, 10, 11, 12, 13, 14, 33, 34, 35, 36, 37, 38, 39, 40, 41, 42, 43, 44, 45, 46, 47, 48, 49, 50, 51, 52, 53, 54, 55, 56, 57, 58, 59, 60, 61, 62, 63, 64, 65, 66, 67, 68, 69, 70, 71, 72, 73, 74, 75, 76, 77, 78, 79, 80, 81, 82, 83, 84, 85, 86, 87, 88, 89, 90, 91, 92, 93, 94, 95, 96, 97, 98, 99, 100, 101, 102, 103, 104, 105, 106, 107, 108, 109, 110, 111, 112, 113, 114] (fun i : Nat => i ≤ g.links.length) (fun i => [(11, .I i), (9, .own 900), (10, .own 901)]) (fun i => [(900, .arr 22 1 ((rbS is cls ids g.links.length i).rows.map fun r => [Row r])), (901, .arr 3 1 (iN (rbS is cls ids g.links.length i).ks))]) (fun i => g.links.length - i) 0 (by omega) ?_ ?_
  · simp (disch := omega) only [go_sem, seval, reduceCtorEq, ↓reduceIte, beq_dec, Int.toNat_natCast, IntKind.signed, IntKind.bits, Int.natCast_zero, rbS, List.map_nil]
  · intro i hi
    obtain ⟨l1, l2⟩ := rbS_len (is := is) (cls := cls) (ids := ids) (L := g.links.length) i
    rcases Nat.lt_or_ge i g.links.length with hil | hil
    · have hsuc : rbS is cls ids g.links.length (i + 1) = rbK is cls ids g.links.length (rbS is cls ids g.links.length i) i := rfl
      unfold rbK at hsuc
      generalize rbS is cls ids g.links.length i = s at *
      have hno := hen _ (nth_mem'' g.links i hil)
      have gp : FnR Try.prog 37 [.c (DL (diesG g)), .agg [.I 0, .I (nth g.links i).obv]] [.c (.I (plN (diesG g) (nth g.links i).o : Nat))] := by
        have := f40 (diesG g) (nth g.links i).o
        rw [plc_nat hno.1] at this; exact this
      have hpl : plN (diesG g) (nth g.links i).o < la.length := by rw [hla]; exact (plN_mem hno.1).1
      have gla := getD_map (fun x : Nat => [CD.I (x : Int)]) la (plN (diesG g) (nth g.links i).o) [] hpl
      rw [← hcld i] at gla
      have ga := f60 br (nth g.links i).id
      rw [← hisd i] at ga
      have gb := n21N s.ks (cls i)
      generalize plN (diesG g) (nth g.links i).o = pi at *
      cases his : is i with
      | true =>
        rw [his] at ga
        rw [if_pos (.inl his)] at hsuc
        (repeat' (first | refine NextAt.mk (fun hc => ?_) (fun pre n v post hc hkey => ?_) | refine Sni.mk (fun hc => ?_) ?_ | refine Both.mk ?_ ?_ | refine AW_seq ?_ | refine AW_block ?_ | ((first | refine AW_reg ?_ | refine AW_cond ?_ | refine AW_skip ?_ | refine AW_exit ?_ | refine AW_ret ?_ | refine AW_regD (by kernel_rfl) ?_ | refine AW_regX (by kernel_rfl) ?_ | refine CallAtG.t (Eq.refl true) ?_ | refine CallAtG.f (Eq.refl false) ?_ | refine CallAt.mk _ (gp ..) (by first | (intro h; cases h; done) | (intro _; repeat' (first | exact List.forall_mem_nil _ | trivial | refine List.forall_mem_cons.2 ⟨?_, ?_⟩)) | (intro _; simp [RV.flatP, CD.flatP, List.length_map, getD_map Lk.cd, Lk.cd, gla, Int.toNat_natCast, hla]; done)) ?_ | refine CallAtG.mk _ (fun _ => gp ..) ?_ | refine CallDS.mk _ (by simp [RV.data]) (fun _ => gp ..) (by first | (intro h; cases h; done) | (intro _; repeat' (first | exact List.forall_mem_nil _ | trivial | refine List.forall_mem_cons.2 ⟨?_, ?_⟩)) | (intro _; simp [RV.flatP, CD.flatP, List.length_map, getD_map Lk.cd, Lk.cd, gla, Int.toNat_natCast, hla]; done)) ?_ | refine CallAt.mk _ (ga ..) (by first | (intro h; cases h; done) | (intro _; repeat' (first | exact List.forall_mem_nil _ | trivial | refine List.forall_mem_cons.2 ⟨?_, ?_⟩)) | (intro _; simp [RV.flatP, CD.flatP, List.length_map, getD_map Lk.cd, Lk.cd, gla, Int.toNat_natCast, hla]; done)) ?_ | refine CallAtG.mk _ (fun _ => ga ..) ?_ | refine CallDS.mk _ (by simp [RV.data]) (fun _ => ga ..) (by first | (intro h; cases h; done) | (intro _; repeat' (first | exact List.forall_mem_nil _ | trivial | refine List.forall_mem_cons.2 ⟨?_, ?_⟩)) | (intro _; simp [RV.flatP, CD.flatP, List.length_map, getD_map Lk.cd, Lk.cd, gla, Int.toNat_natCast, hla]; done)) ?_ | refine CallAt.mk _ (gb ..) (by first | (intro h; cases h; done) | (intro _; repeat' (first | exact List.forall_mem_nil _ | trivial | refine List.forall_mem_cons.2 ⟨?_, ?_⟩)) | (intro _; simp [RV.flatP, CD.flatP, List.length_map, getD_map Lk.cd, Lk.cd, gla, Int.toNat_natCast, hla]; done)) ?_ | refine CallAtG.mk _ (fun _ => gb ..) ?_ | refine CallDS.mk _ (by simp [RV.data]) (fun _ => gb ..) (by first | (intro h; cases h; done) | (intro _; repeat' (first | exact List.forall_mem_nil _ | trivial | refine List.forall_mem_cons.2 ⟨?_, ?_⟩)) | (intro _; simp [RV.flatP, CD.flatP, List.length_map, getD_map Lk.cd, Lk.cd, gla, Int.toNat_natCast, hla]; done)) ?_); try simp (disch := omega) only [go_sem, seval, reduceCtorEq, ↓reduceIte, beq_dec, Int.toNat_natCast, IntKind.signed, IntKind.bits, List.length_map, getD_map Lk.cd, Lk.cd, gla, Int.toNat_natCast, hla]) | refine And.intro (fun hc => (?_ : AW _ _ _ _)) (fun hc => (?_ : AW _ _ _ _)) | simp (disch := omega) only [go_sem, seval, reduceCtorEq, ↓reduceIte, beq_dec, Int.toNat_natCast, IntKind.signed, IntKind.bits, List.length_map, getD_map Lk.cd, Lk.cd, gla, Int.toNat_natCast, hla] | (refine And.intro ?_ ?_; focus (first | (intros; omega) | (intros; simp_all; done))) | refine And.intro (?_ : CallAt _ _ _ _ _ _ _ _) ?_ | refine And.intro (?_ : CallAt _ _ _ _ _ _ _ _ ∧ _) ?_ | refine And.intro (?_ : AW _ _ _ _) ?_ | refine And.intro (?_ : _ ∧ _) ?_ | fail))
        all_goals first
          | (exfalso; omega)
          | omega
          | (refine .mk (i + 1) (by omega) (by omega) ?_
             rw [hsuc]
             simp (disch := omega) only [go_sem, seval, reduceCtorEq, ↓reduceIte, beq_dec, Int.toNat_natCast, IntKind.signed, IntKind.bits, Int.natCast_add, Int.natCast_one]
             done)
          | trace_state
      | false =>
        rw [his] at ga
        by_cases hm : cls i ∈ s.ks
        · rw [if_pos (.inr hm)] at hsuc
          rw [decide_eq_true hm] at gb
          (repeat' (first | refine NextAt.mk (fun hc => ?_) (fun pre n v post hc hkey => ?_) | refine Sni.mk (fun hc => ?_) ?_ | refine Both.mk ?_ ?_ | refine AW_seq ?_ | refine AW_block ?_ | ((first | refine AW_reg ?_ | refine AW_cond ?_ | refine AW_skip ?_ | refine AW_exit ?_ | refine AW_ret ?_ | refine AW_regD (by kernel_rfl) ?_ | refine AW_regX (by kernel_rfl) ?_ | refine CallAtG.t (Eq.refl true) ?_ | refine CallAtG.f (Eq.refl false) ?_ | refine CallAt.mk _ (gp ..) (by first | (intro h; cases h; done) | (intro _; repeat' (first | exact List.forall_mem_nil _ | trivial | refine List.forall_mem_cons.2 ⟨?_, ?_⟩)) | (intro _; simp [RV.flatP, CD.flatP, List.length_map, getD_map Lk.cd, Lk.cd, gla, Int.toNat_natCast, hla]; done)) ?_ | refine CallAtG.mk _ (fun _ => gp ..) ?_ | refine CallDS.mk _ (by simp [RV.data]) (fun _ => gp ..) (by first | (intro h; cases h; done) | (intro _; repeat' (first | exact List.forall_mem_nil _ | trivial | refine List.forall_mem_cons.2 ⟨?_, ?_⟩)) | (intro _; simp [RV.flatP, CD.flatP, List.length_map, getD_map Lk.cd, Lk.cd, gla, Int.toNat_natCast, hla]; done)) ?_ | refine CallAt.mk _ (ga ..) (by first | (intro h; cases h; done) | (intro _; repeat' (first | exact List.forall_mem_nil _ | trivial | refine List.forall_mem_cons.2 ⟨?_, ?_⟩)) | (intro _; simp [RV.flatP, CD.flatP, List.length_map, getD_map Lk.cd, Lk.cd, gla, Int.toNat_natCast, hla]; done)) ?_ | refine CallAtG.mk _ (fun _ => ga ..) ?_ | refine CallDS.mk _ (by simp [RV.data]) (fun _ => ga ..) (by first | (intro h; cases h; done) | (intro _; repeat' (first | exact List.forall_mem_nil _ | trivial | refine List.forall_mem_cons.2 ⟨?_, ?_⟩)) | (intro _; simp [RV.flatP, CD.flatP, List.length_map, getD_map Lk.cd, Lk.cd, gla, Int.toNat_natCast, hla]; done)) ?_ | refine CallAt.mk _ (gb ..) (by first | (intro h; cases h; done) | (intro _; repeat' (first | exact List.forall_mem_nil _ | trivial | refine List.forall_mem_cons.2 ⟨?_, ?_⟩)) | (intro _; simp [RV.flatP, CD.flatP, List.length_map, getD_map Lk.cd, Lk.cd, gla, Int.toNat_natCast, hla]; done)) ?_ | refine CallAtG.mk _ (fun _ => gb ..) ?_ | refine CallDS.mk _ (by simp [RV.data]) (fun _ => gb ..) (by first | (intro h; cases h; done) | (intro _; repeat' (first | exact List.forall_mem_nil _ | trivial | refine List.forall_mem_cons.2 ⟨?_, ?_⟩)) | (intro _; simp [RV.flatP, CD.flatP, List.length_map, getD_map Lk.cd, Lk.cd, gla, Int.toNat_natCast, hla]; done)) ?_); try simp (disch := omega) only [go_sem, seval, reduceCtorEq, ↓reduceIte, beq_dec, Int.toNat_natCast, IntKind.signed, IntKind.bits, List.length_map, getD_map Lk.cd, Lk.cd, gla, Int.toNat_natCast, hla]) | refine And.intro (fun hc => (?_ : AW _ _ _ _)) (fun hc => (?_ : AW _ _ _ _)) | simp (disch := omega) only [go_sem, seval, reduceCtorEq, ↓reduceIte, beq_dec, Int.toNat_natCast, IntKind.signed, IntKind.bits, List.length_map, getD_map Lk.cd, Lk.cd, gla, Int.toNat_natCast, hla] | (refine And.intro ?_ ?_; focus (first | (intros; omega) | (intros; simp_all; done))) | refine And.intro (?_ : CallAt _ _ _ _ _ _ _ _) ?_ | refine And.intro (?_ : CallAt _ _ _ _ _ _ _ _ ∧ _) ?_ | refine And.intro (?_ : AW _ _ _ _) ?_ | refine And.intro (?_ : _ ∧ _) ?_ | fail))
          all_goals first
            | (exfalso; omega)
            | omega
            | (refine .mk (i + 1) (by omega) (by omega) ?_
               rw [hsuc]
               simp (disch := omega) only [go_sem, seval, reduceCtorEq, ↓reduceIte, beq_dec, Int.toNat_natCast, IntKind.signed, IntKind.bits, Int.natCast_add, Int.natCast_one]
               done)
            | trace_state
        · rw [if_neg (by rintro (h | h); rw [his] at h; cases h; exact hm h)] at hsuc
          rw [decide_eq_false hm] at gb
          generalize hA : cls i = A at *
          (repeat' (first | (with_reducible refine hold28b ?_; try simp (disch := omega) only [go_sem, seval, reduceCtorEq, ↓reduceIte, beq_dec, Int.toNat_natCast, IntKind.signed, IntKind.bits, List.length_map, getD_map Lk.cd, Lk.cd, gla, Int.toNat_natCast, hla, maxLen]) | refine NextAt.mk (fun hc => ?_) (fun pre n v post hc hkey => ?_) | refine Sni.mk (fun hc => ?_) ?_ | refine Both.mk ?_ ?_ | refine AW_seq ?_ | refine AW_block ?_ | ((first | refine AW_reg ?_ | refine AW_cond ?_ | refine AW_skip ?_ | refine AW_exit ?_ | refine AW_ret ?_ | refine AW_regD (by kernel_rfl) ?_ | refine AW_regX (by kernel_rfl) ?_ | refine CallAtG.t (Eq.refl true) ?_ | refine CallAtG.f (Eq.refl false) ?_ | refine CallAt.mk _ (gp ..) (by first | (intro h; cases h; done) | (intro _; repeat' (first | exact List.forall_mem_nil _ | trivial | refine List.forall_mem_cons.2 ⟨?_, ?_⟩)) | (intro _; simp [RV.flatP, CD.flatP, List.length_map, getD_map Lk.cd, Lk.cd, gla, Int.toNat_natCast, hla, maxLen]; done)) ?_ | refine CallAtG.mk _ (fun _ => gp ..) ?_ | refine CallDS.mk _ (by simp [RV.data]) (fun _ => gp ..) (by first | (intro h; cases h; done) | (intro _; repeat' (first | exact List.forall_mem_nil _ | trivial | refine List.forall_mem_cons.2 ⟨?_, ?_⟩)) | (intro _; simp [RV.flatP, CD.flatP, List.length_map, getD_map Lk.cd, Lk.cd, gla, Int.toNat_natCast, hla, maxLen]; done)) ?_ | refine CallAt.mk _ (ga ..) (by first | (intro h; cases h; done) | (intro _; repeat' (first | exact List.forall_mem_nil _ | trivial | refine List.forall_mem_cons.2 ⟨?_, ?_⟩)) | (intro _; simp [RV.flatP, CD.flatP, List.length_map, getD_map Lk.cd, Lk.cd, gla, Int.toNat_natCast, hla, maxLen]; done)) ?_ | refine CallAtG.mk _ (fun _ => ga ..) ?_ | refine CallDS.mk _ (by simp [RV.data]) (fun _ => ga ..) (by first | (intro h; cases h; done) | (intro _; repeat' (first | exact List.forall_mem_nil _ | trivial | refine List.forall_mem_cons.2 ⟨?_, ?_⟩)) | (intro _; simp [RV.flatP, CD.flatP, List.length_map, getD_map Lk.cd, Lk.cd, gla, Int.toNat_natCast, hla, maxLen]; done)) ?_ | refine CallAt.mk _ (gb ..) (by first | (intro h; cases h; done) | (intro _; repeat' (first | exact List.forall_mem_nil _ | trivial | refine List.forall_mem_cons.2 ⟨?_, ?_⟩)) | (intro _; simp [RV.flatP, CD.flatP, List.length_map, getD_map Lk.cd, Lk.cd, gla, Int.toNat_natCast, hla, maxLen]; done)) ?_ | refine CallAtG.mk _ (fun _ => gb ..) ?_ | refine CallDS.mk _ (by simp [RV.data]) (fun _ => gb ..) (by first | (intro h; cases h; done) | (intro _; repeat' (first | exact List.forall_mem_nil _ | trivial | refine List.forall_mem_cons.2 ⟨?_, ?_⟩)) | (intro _; simp [RV.flatP, CD.flatP, List.length_map, getD_map Lk.cd, Lk.cd, gla, Int.toNat_natCast, hla, maxLen]; done)) ?_); try simp (disch := omega) only [go_sem, seval, reduceCtorEq, ↓reduceIte, beq_dec, Int.toNat_natCast, IntKind.signed, IntKind.bits, List.length_map, getD_map Lk.cd, Lk.cd, gla, Int.toNat_natCast, hla, maxLen]) | refine And.intro (fun hc => (?_ : AW _ _ _ _)) (fun hc => (?_ : AW _ _ _ _)) | simp (disch := omega) only [go_sem, seval, reduceCtorEq, ↓reduceIte, beq_dec, Int.toNat_natCast, IntKind.signed, IntKind.bits, List.length_map, getD_map Lk.cd, Lk.cd, gla, Int.toNat_natCast, hla, maxLen] | (refine And.intro ?_ ?_; focus (first | (intros; omega) | (intros; simp_all; done))) | refine And.intro (?_ : CallAt _ _ _ _ _ _ _ _) ?_ | refine And.intro (?_ : CallAt _ _ _ _ _ _ _ _ ∧ _) ?_ | refine And.intro (?_ : AW _ _ _ _) ?_ | refine And.intro (?_ : _ ∧ _) ?_ | fail))
          all_goals first
            | (exfalso; omega)
            | omega
            | skip
          refine ⟨?_⟩
          refine AW_nil 13 902 3 1 (by rfl) ?_
          (repeat' (first | refine NextAt.mk (fun hc => ?_) (fun pre n v post hc hkey => ?_) | refine Sni.mk (fun hc => ?_) ?_ | refine Both.mk ?_ ?_ | refine AW_seq ?_ | refine AW_block ?_ | ((first | refine AW_reg ?_ | refine AW_cond ?_ | refine AW_skip ?_ | refine AW_exit ?_ | refine AW_ret ?_ | refine AW_regD (by kernel_rfl) ?_ | refine AW_regX (by kernel_rfl) ?_ | refine CallAtG.t (Eq.refl true) ?_ | refine CallAtG.f (Eq.refl false) ?_); try simp (disch := omega) only [go_sem, seval, reduceCtorEq, ↓reduceIte, beq_dec, Int.toNat_natCast, IntKind.signed, IntKind.bits]) | refine And.intro (fun hc => (?_ : AW _ _ _ _)) (fun hc => (?_ : AW _ _ _ _)) | simp (disch := omega) only [go_sem, seval, reduceCtorEq, ↓reduceIte, beq_dec, Int.toNat_natCast, IntKind.signed, IntKind.bits] | (refine And.intro ?_ ?_; focus (first | (intros; omega) | (intros; simp_all; done))) | refine And.intro (?_ : CallAt _ _ _ _ _ _ _ _) ?_ | refine And.intro (?_ : CallAt _ _ _ _ _ _ _ _ ∧ _) ?_ | refine And.intro (?_ : AW _ _ _ _) ?_ | fail))
          refine AW_loopK [1, 4, 6, 8, 9, 10, 11, 12] [13, 14, 70, 71, 72, 73, 74, 75, 76, 77, 78, 79, 80, 81, 82, 83, 84, 85, 86, 87, 88, 89, 90, 91, 92, 93, 94, 95, 96, 97, 98, 99, 100, 101, 102, 103, 104, 105, 106, 107, 108, 109, 110] (fun j : Nat => i ≤ j ∧ j ≤ g.links.length) (fun j => [(14, .I j), (13, .own 902)]) (fun j => [(902, .arr 3 1 (iRow (gpF is cls ids i j)))]) (fun j => g.links.length - j) i (by omega) ?_ ?_
          · rw [gpF_zero]
            simp (disch := omega) only [go_sem, seval, reduceCtorEq, ↓reduceIte, beq_dec, Int.toNat_natCast, IntKind.signed, IntKind.bits, List.map_nil]
          · rintro j ⟨hij, hj⟩
            have htl := gpF_len (is := is) (cls := cls) (ids := ids) i j
            rcases Nat.lt_or_ge j g.links.length with hjl | hjl
            · have htu := gpF_succ (is := is) (cls := cls) (ids := ids) i j
              rw [hidn hjl, hA] at htu
              generalize gpF is cls ids i j = y at *
              have hno' := hen _ (nth_mem'' g.links j hjl)
              have gp' : FnR Try.prog 37 [.c (DL (diesG g)), .agg [.I 0, .I (nth g.links j).obv]] [.c (.I (plN (diesG g) (nth g.links j).o : Nat))] := by
                have := f40 (diesG g) (nth g.links j).o
                rw [plc_nat hno'.1] at this; exact this
              have hpl' : plN (diesG g) (nth g.links j).o < la.length := by rw [hla]; exact (plN_mem hno'.1).1
              have gla' := getD_map (fun x : Nat => [CD.I (x : Int)]) la (plN (diesG g) (nth g.links j).o) [] hpl'
              rw [← hcld j] at gla'
              have ga' := f60 br (nth g.links j).id
              rw [← hisd j] at ga'
              generalize plN (diesG g) (nth g.links j).o = pj at *
              cases hjs : is j with
              | true =>
                rw [hjs] at ga'
                rw [if_neg (by rintro ⟨_, h, _⟩; rw [hjs] at h; cases h), List.append_nil] at htu
                (repeat' (first | refine NextAt.mk (fun hc => ?_) (fun pre n v post hc hkey => ?_) | refine Sni.mk (fun hc => ?_) ?_ | refine Both.mk ?_ ?_ | refine AW_seq ?_ | refine AW_block ?_ | ((first | refine AW_reg ?_ | refine AW_cond ?_ | refine AW_skip ?_ | refine AW_exit ?_ | refine AW_ret ?_ | refine AW_regD (by kernel_rfl) ?_ | refine AW_regX (by kernel_rfl) ?_ | refine CallAtG.t (Eq.refl true) ?_ | refine CallAtG.f (Eq.refl false) ?_ | refine CallAt.mk _ (ga' ..) (by first | (intro h; cases h; done) | (intro _; repeat' (first | exact List.forall_mem_nil _ | trivial | refine List.forall_mem_cons.2 ⟨?_, ?_⟩)) | (intro _; simp [RV.flatP, CD.flatP, List.length_map, getD_map Lk.cd, Lk.cd, Int.toNat_natCast, hla]; done)) ?_ | refine CallAtG.mk _ (fun _ => ga' ..) ?_ | refine CallDS.mk _ (by simp [RV.data]) (fun _ => ga' ..) (by first | (intro h; cases h; done) | (intro _; repeat' (first | exact List.forall_mem_nil _ | trivial | refine List.forall_mem_cons.2 ⟨?_, ?_⟩)) | (intro _; simp [RV.flatP, CD.flatP, List.length_map, getD_map Lk.cd, Lk.cd, Int.toNat_natCast, hla]; done)) ?_); try simp (disch := omega) only [go_sem, seval, reduceCtorEq, ↓reduceIte, beq_dec, Int.toNat_natCast, IntKind.signed, IntKind.bits, List.length_map, getD_map Lk.cd, Lk.cd, Int.toNat_natCast, hla]) | refine And.intro (fun hc => (?_ : AW _ _ _ _)) (fun hc => (?_ : AW _ _ _ _)) | simp (disch := omega) only [go_sem, seval, reduceCtorEq, ↓reduceIte, beq_dec, Int.toNat_natCast, IntKind.signed, IntKind.bits, List.length_map, getD_map Lk.cd, Lk.cd, Int.toNat_natCast, hla] | (refine And.intro ?_ ?_; focus (first | (intros; omega) | (intros; simp_all; done))) | refine And.intro (?_ : CallAt _ _ _ _ _ _ _ _) ?_ | refine And.intro (?_ : CallAt _ _ _ _ _ _ _ _ ∧ _) ?_ | refine And.intro (?_ : AW _ _ _ _) ?_ | refine And.intro (?_ : _ ∧ _) ?_ | fail))
                all_goals first
                  | (exfalso; omega)
                  | omega
                  | (refine .mk (j + 1) (by omega) (by omega) ?_
                     rw [htu]
                     simp (disch := omega) only [go_sem, seval, reduceCtorEq, ↓reduceIte, beq_dec, Int.toNat_natCast, IntKind.signed, IntKind.bits, Int.natCast_add, Int.natCast_one]
                     done)
                  | trace_state
              | false =>
                rw [hjs] at ga'
                by_cases hB : cls j = A
                · have e1 : (((cls j : Nat) : Int) = (A : Int)) = True := eq_true (by omega)
                  rw [if_pos ⟨hij, hjs, hB⟩] at htu
                  (repeat' (first | refine NextAt.mk (fun hc => ?_) (fun pre n v post hc hkey => ?_) | refine Sni.mk (fun hc => ?_) ?_ | refine Both.mk ?_ ?_ | refine AW_seq ?_ | refine AW_block ?_ | ((first | refine AW_reg ?_ | refine AW_cond ?_ | refine AW_skip ?_ | refine AW_exit ?_ | refine AW_ret ?_ | refine AW_regD (by kernel_rfl) ?_ | refine AW_regX (by kernel_rfl) ?_ | refine CallAtG.t (Eq.refl true) ?_ | refine CallAtG.f (Eq.refl false) ?_ | refine CallAt.mk _ (ga' ..) (by first | (intro h; cases h; done) | (intro _; repeat' (first | exact List.forall_mem_nil _ | trivial | refine List.forall_mem_cons.2 ⟨?_, ?_⟩)) | (intro _; simp [RV.flatP, CD.flatP, List.length_map, getD_map Lk.cd, Lk.cd, gla', e1, Int.toNat_natCast, hla, maxLen]; done)) ?_ | refine CallAtG.mk _ (fun _ => ga' ..) ?_ | refine CallDS.mk _ (by simp [RV.data]) (fun _ => ga' ..) (by first | (intro h; cases h; done) | (intro _; repeat' (first | exact List.forall_mem_nil _ | trivial | refine List.forall_mem_cons.2 ⟨?_, ?_⟩)) | (intro _; simp [RV.flatP, CD.flatP, List.length_map, getD_map Lk.cd, Lk.cd, gla', e1, Int.toNat_natCast, hla, maxLen]; done)) ?_ | refine CallAt.mk _ (gp' ..) (by first | (intro h; cases h; done) | (intro _; repeat' (first | exact List.forall_mem_nil _ | trivial | refine List.forall_mem_cons.2 ⟨?_, ?_⟩)) | (intro _; simp [RV.flatP, CD.flatP, List.length_map, getD_map Lk.cd, Lk.cd, gla', e1, Int.toNat_natCast, hla, maxLen]; done)) ?_ | refine CallAtG.mk _ (fun _ => gp' ..) ?_ | refine CallDS.mk _ (by simp [RV.data]) (fun _ => gp' ..) (by first | (intro h; cases h; done) | (intro _; repeat' (first | exact List.forall_mem_nil _ | trivial | refine List.forall_mem_cons.2 ⟨?_, ?_⟩)) | (intro _; simp [RV.flatP, CD.flatP, List.length_map, getD_map Lk.cd, Lk.cd, gla', e1, Int.toNat_natCast, hla, maxLen]; done)) ?_); try simp (disch := omega) only [go_sem, seval, reduceCtorEq, ↓reduceIte, beq_dec, Int.toNat_natCast, IntKind.signed, IntKind.bits, List.length_map, getD_map Lk.cd, Lk.cd, gla', e1, Int.toNat_natCast, hla, maxLen]) | refine And.intro (fun hc => (?_ : AW _ _ _ _)) (fun hc => (?_ : AW _ _ _ _)) | simp (disch := omega) only [go_sem, seval, reduceCtorEq, ↓reduceIte, beq_dec, Int.toNat_natCast, IntKind.signed, IntKind.bits, List.length_map, getD_map Lk.cd, Lk.cd, gla', e1, Int.toNat_natCast, hla, maxLen] | (refine And.intro ?_ ?_; focus (first | (intros; omega) | (intros; simp_all; done))) | refine And.intro (?_ : CallAt _ _ _ _ _ _ _ _) ?_ | refine And.intro (?_ : CallAt _ _ _ _ _ _ _ _ ∧ _) ?_ | refine And.intro (?_ : AW _ _ _ _) ?_ | refine And.intro (?_ : _ ∧ _) ?_ | fail))
                  all_goals first
                    | (exfalso; omega)
                    | omega
                    | (refine .mk (j + 1) (by omega) (by omega) ?_
                       rw [htu, iRow_app']
                       simp (disch := omega) only [go_sem, seval, reduceCtorEq, ↓reduceIte, beq_dec, Int.toNat_natCast, IntKind.signed, IntKind.bits, Int.natCast_add, Int.natCast_one]
                       done)
                    | trace_state
                · have e1 : (((cls j : Nat) : Int) = (A : Int)) = False := eq_false (by omega)
                  rw [if_neg (by rintro ⟨_, _, h⟩; exact hB h), List.append_nil] at htu
                  (repeat' (first | refine NextAt.mk (fun hc => ?_) (fun pre n v post hc hkey => ?_) | refine Sni.mk (fun hc => ?_) ?_ | refine Both.mk ?_ ?_ | refine AW_seq ?_ | refine AW_block ?_ | ((first | refine AW_reg ?_ | refine AW_cond ?_ | refine AW_skip ?_ | refine AW_exit ?_ | refine AW_ret ?_ | refine AW_regD (by kernel_rfl) ?_ | refine AW_regX (by kernel_rfl) ?_ | refine CallAtG.t (Eq.refl true) ?_ | refine CallAtG.f (Eq.refl false) ?_ | refine CallAt.mk _ (ga' ..) (by first | (intro h; cases h; done) | (intro _; repeat' (first | exact List.forall_mem_nil _ | trivial | refine List.forall_mem_cons.2 ⟨?_, ?_⟩)) | (intro _; simp [RV.flatP, CD.flatP, List.length_map, getD_map Lk.cd, Lk.cd, gla', e1, Int.toNat_natCast, hla, maxLen]; done)) ?_ | refine CallAtG.mk _ (fun _ => ga' ..) ?_ | refine CallDS.mk _ (by simp [RV.data]) (fun _ => ga' ..) (by first | (intro h; cases h; done) | (intro _; repeat' (first | exact List.forall_mem_nil _ | trivial | refine List.forall_mem_cons.2 ⟨?_, ?_⟩)) | (intro _; simp [RV.flatP, CD.flatP, List.length_map, getD_map Lk.cd, Lk.cd, gla', e1, Int.toNat_natCast, hla, maxLen]; done)) ?_ | refine CallAt.mk _ (gp' ..) (by first | (intro h; cases h; done) | (intro _; repeat' (first | exact List.forall_mem_nil _ | trivial | refine List.forall_mem_cons.2 ⟨?_, ?_⟩)) | (intro _; simp [RV.flatP, CD.flatP, List.length_map, getD_map Lk.cd, Lk.cd, gla', e1, Int.toNat_natCast, hla, maxLen]; done)) ?_ | refine CallAtG.mk _ (fun _ => gp' ..) ?_ | refine CallDS.mk _ (by simp [RV.data]) (fun _ => gp' ..) (by first | (intro h; cases h; done) | (intro _; repeat' (first | exact List.forall_mem_nil _ | trivial | refine List.forall_mem_cons.2 ⟨?_, ?_⟩)) | (intro _; simp [RV.flatP, CD.flatP, List.length_map, getD_map Lk.cd, Lk.cd, gla', e1, Int.toNat_natCast, hla, maxLen]; done)) ?_); try simp (disch := omega) only [go_sem, seval, reduceCtorEq, ↓reduceIte, beq_dec, Int.toNat_natCast, IntKind.signed, IntKind.bits, List.length_map, getD_map Lk.cd, Lk.cd, gla', e1, Int.toNat_natCast, hla, maxLen]) | refine And.intro (fun hc => (?_ : AW _ _ _ _)) (fun hc => (?_ : AW _ _ _ _)) | simp (disch := omega) only [go_sem, seval, reduceCtorEq, ↓reduceIte, beq_dec, Int.toNat_natCast, IntKind.signed, IntKind.bits, List.length_map, getD_map Lk.cd, Lk.cd, gla', e1, Int.toNat_natCast, hla, maxLen] | (refine And.intro ?_ ?_; focus (first | (intros; omega) | (intros; simp_all; done))) | refine And.intro (?_ : CallAt _ _ _ _ _ _ _ _) ?_ | refine And.intro (?_ : CallAt _ _ _ _ _ _ _ _ ∧ _) ?_ | refine And.intro (?_ : AW _ _ _ _) ?_ | refine And.intro (?_ : _ ∧ _) ?_ | fail))
                  all_goals first
                    | (exfalso; omega)
                    | omega
                    | (refine .mk (j + 1) (by omega) (by omega) ?_
                       rw [htu]
                       simp (disch := omega) only [go_sem, seval, reduceCtorEq, ↓reduceIte, beq_dec, Int.toNat_natCast, IntKind.signed, IntKind.bits, Int.natCast_add, Int.natCast_one]
                       done)
                    | trace_state
            · obtain rfl : j = g.links.length := by omega
              (repeat' (first | (with_reducible refine hold28c ?_; try simp (disch := omega) only [go_sem, seval, reduceCtorEq, ↓reduceIte, beq_dec, Int.toNat_natCast, IntKind.signed, IntKind.bits, List.length_map]) | refine NextAt.mk (fun hc => ?_) (fun pre n v post hc hkey => ?_) | refine Sni.mk (fun hc => ?_) ?_ | refine Both.mk ?_ ?_ | refine AW_seq ?_ | refine AW_block ?_ | ((first | refine AW_reg ?_ | refine AW_cond ?_ | refine AW_skip ?_ | refine AW_exit ?_ | refine AW_ret ?_ | refine AW_regD (by kernel_rfl) ?_ | refine AW_regX (by kernel_rfl) ?_ | refine CallAtG.t (Eq.refl true) ?_ | refine CallAtG.f (Eq.refl false) ?_); try simp (disch := omega) only [go_sem, seval, reduceCtorEq, ↓reduceIte, beq_dec, Int.toNat_natCast, IntKind.signed, IntKind.bits, List.length_map]) | refine And.intro (fun hc => (?_ : AW _ _ _ _)) (fun hc => (?_ : AW _ _ _ _)) | simp (disch := omega) only [go_sem, seval, reduceCtorEq, ↓reduceIte, beq_dec, Int.toNat_natCast, IntKind.signed, IntKind.bits, List.length_map] | (refine And.intro ?_ ?_; focus (first | (intros; omega) | (intros; simp_all; done))) | refine And.intro (?_ : CallAt _ _ _ _ _ _ _ _) ?_ | refine And.intro (?_ : CallAt _ _ _ _ _ _ _ _ ∧ _) ?_ | refine And.intro (?_ : AW _ _ _ _) ?_ | fail))
              · exfalso; omega
              refine ⟨AW_frz [902] ?_⟩
              (repeat' (first | refine NextAt.mk (fun hc => ?_) (fun pre n v post hc hkey => ?_) | refine Sni.mk (fun hc => ?_) ?_ | refine Both.mk ?_ ?_ | refine AW_seq ?_ | refine AW_block ?_ | ((first | refine AW_reg ?_ | refine AW_cond ?_ | refine AW_skip ?_ | refine AW_exit ?_ | refine AW_ret ?_ | refine AW_regD (by kernel_rfl) ?_ | refine AW_regX (by kernel_rfl) ?_ | refine CallAtG.t (Eq.refl true) ?_ | refine CallAtG.f (Eq.refl false) ?_); try simp (disch := omega) only [go_sem, seval, reduceCtorEq, ↓reduceIte, beq_dec, Int.toNat_natCast, IntKind.signed, IntKind.bits, List.length_map, maxLen]) | refine And.intro (fun hc => (?_ : AW _ _ _ _)) (fun hc => (?_ : AW _ _ _ _)) | simp (disch := omega) only [go_sem, seval, reduceCtorEq, ↓reduceIte, beq_dec, Int.toNat_natCast, IntKind.signed, IntKind.bits, List.length_map, maxLen] | (refine And.intro ?_ ?_; focus (first | (intros; omega) | (intros; simp_all; done))) | refine And.intro (?_ : CallAt _ _ _ _ _ _ _ _) ?_ | refine And.intro (?_ : CallAt _ _ _ _ _ _ _ _ ∧ _) ?_ | refine And.intro (?_ : AW _ _ _ _) ?_ | refine And.intro (?_ : _ ∧ _) ?_ | fail))
              all_goals first
                | (exfalso; omega)
                | omega
                | (refine .mk (i + 1) (by omega) (by omega) ?_
                   rw [hsuc]
                   simp only [List.map_append, List.map_cons, List.map_nil]
                   simp (disch := omega) only [go_sem, seval, reduceCtorEq, ↓reduceIte, beq_dec, Int.toNat_natCast, IntKind.signed, IntKind.bits, Int.natCast_add, Int.natCast_one]
                   done)
                | trace_state
    · obtain rfl : i = g.links.length := by omega
      (repeat' (first | refine NextAt.mk (fun hc => ?_) (fun pre n v post hc hkey => ?_) | refine Sni.mk (fun hc => ?_) ?_ | refine Both.mk ?_ ?_ | refine AW_seq ?_ | refine AW_block ?_ | ((first | refine AW_reg ?_ | refine AW_cond ?_ | refine AW_skip ?_ | refine AW_exit ?_ | refine AW_ret ?_ | refine AW_regD (by kernel_rfl) ?_ | refine AW_regX (by kernel_rfl) ?_ | refine CallAtG.t (Eq.refl true) ?_ | refine CallAtG.f (Eq.refl false) ?_); try simp (disch := omega) only [go_sem, seval, reduceCtorEq, ↓reduceIte, beq_dec, Int.toNat_natCast, IntKind.signed, IntKind.bits, List.length_map]) | refine And.intro (fun hc => (?_ : AW _ _ _ _)) (fun hc => (?_ : AW _ _ _ _)) | simp (disch := omega) only [go_sem, seval, reduceCtorEq, ↓reduceIte, beq_dec, Int.toNat_natCast, IntKind.signed, IntKind.bits, List.length_map] | (refine And.intro ?_ ?_; focus (first | (intros; omega) | (intros; simp_all; done))) | refine And.intro (?_ : CallAt _ _ _ _ _ _ _ _) ?_ | refine And.intro (?_ : CallAt _ _ _ _ _ _ _ _ ∧ _) ?_ | refine And.intro (?_ : AW _ _ _ _) ?_ | fail))
      all_goals (exfalso; omega)
end Go.Proofs.Ytgldpbghbkoolaa

