/-
  A link is a bridge exactly if the flow between its dies is 1, and otherwise in exactly one block.
-/
import Derived.Test.YtgldpbghbkoolaaPlainG
import Derived.Test.YtgldpbghbkoolaaWalkA
import Derived.KernelRfl
set_option linter.unusedVariables false
set_option linter.unusedSimpArgs false
-- P p_15.txt
open Go Go.AL Go.RowKit
namespace Go.Proofs.Ytgldpbghbkoolaa
set_option maxRecDepth 20000
/- coinage/coinagelaw15.BridgeOne -/
abbrev c5_1 : AC := .reg [⟨(some 1), .box 25 (some 3) (.t 0), none⟩,
  ⟨(some 2), .mv (.k (.B false)), none⟩] false
abbrev c5_2 : AC := .reg [⟨(some 13), .call 9 [], none⟩,
  ⟨(some 14), .not (.t 13), none⟩,
  ⟨(some 15), .mv (.t 14), none⟩,
  ⟨(some 16), .ld (some 3) (.t 1), (some (15, false))⟩,
  ⟨(some 17), .call 10 [(.t 16)], (some (15, false))⟩,
  ⟨(some 18), .not (.t 17), (some (15, false))⟩,
  ⟨(some 19), .pick (.t 15) (.k (.B true)) (.t 18), none⟩] false
abbrev c5_3 : AC := .reg [⟨(some 20), .call 9 [], none⟩,
  ⟨(some 2), .mv (.t 20), none⟩] false
abbrev c5_4 : AC := .seq c5_3 .ret
abbrev c5_5 : AC := .cond (.t 19) c5_4 .skip
abbrev c5_6 : AC := .seq c5_2 c5_5
abbrev c5_7 : AC := .reg [⟨(some 22), .ld (some 3) (.t 1), none⟩,
  ⟨(some 23), .call 18 [(.t 22)], none⟩,
  ⟨(some 21), .mv (.t 23), none⟩,
  ⟨(some 24), .ext (.t 21) 0, none⟩,
  ⟨(some 25), .ext (.t 21) 1, none⟩,
  ⟨(some 3), .mv (.t 24), none⟩,
  ⟨(some 4), .mv (.t 25), none⟩] false
abbrev c5_8 : AC := .reg [⟨(some 27), .ld (some 3) (.t 1), none⟩,
  ⟨(some 28), .call 19 [(.t 27)], none⟩,
  ⟨(some 26), .mv (.t 28), none⟩,
  ⟨(some 29), .ext (.t 26) 0, none⟩,
  ⟨(some 30), .ext (.t 26) 1, none⟩,
  ⟨(some 5), .mv (.t 29), none⟩,
  ⟨(some 6), .mv (.t 30), none⟩] false
abbrev c5_9 : AC := .reg [⟨(some 31), .mv (.t 4), none⟩,
  ⟨(some 32), .bin .neq (.t 31) (.k (.I 0)), none⟩,
  ⟨(some 33), .mv (.t 32), none⟩,
  ⟨(some 34), .mv (.t 6), (some (33, false))⟩,
  ⟨(some 35), .bin .neq (.t 34) (.k (.I 0)), (some (33, false))⟩,
  ⟨(some 36), .pick (.t 33) (.k (.B true)) (.t 35), none⟩] false
abbrev c5_10 : AC := .reg [⟨(some 37), .mv (.t 4), none⟩,
  ⟨(some 38), .mv (.t 6), none⟩,
  ⟨(some 39), .bin .eql (.t 37) (.t 38), none⟩,
  ⟨(some 40), .mv (.t 39), none⟩,
  ⟨(some 41), .ld (some 3) (.t 1), (some (40, true))⟩,
  ⟨(some 42), .call 20 [(.t 41)], (some (40, true))⟩,
  ⟨(some 43), .not (.t 42), (some (40, true))⟩,
  ⟨(some 44), .pick (.t 40) (.t 43) (.k (.B false)), none⟩,
  ⟨(some 2), .mv (.t 44), none⟩] false
abbrev c5_11 : AC := .seq c5_10 .ret
abbrev c5_12 : AC := .cond (.t 36) c5_11 .skip
abbrev c5_13 : AC := .seq c5_9 c5_12
abbrev c5_14 : AC := .reg [⟨(some 7), .mv (.k (.I 0)), none⟩] false
abbrev c5_15 : AC := .reg [⟨(some 45), .mv (.t 7), none⟩,
  ⟨(some 46), .fad 2 (.t 1), none⟩,
  ⟨(some 47), .ld none (.t 46), none⟩,
  ⟨(some 48), .len (.t 47), none⟩,
  ⟨(some 49), .bin .lss (.t 45) (.t 48), none⟩] false
abbrev c5_16 : AC := .cond (.t 49) .skip (.exit 0)
abbrev c5_17 : AC := .seq c5_15 c5_16
abbrev c5_18 : AC := .reg [⟨(some 52), .fad 2 (.t 1), none⟩,
  ⟨(some 53), .ld none (.t 52), none⟩,
  ⟨(some 54), .mv (.t 7), none⟩,
  ⟨(some 55), .iad 3 (.t 53) (.t 54), none⟩,
  ⟨(some 56), .ld (some 3) (.t 55), none⟩,
  ⟨(some 8), .alloc 44 [(.I 0), (.I 0), (.I 0)], none⟩,
  ⟨none, .st (some 3) (.t 8) (.t 56), none⟩] false
abbrev c5_19 : AC := .reg [⟨(some 58), .ld (some 3) (.t 1), none⟩,
  ⟨(some 59), .fad 1 (.t 8), none⟩,
  ⟨(some 60), .ld none (.t 59), none⟩,
  ⟨(some 61), .build [(.I 0), (.I 0)] [(1, 1, (.t 60))], none⟩,
  ⟨(some 62), .fad 2 (.t 8), none⟩,
  ⟨(some 63), .ld none (.t 62), none⟩,
  ⟨(some 64), .build [(.I 0), (.I 0)] [(0, 1, (.k (.I 1))), (1, 1, (.t 63))], none⟩,
  ⟨(some 65), .call 11 [(.t 58), (.t 61), (.t 64)], none⟩,
  ⟨(some 57), .mv (.t 65), none⟩,
  ⟨(some 66), .ext (.t 57) 0, none⟩,
  ⟨(some 67), .ext (.t 57) 1, none⟩,
  ⟨(some 9), .mv (.t 66), none⟩,
  ⟨(some 10), .mv (.t 67), none⟩] false
abbrev c5_20 : AC := .reg [⟨(some 68), .mv (.t 10), none⟩,
  ⟨(some 69), .bin .neq (.t 68) (.k (.I 0)), none⟩,
  ⟨(some 70), .mv (.t 69), none⟩,
  ⟨(some 71), .mv (.t 9), (some (70, false))⟩,
  ⟨(some 72), .bin .lss (.t 71) (.k (.I 1)), (some (70, false))⟩,
  ⟨(some 73), .pick (.t 70) (.k (.B true)) (.t 72), none⟩,
  ⟨(some 74), .mv (.t 73), none⟩,
  ⟨(some 75), .mv (.t 3), (some (74, false))⟩,
  ⟨(some 76), .fad 0 (.t 8), (some (74, false))⟩,
  ⟨(some 77), .ld none (.t 76), (some (74, false))⟩,
  ⟨(some 78), .call 21 [(.t 75), (.t 77)], (some (74, false))⟩,
  ⟨(some 79), .mv (.t 9), (some (74, false))⟩,
  ⟨(some 80), .bin .eql (.t 79) (.k (.I 1)), (some (74, false))⟩,
  ⟨(some 81), .beq true (.t 78) (.t 80), (some (74, false))⟩,
  ⟨(some 82), .pick (.t 74) (.k (.B true)) (.t 81), none⟩] false
abbrev c5_21 : AC := .reg [⟨(some 2), .mv (.k (.B false)), none⟩] false
abbrev c5_22 : AC := .seq c5_21 .ret
abbrev c5_23 : AC := .cond (.t 82) c5_22 .skip
abbrev c5_24 : AC := .seq c5_20 c5_23
abbrev c5_25 : AC := .reg [⟨(some 11), .mv (.k (.I 0)), none⟩] false
abbrev c5_26 : AC := .reg [⟨(some 12), .mv (.k (.I 0)), none⟩] false
abbrev c5_27 : AC := .reg [⟨(some 83), .mv (.t 12), none⟩,
  ⟨(some 84), .mv (.t 5), none⟩,
  ⟨(some 85), .len (.t 84), none⟩,
  ⟨(some 86), .bin .lss (.t 83) (.t 85), none⟩] false
abbrev c5_28 : AC := .cond (.t 86) .skip (.exit 2)
abbrev c5_29 : AC := .seq c5_27 c5_28
abbrev c5_30 : AC := .regD [(⟨(some 89), .mv (.t 5), none⟩, [5]),
  (⟨(some 90), .mv (.t 12), none⟩, [12]),
  (⟨(some 91), .iad 1 (.t 89) (.t 90), none⟩, [89, 90]),
  (⟨(some 92), .ld none (.t 91), none⟩, [91]),
  (⟨(some 93), .fad 0 (.t 8), none⟩, [8]),
  (⟨(some 94), .ld none (.t 93), none⟩, [93]),
  (⟨(some 95), .call 21 [(.t 92), (.t 94)], none⟩, [92, 94])]
abbrev c5_31 : AC := .reg [⟨(some 96), .mv (.t 11), none⟩,
  ⟨(some 97), .bin .add (.t 96) (.k (.I 1)), none⟩,
  ⟨(some 11), .mv (.t 97), none⟩] false
abbrev c5_32 : AC := .cond (.t 95) c5_31 .skip
abbrev c5_33 : AC := .seq c5_30 c5_32
abbrev c5_34 : AC := .block 3 c5_33
abbrev c5_35 : AC := .reg [⟨(some 87), .mv (.t 12), none⟩,
  ⟨(some 88), .bin .add (.t 87) (.k (.I 1)), none⟩,
  ⟨(some 12), .mv (.t 88), none⟩] false
abbrev c5_36 : AC := .seq c5_34 c5_35
abbrev c5_37 : AC := .seq c5_29 c5_36
abbrev c5_38 : AC := .loop c5_37
abbrev c5_39 : AC := .block 2 c5_38
abbrev c5_40 : AC := .seq c5_26 c5_39
abbrev c5_41 : AC := .reg [⟨(some 98), .mv (.t 3), none⟩,
  ⟨(some 99), .fad 0 (.t 8), none⟩,
  ⟨(some 100), .ld none (.t 99), none⟩,
  ⟨(some 101), .call 21 [(.t 98), (.t 100)], none⟩,
  ⟨(some 102), .mv (.t 101), none⟩,
  ⟨(some 103), .mv (.t 11), (some (102, true))⟩,
  ⟨(some 104), .bin .neq (.t 103) (.k (.I 0)), (some (102, true))⟩,
  ⟨(some 105), .pick (.t 102) (.t 104) (.k (.B false)), none⟩,
  ⟨(some 106), .mv (.t 105), none⟩,
  ⟨(some 107), .mv (.t 3), (some (106, false))⟩,
  ⟨(some 108), .fad 0 (.t 8), (some (106, false))⟩,
  ⟨(some 109), .ld none (.t 108), (some (106, false))⟩,
  ⟨(some 110), .call 21 [(.t 107), (.t 109)], (some (106, false))⟩,
  ⟨(some 111), .not (.t 110), (some (106, false))⟩,
  ⟨(some 112), .mv (.t 111), (some (106, false))⟩,
  ⟨(some 113), .mv (.t 11), (some (112, true))⟩,
  ⟨(some 114), .bin .neq (.t 113) (.k (.I 1)), (some (112, true))⟩,
  ⟨(some 115), .pick (.t 112) (.t 114) (.k (.B false)), (some (106, false))⟩,
  ⟨(some 116), .pick (.t 106) (.k (.B true)) (.t 115), none⟩] false
abbrev c5_42 : AC := .reg [⟨(some 2), .mv (.k (.B false)), none⟩] false
abbrev c5_43 : AC := .seq c5_42 .ret
abbrev c5_44 : AC := .cond (.t 116) c5_43 .skip
abbrev c5_45 : AC := .seq c5_41 c5_44
abbrev c5_46 : AC := .seq c5_40 c5_45
abbrev c5_47 : AC := .seq c5_25 c5_46
abbrev c5_48 : AC := .seq c5_24 c5_47
abbrev c5_49 : AC := .seq c5_19 c5_48
abbrev c5_50 : AC := .seq c5_18 c5_49
abbrev c5_51 : AC := .block 1 c5_50
abbrev c5_52 : AC := .reg [⟨(some 50), .mv (.t 7), none⟩,
  ⟨(some 51), .bin .add (.t 50) (.k (.I 1)), none⟩,
  ⟨(some 7), .mv (.t 51), none⟩] false
abbrev c5_53 : AC := .seq c5_51 c5_52
abbrev c5_54 : AC := .seq c5_17 c5_53
abbrev c5_55 : AC := .loop c5_54
abbrev c5_56 : AC := .block 0 c5_55
abbrev c5_57 : AC := .seq c5_14 c5_56
abbrev c5_58 : AC := .reg [⟨(some 117), .mv (.t 3), none⟩,
  ⟨(some 118), .len (.t 117), none⟩,
  ⟨(some 119), .fad 2 (.t 1), none⟩,
  ⟨(some 120), .ld none (.t 119), none⟩,
  ⟨(some 121), .len (.t 120), none⟩,
  ⟨(some 122), .bin .leq (.t 118) (.t 121), none⟩,
  ⟨(some 2), .mv (.t 122), none⟩] false
abbrev c5_59 : AC := .seq c5_58 .ret
abbrev c5_60 : AC := .seq c5_57 c5_59
abbrev c5_61 : AC := .seq c5_13 c5_60
abbrev c5_62 : AC := .seq c5_8 c5_61
abbrev c5_63 : AC := .seq c5_7 c5_62
abbrev c5_64 : AC := .seq c5_6 c5_63
abbrev c5_65 : AC := .seq c5_1 c5_64
abbrev c5 : AC := c5_65
theorem code5 : fnCode Try.prog 5 = some (c5, [2], 123) := by kernel_rfl

theorem blG_len (g : Gr) : (blG g).length ≤ g.links.length := (blS_len (nth (isG g)) (clG g) (idsG g) g.links.length).2.1
def cnI (g : Gr) (i k : Nat) : Nat := if nth (isG g) i = false ∧ grI g i < k then 1 else 0
theorem cnI_succ {g : Gr} (hv : validG g = true) {i k : Nat} (hi : i < g.links.length) (hk : k < (blG g).length) : cnI g i (k + 1) = cnI g i k + if (nth g.links i).id ∈ nth (blG g) k then 1 else 0 := by
  have h := bl_mem hv hi k
  have e : (blG g).getD k [] = nth (blG g) k := rfl
  rw [e] at h
  simp only [h]
  unfold cnI
  by_cases h1 : nth (isG g) i = false
  · simp only [h1, true_and]
    by_cases h2 : grI g i < k
    · rw [if_pos h2, if_pos (by omega), if_neg (by omega)]
    · by_cases h3 : k = grI g i
      · rw [if_neg h2, if_pos (by omega), if_pos h3]
      · rw [if_neg h2, if_neg (by omega), if_neg h3]
  · simp [h1]
theorem cnI_end {g : Gr} {i : Nat} (hi : i < g.links.length) : cnI g i (blG g).length = if nth (isG g) i = false then 1 else 0 := by
  unfold cnI
  by_cases h : nth (isG g) i = false
  · rw [if_pos ⟨h, grI_lt hi h⟩, if_pos h]
  · rw [if_neg (fun h' => h h'.1), if_neg h]
theorem cnI_le (g : Gr) (i k : Nat) : cnI g i k ≤ 1 := by unfold cnI; split <;> omega
theorem n5e (g : Gr) (hv : validG g = false) : FnR Try.prog 5 [g.av] [.c (.B true)] := by
  have g18 := n18e g hv
  have g19 := n19e g hv
  have g32 := f32 g
  rw [hv] at g32
  refine fn_walk code5 (by simp) ?_
  (repeat' (first | refine NextAt.mk (fun hc => ?_) (fun pre n v post hc hkey => ?_) | refine Sni.mk (fun hc => ?_) ?_ | refine Both.mk ?_ ?_ | refine AW_seq ?_ | refine AW_block ?_ | ((first | refine AW_reg ?_ | refine AW_cond ?_ | refine AW_skip ?_ | refine AW_exit ?_ | refine AW_ret ?_ | refine AW_regD (by kernel_rfl) ?_ | refine AW_regX (by kernel_rfl) ?_ | refine CallAtG.t (Eq.refl true) ?_ | refine CallAtG.f (Eq.refl false) ?_ | refine CallAt.mk _ (n9 ..) (by first | (intro h; cases h; done) | (intro _; repeat' (first | exact List.forall_mem_nil _ | trivial | refine List.forall_mem_cons.2 ⟨?_, ?_⟩)) | (intro _; simp [RV.flatP, CD.flatP]; done)) ?_ | refine CallAtG.mk _ (fun _ => n9 ..) ?_ | refine CallDS.mk _ (by simp [RV.data]) (fun _ => n9 ..) (by first | (intro h; cases h; done) | (intro _; repeat' (first | exact List.forall_mem_nil _ | trivial | refine List.forall_mem_cons.2 ⟨?_, ?_⟩)) | (intro _; simp [RV.flatP, CD.flatP]; done)) ?_ | refine CallAt.mk _ (n10 ..) (by first | (intro h; cases h; done) | (intro _; repeat' (first | exact List.forall_mem_nil _ | trivial | refine List.forall_mem_cons.2 ⟨?_, ?_⟩)) | (intro _; simp [RV.flatP, CD.flatP]; done)) ?_ | refine CallAtG.mk _ (fun _ => n10 ..) ?_ | refine CallDS.mk _ (by simp [RV.data]) (fun _ => n10 ..) (by first | (intro h; cases h; done) | (intro _; repeat' (first | exact List.forall_mem_nil _ | trivial | refine List.forall_mem_cons.2 ⟨?_, ?_⟩)) | (intro _; simp [RV.flatP, CD.flatP]; done)) ?_ | refine CallAt.mk _ (g18 ..) (by first | (intro h; cases h; done) | (intro _; repeat' (first | exact List.forall_mem_nil _ | trivial | refine List.forall_mem_cons.2 ⟨?_, ?_⟩)) | (intro _; simp [RV.flatP, CD.flatP]; done)) ?_ | refine CallAtG.mk _ (fun _ => g18 ..) ?_ | refine CallDS.mk _ (by simp [RV.data]) (fun _ => g18 ..) (by first | (intro h; cases h; done) | (intro _; repeat' (first | exact List.forall_mem_nil _ | trivial | refine List.forall_mem_cons.2 ⟨?_, ?_⟩)) | (intro _; simp [RV.flatP, CD.flatP]; done)) ?_ | refine CallAt.mk _ (g19 ..) (by first | (intro h; cases h; done) | (intro _; repeat' (first | exact List.forall_mem_nil _ | trivial | refine List.forall_mem_cons.2 ⟨?_, ?_⟩)) | (intro _; simp [RV.flatP, CD.flatP]; done)) ?_ | refine CallAtG.mk _ (fun _ => g19 ..) ?_ | refine CallDS.mk _ (by simp [RV.data]) (fun _ => g19 ..) (by first | (intro h; cases h; done) | (intro _; repeat' (first | exact List.forall_mem_nil _ | trivial | refine List.forall_mem_cons.2 ⟨?_, ?_⟩)) | (intro _; simp [RV.flatP, CD.flatP]; done)) ?_ | refine CallAt.mk _ (g32 ..) (by first | (intro h; cases h; done) | (intro _; repeat' (first | exact List.forall_mem_nil _ | trivial | refine List.forall_mem_cons.2 ⟨?_, ?_⟩)) | (intro _; simp [RV.flatP, CD.flatP]; done)) ?_ | refine CallAtG.mk _ (fun _ => g32 ..) ?_ | refine CallDS.mk _ (by simp [RV.data]) (fun _ => g32 ..) (by first | (intro h; cases h; done) | (intro _; repeat' (first | exact List.forall_mem_nil _ | trivial | refine List.forall_mem_cons.2 ⟨?_, ?_⟩)) | (intro _; simp [RV.flatP, CD.flatP]; done)) ?_); try simp (disch := omega) only [go_sem, seval, reduceCtorEq, ↓reduceIte, beq_dec, Int.toNat_natCast, IntKind.signed, IntKind.bits]) | refine And.intro (fun hc => (?_ : AW _ _ _ _)) (fun hc => (?_ : AW _ _ _ _)) | simp (disch := omega) only [go_sem, seval, reduceCtorEq, ↓reduceIte, beq_dec, Int.toNat_natCast, IntKind.signed, IntKind.bits] | (refine And.intro ?_ ?_; focus (first | (intros; omega) | (intros; simp_all; done))) | refine And.intro (?_ : CallAt _ _ _ _ _ _ _ _) ?_ | refine And.intro (?_ : CallAt _ _ _ _ _ _ _ _ ∧ _) ?_ | refine And.intro (?_ : AW _ _ _ _) ?_ | fail))
set_option maxHeartbeats 8000000 in
theorem n5v (g : Gr) (hv : validG g = true) : FnR Try.prog 5 [g.av] [.c (.B true)] := by
  have g18 := n18 g hv
  have g19 := n19 g hv
  have hsm := valid_small hv
  have hbl := blG_len g
  have hbr : (bridgesG g).length ≤ g.links.length := brI_len _ _ _ _
  refine fn_walk code5 (by simp) ?_
  (repeat' (first | refine NextAt.mk (fun hc => ?_) (fun pre n v post hc hkey => ?_) | refine Sni.mk (fun hc => ?_) ?_ | refine Both.mk ?_ ?_ | refine AW_seq ?_ | refine AW_block ?_ | ((first | refine AW_reg ?_ | refine AW_cond ?_ | refine AW_skip ?_ | refine AW_exit ?_ | refine AW_ret ?_ | refine AW_regD (by kernel_rfl) ?_ | refine AW_regX (by kernel_rfl) ?_ | refine CallAtG.t (Eq.refl true) ?_ | refine CallAtG.f (Eq.refl false) ?_ | refine CallAt.mk _ (n9 ..) (by first | (intro h; cases h; done) | (intro _; repeat' (first | exact List.forall_mem_nil _ | trivial | refine List.forall_mem_cons.2 ⟨?_, ?_⟩)) | (intro _; simp [RV.flatP, CD.flatP]; done)) ?_ | refine CallAtG.mk _ (fun _ => n9 ..) ?_ | refine CallDS.mk _ (by simp [RV.data]) (fun _ => n9 ..) (by first | (intro h; cases h; done) | (intro _; repeat' (first | exact List.forall_mem_nil _ | trivial | refine List.forall_mem_cons.2 ⟨?_, ?_⟩)) | (intro _; simp [RV.flatP, CD.flatP]; done)) ?_ | refine CallAt.mk _ (n10 ..) (by first | (intro h; cases h; done) | (intro _; repeat' (first | exact List.forall_mem_nil _ | trivial | refine List.forall_mem_cons.2 ⟨?_, ?_⟩)) | (intro _; simp [RV.flatP, CD.flatP]; done)) ?_ | refine CallAtG.mk _ (fun _ => n10 ..) ?_ | refine CallDS.mk _ (by simp [RV.data]) (fun _ => n10 ..) (by first | (intro h; cases h; done) | (intro _; repeat' (first | exact List.forall_mem_nil _ | trivial | refine List.forall_mem_cons.2 ⟨?_, ?_⟩)) | (intro _; simp [RV.flatP, CD.flatP]; done)) ?_ | refine CallAt.mk _ (g18 ..) (by first | (intro h; cases h; done) | (intro _; repeat' (first | exact List.forall_mem_nil _ | trivial | refine List.forall_mem_cons.2 ⟨?_, ?_⟩)) | (intro _; simp [RV.flatP, CD.flatP]; done)) ?_ | refine CallAtG.mk _ (fun _ => g18 ..) ?_ | refine CallDS.mk _ (by simp [RV.data]) (fun _ => g18 ..) (by first | (intro h; cases h; done) | (intro _; repeat' (first | exact List.forall_mem_nil _ | trivial | refine List.forall_mem_cons.2 ⟨?_, ?_⟩)) | (intro _; simp [RV.flatP, CD.flatP]; done)) ?_ | refine CallAt.mk _ (g19 ..) (by first | (intro h; cases h; done) | (intro _; repeat' (first | exact List.forall_mem_nil _ | trivial | refine List.forall_mem_cons.2 ⟨?_, ?_⟩)) | (intro _; simp [RV.flatP, CD.flatP]; done)) ?_ | refine CallAtG.mk _ (fun _ => g19 ..) ?_ | refine CallDS.mk _ (by simp [RV.data]) (fun _ => g19 ..) (by first | (intro h; cases h; done) | (intro _; repeat' (first | exact List.forall_mem_nil _ | trivial | refine List.forall_mem_cons.2 ⟨?_, ?_⟩)) | (intro _; simp [RV.flatP, CD.flatP]; done)) ?_); try simp (disch := omega) only [go_sem, seval, reduceCtorEq, ↓reduceIte, beq_dec, Int.toNat_natCast, IntKind.signed, IntKind.bits]) | refine And.intro (fun hc => (?_ : AW _ _ _ _)) (fun hc => (?_ : AW _ _ _ _)) | simp (disch := omega) only [go_sem, seval, reduceCtorEq, ↓reduceIte, beq_dec, Int.toNat_natCast, IntKind.signed, IntKind.bits] | (refine And.intro ?_ ?_; focus (first | (intros; omega) | (intros; simp_all; done))) | refine And.intro (?_ : CallAt _ _ _ _ _ _ _ _) ?_ | refine And.intro (?_ : CallAt _ _ _ _ _ _ _ _ ∧ _) ?_ | refine And.intro (?_ : AW _ _ _ _) ?_ | fail))
  refine AW_loopK [1, 3, 5] [2, 7, 8, 9, 10, 11, 12, 45, 46, 47, 48, 49, 50, 51, 52, 53, 54, 55, 56, 57, 58, 59, 60, 61, 62, 63, 64, 65, 66, 67, 68, 69, 70, 71, 72, 73, 74, 75, 76, 77, 78, 79, 80, 81, 82, 83, 84, 85, 86, 87, 88, 89, 90, 91, 92, 93, 94, 95, 96, 97, 98, 99, 100, 101, 102, 103, 104, 105, 106, 107, 108, 109, 110, 111, 112, 113, 114, 115, 116] (fun i : Nat => i ≤ g.links.length) (fun i => [(7, .I i)]) (fun _ => []) (fun i => g.links.length - i) 0 (by omega) ?_ ?_
  · simp (disch := omega) only [go_sem, seval, reduceCtorEq, ↓reduceIte, beq_dec, Int.toNat_natCast, IntKind.signed, IntKind.bits, Int.natCast_zero]
  · intro i hi
    rcases Nat.lt_or_ge i g.links.length with hil | hil
    · obtain ⟨v1, v2, v3⟩ := link_flow hv hil
      have g11 := n11 g (nth g.links i).o (nth g.links i).r
      have g11' : FnR Try.prog 11 [g.av, .agg [.I 0, .I (nth g.links i).obv], .agg [.I 1, .I (nth g.links i).rev]] [.c (.I (flowV g (nth g.links i).o (nth g.links i).r)), .c (.I 0)] := by rw [v2] at g11; exact g11
      have g21 := f60 (bridgesG g) (nth g.links i).id
      rw [show decide ((nth g.links i).id ∈ bridgesG g) = brB (esG g) (nG g) i by
        rw [Bool.eq_iff_iff, decide_eq_true_eq]; exact br_mem hv hil] at g21
      have hcs := fun k hk => cnI_succ (i := i) (k := k) hv hil hk
      have hce := cnI_end hil
      have hcl := cnI_le g i
      have h21 := fun k => f60 (nth (blG g) k) (nth g.links i).id
      rw [isG_nth hil] at hce
      generalize flowV g (nth g.links i).o (nth g.links i).r = V at *
      clear g11
      cases hb : brB (esG g) (nG g) i with
      | true =>
        rw [hb] at g21 v3 hce
        have hV : V = 1 := v3.2 rfl
        subst hV
        (repeat' (first | refine NextAt.mk (fun hc => ?_) (fun pre n v post hc hkey => ?_) | refine Sni.mk (fun hc => ?_) ?_ | refine Both.mk ?_ ?_ | refine AW_seq ?_ | refine AW_block ?_ | ((first | refine AW_reg ?_ | refine AW_cond ?_ | refine AW_skip ?_ | refine AW_exit ?_ | refine AW_ret ?_ | refine AW_regD (by kernel_rfl) ?_ | refine AW_regX (by kernel_rfl) ?_ | refine CallAtG.t (Eq.refl true) ?_ | refine CallAtG.f (Eq.refl false) ?_ | refine CallAt.mk _ (g11' ..) (by first | (intro h; cases h; done) | (intro _; repeat' (first | exact List.forall_mem_nil _ | trivial | refine List.forall_mem_cons.2 ⟨?_, ?_⟩)) | (intro _; simp [RV.flatP, CD.flatP, List.length_map, getD_map Lk.cd, Lk.cd, beq_self_eq_true, Bool.not_true]; done)) ?_ | refine CallAtG.mk _ (fun _ => g11' ..) ?_ | refine CallDS.mk _ (by simp [RV.data]) (fun _ => g11' ..) (by first | (intro h; cases h; done) | (intro _; repeat' (first | exact List.forall_mem_nil _ | trivial | refine List.forall_mem_cons.2 ⟨?_, ?_⟩)) | (intro _; simp [RV.flatP, CD.flatP, List.length_map, getD_map Lk.cd, Lk.cd, beq_self_eq_true, Bool.not_true]; done)) ?_ | refine CallAt.mk _ (g21 ..) (by first | (intro h; cases h; done) | (intro _; repeat' (first | exact List.forall_mem_nil _ | trivial | refine List.forall_mem_cons.2 ⟨?_, ?_⟩)) | (intro _; simp [RV.flatP, CD.flatP, List.length_map, getD_map Lk.cd, Lk.cd, beq_self_eq_true, Bool.not_true]; done)) ?_ | refine CallAtG.mk _ (fun _ => g21 ..) ?_ | refine CallDS.mk _ (by simp [RV.data]) (fun _ => g21 ..) (by first | (intro h; cases h; done) | (intro _; repeat' (first | exact List.forall_mem_nil _ | trivial | refine List.forall_mem_cons.2 ⟨?_, ?_⟩)) | (intro _; simp [RV.flatP, CD.flatP, List.length_map, getD_map Lk.cd, Lk.cd, beq_self_eq_true, Bool.not_true]; done)) ?_); try simp (disch := omega) only [go_sem, seval, reduceCtorEq, ↓reduceIte, beq_dec, Int.toNat_natCast, IntKind.signed, IntKind.bits, List.length_map, getD_map Lk.cd, Lk.cd, beq_self_eq_true, Bool.not_true]) | refine And.intro (fun hc => (?_ : AW _ _ _ _)) (fun hc => (?_ : AW _ _ _ _)) | simp (disch := omega) only [go_sem, seval, reduceCtorEq, ↓reduceIte, beq_dec, Int.toNat_natCast, IntKind.signed, IntKind.bits, List.length_map, getD_map Lk.cd, Lk.cd, beq_self_eq_true, Bool.not_true] | (refine And.intro ?_ ?_; focus (first | (intros; omega) | (intros; simp_all; done))) | refine And.intro (?_ : CallAt _ _ _ _ _ _ _ _) ?_ | refine And.intro (?_ : CallAt _ _ _ _ _ _ _ _ ∧ _) ?_ | refine And.intro (?_ : AW _ _ _ _) ?_ | fail))
        · refine AW_loopK [1, 3, 5, 7, 8] [11, 12, 83, 84, 85, 86, 87, 88, 89, 90, 91, 92, 93, 94, 95, 96, 97] (fun k : Nat => k ≤ (blG g).length) (fun k => [(12, .I k), (11, .I (cnI g i k))]) (fun _ => []) (fun k => (blG g).length - k) 0 (by omega) ?_ ?_
          · simp (disch := omega) only [go_sem, seval, reduceCtorEq, ↓reduceIte, beq_dec, Int.toNat_natCast, IntKind.signed, IntKind.bits, Int.natCast_zero, cnI, Nat.not_lt_zero, and_false]
          · intro k hk
            have hck := hcl k
            rcases Nat.lt_or_ge k (blG g).length with hkl | hkl
            · have hs := hcs k hkl
              have g22 := h21 k
              (repeat' (first | refine NextAt.mk (fun hc => ?_) (fun pre n v post hc hkey => ?_) | refine Sni.mk (fun hc => ?_) ?_ | refine Both.mk ?_ ?_ | refine AW_seq ?_ | refine AW_block ?_ | ((first | refine AW_reg ?_ | refine AW_cond ?_ | refine AW_skip ?_ | refine AW_exit ?_ | refine AW_ret ?_ | refine AW_regD (by kernel_rfl) ?_ | refine AW_regX (by kernel_rfl) ?_ | refine CallAtG.t (Eq.refl true) ?_ | refine CallAtG.f (Eq.refl false) ?_ | refine CallAt.mk _ (g22 ..) (by first | (intro h; cases h; done) | (intro _; repeat' (first | exact List.forall_mem_nil _ | trivial | refine List.forall_mem_cons.2 ⟨?_, ?_⟩)) | (intro _; simp [RV.flatP, CD.flatP, List.length_map, getD_map (fun r : List Int => [Row r]), inK]; done)) ?_ | refine CallAtG.mk _ (fun _ => g22 ..) ?_ | refine CallDS.mk _ (by simp [RV.data]) (fun _ => g22 ..) (by first | (intro h; cases h; done) | (intro _; repeat' (first | exact List.forall_mem_nil _ | trivial | refine List.forall_mem_cons.2 ⟨?_, ?_⟩)) | (intro _; simp [RV.flatP, CD.flatP, List.length_map, getD_map (fun r : List Int => [Row r]), inK]; done)) ?_); try simp (disch := omega) only [go_sem, seval, reduceCtorEq, ↓reduceIte, beq_dec, Int.toNat_natCast, IntKind.signed, IntKind.bits, List.length_map, getD_map (fun r : List Int => [Row r]), inK]) | refine And.intro (fun hc => (?_ : AW _ _ _ _)) (fun hc => (?_ : AW _ _ _ _)) | simp (disch := omega) only [go_sem, seval, reduceCtorEq, ↓reduceIte, beq_dec, Int.toNat_natCast, IntKind.signed, IntKind.bits, List.length_map, getD_map (fun r : List Int => [Row r]), inK] | (refine And.intro ?_ ?_; focus (first | (intros; omega) | (intros; simp_all; done))) | refine And.intro (?_ : CallAt _ _ _ _ _ _ _ _) ?_ | refine And.intro (?_ : CallAt _ _ _ _ _ _ _ _ ∧ _) ?_ | refine And.intro (?_ : AW _ _ _ _) ?_ | fail))
              all_goals first
                | (exfalso; omega)
                | (refine .mk (k + 1) (by omega) (by omega) ?_
                   first
                     | rw [if_pos (by assumption)] at hs
                     | rw [if_neg (by assumption)] at hs
                   rw [hs]
                   simp (disch := omega) only [go_sem, seval, reduceCtorEq, ↓reduceIte, beq_dec, Int.toNat_natCast, IntKind.signed, IntKind.bits, Int.natCast_add, Int.natCast_one, Nat.add_zero]
                   done)
                | trace_state
            · obtain rfl : k = (blG g).length := by omega
              rw [hce]
              (repeat' (first | refine NextAt.mk (fun hc => ?_) (fun pre n v post hc hkey => ?_) | refine Sni.mk (fun hc => ?_) ?_ | refine Both.mk ?_ ?_ | refine AW_seq ?_ | refine AW_block ?_ | ((first | refine AW_reg ?_ | refine AW_cond ?_ | refine AW_skip ?_ | refine AW_exit ?_ | refine AW_ret ?_ | refine AW_regD (by kernel_rfl) ?_ | refine AW_regX (by kernel_rfl) ?_ | refine CallAtG.t (Eq.refl true) ?_ | refine CallAtG.f (Eq.refl false) ?_ | refine CallAt.mk _ (g21 ..) (by first | (intro h; cases h; done) | (intro _; repeat' (first | exact List.forall_mem_nil _ | trivial | refine List.forall_mem_cons.2 ⟨?_, ?_⟩)) | (intro _; simp [RV.flatP, CD.flatP, List.length_map, Bool.not_true, Bool.not_false]; done)) ?_ | refine CallAtG.mk _ (fun _ => g21 ..) ?_ | refine CallDS.mk _ (by simp [RV.data]) (fun _ => g21 ..) (by first | (intro h; cases h; done) | (intro _; repeat' (first | exact List.forall_mem_nil _ | trivial | refine List.forall_mem_cons.2 ⟨?_, ?_⟩)) | (intro _; simp [RV.flatP, CD.flatP, List.length_map, Bool.not_true, Bool.not_false]; done)) ?_); try simp (disch := omega) only [go_sem, seval, reduceCtorEq, ↓reduceIte, beq_dec, Int.toNat_natCast, IntKind.signed, IntKind.bits, List.length_map, Bool.not_true, Bool.not_false]) | refine And.intro (fun hc => (?_ : AW _ _ _ _)) (fun hc => (?_ : AW _ _ _ _)) | simp (disch := omega) only [go_sem, seval, reduceCtorEq, ↓reduceIte, beq_dec, Int.toNat_natCast, IntKind.signed, IntKind.bits, List.length_map, Bool.not_true, Bool.not_false] | (refine And.intro ?_ ?_; focus (first | (intros; omega) | (intros; simp_all; done))) | refine And.intro (?_ : CallAt _ _ _ _ _ _ _ _) ?_ | refine And.intro (?_ : CallAt _ _ _ _ _ _ _ _ ∧ _) ?_ | refine And.intro (?_ : AW _ _ _ _) ?_ | fail))
              all_goals first
                | (exfalso; omega)
                | (refine .mk (i + 1) (by omega) (by omega) ?_
                   simp (disch := omega) only [go_sem, seval, reduceCtorEq, ↓reduceIte, beq_dec, Int.toNat_natCast, IntKind.signed, IntKind.bits, Int.natCast_add, Int.natCast_one]
                   done)
                | trace_state
        all_goals (exfalso; omega)
      | false =>
        rw [hb] at g21 v3 hce
        have hV : (V = 1) = False := eq_false fun h => by have := v3.1 h; cases this
        have hV1 : (V < 1) = False := eq_false (by omega)
        (repeat' (first | refine NextAt.mk (fun hc => ?_) (fun pre n v post hc hkey => ?_) | refine Sni.mk (fun hc => ?_) ?_ | refine Both.mk ?_ ?_ | refine AW_seq ?_ | refine AW_block ?_ | ((first | refine AW_reg ?_ | refine AW_cond ?_ | refine AW_skip ?_ | refine AW_exit ?_ | refine AW_ret ?_ | refine AW_regD (by kernel_rfl) ?_ | refine AW_regX (by kernel_rfl) ?_ | refine CallAtG.t (Eq.refl true) ?_ | refine CallAtG.f (Eq.refl false) ?_ | refine CallAt.mk _ (g11' ..) (by first | (intro h; cases h; done) | (intro _; repeat' (first | exact List.forall_mem_nil _ | trivial | refine List.forall_mem_cons.2 ⟨?_, ?_⟩)) | (intro _; simp [RV.flatP, CD.flatP, List.length_map, getD_map Lk.cd, Lk.cd, hV, hV1, decide_false, beq_self_eq_true, Bool.not_true]; done)) ?_ | refine CallAtG.mk _ (fun _ => g11' ..) ?_ | refine CallDS.mk _ (by simp [RV.data]) (fun _ => g11' ..) (by first | (intro h; cases h; done) | (intro _; repeat' (first | exact List.forall_mem_nil _ | trivial | refine List.forall_mem_cons.2 ⟨?_, ?_⟩)) | (intro _; simp [RV.flatP, CD.flatP, List.length_map, getD_map Lk.cd, Lk.cd, hV, hV1, decide_false, beq_self_eq_true, Bool.not_true]; done)) ?_ | refine CallAt.mk _ (g21 ..) (by first | (intro h; cases h; done) | (intro _; repeat' (first | exact List.forall_mem_nil _ | trivial | refine List.forall_mem_cons.2 ⟨?_, ?_⟩)) | (intro _; simp [RV.flatP, CD.flatP, List.length_map, getD_map Lk.cd, Lk.cd, hV, hV1, decide_false, beq_self_eq_true, Bool.not_true]; done)) ?_ | refine CallAtG.mk _ (fun _ => g21 ..) ?_ | refine CallDS.mk _ (by simp [RV.data]) (fun _ => g21 ..) (by first | (intro h; cases h; done) | (intro _; repeat' (first | exact List.forall_mem_nil _ | trivial | refine List.forall_mem_cons.2 ⟨?_, ?_⟩)) | (intro _; simp [RV.flatP, CD.flatP, List.length_map, getD_map Lk.cd, Lk.cd, hV, hV1, decide_false, beq_self_eq_true, Bool.not_true]; done)) ?_); try simp (disch := omega) only [go_sem, seval, reduceCtorEq, ↓reduceIte, beq_dec, Int.toNat_natCast, IntKind.signed, IntKind.bits, List.length_map, getD_map Lk.cd, Lk.cd, hV, hV1, decide_false, beq_self_eq_true, Bool.not_true]) | refine And.intro (fun hc => (?_ : AW _ _ _ _)) (fun hc => (?_ : AW _ _ _ _)) | simp (disch := omega) only [go_sem, seval, reduceCtorEq, ↓reduceIte, beq_dec, Int.toNat_natCast, IntKind.signed, IntKind.bits, List.length_map, getD_map Lk.cd, Lk.cd, hV, hV1, decide_false, beq_self_eq_true, Bool.not_true] | (refine And.intro ?_ ?_; focus (first | (intros; omega) | (intros; simp_all; done))) | refine And.intro (?_ : CallAt _ _ _ _ _ _ _ _) ?_ | refine And.intro (?_ : CallAt _ _ _ _ _ _ _ _ ∧ _) ?_ | refine And.intro (?_ : AW _ _ _ _) ?_ | fail))
        · refine AW_loopK [1, 3, 5, 7, 8] [11, 12, 83, 84, 85, 86, 87, 88, 89, 90, 91, 92, 93, 94, 95, 96, 97] (fun k : Nat => k ≤ (blG g).length) (fun k => [(12, .I k), (11, .I (cnI g i k))]) (fun _ => []) (fun k => (blG g).length - k) 0 (by omega) ?_ ?_
          · simp (disch := omega) only [go_sem, seval, reduceCtorEq, ↓reduceIte, beq_dec, Int.toNat_natCast, IntKind.signed, IntKind.bits, Int.natCast_zero, cnI, Nat.not_lt_zero, and_false]
          · intro k hk
            have hck := hcl k
            rcases Nat.lt_or_ge k (blG g).length with hkl | hkl
            · have hs := hcs k hkl
              have g22 := h21 k
              (repeat' (first | refine NextAt.mk (fun hc => ?_) (fun pre n v post hc hkey => ?_) | refine Sni.mk (fun hc => ?_) ?_ | refine Both.mk ?_ ?_ | refine AW_seq ?_ | refine AW_block ?_ | ((first | refine AW_reg ?_ | refine AW_cond ?_ | refine AW_skip ?_ | refine AW_exit ?_ | refine AW_ret ?_ | refine AW_regD (by kernel_rfl) ?_ | refine AW_regX (by kernel_rfl) ?_ | refine CallAtG.t (Eq.refl true) ?_ | refine CallAtG.f (Eq.refl false) ?_ | refine CallAt.mk _ (g22 ..) (by first | (intro h; cases h; done) | (intro _; repeat' (first | exact List.forall_mem_nil _ | trivial | refine List.forall_mem_cons.2 ⟨?_, ?_⟩)) | (intro _; simp [RV.flatP, CD.flatP, List.length_map, getD_map (fun r : List Int => [Row r]), inK]; done)) ?_ | refine CallAtG.mk _ (fun _ => g22 ..) ?_ | refine CallDS.mk _ (by simp [RV.data]) (fun _ => g22 ..) (by first | (intro h; cases h; done) | (intro _; repeat' (first | exact List.forall_mem_nil _ | trivial | refine List.forall_mem_cons.2 ⟨?_, ?_⟩)) | (intro _; simp [RV.flatP, CD.flatP, List.length_map, getD_map (fun r : List Int => [Row r]), inK]; done)) ?_); try simp (disch := omega) only [go_sem, seval, reduceCtorEq, ↓reduceIte, beq_dec, Int.toNat_natCast, IntKind.signed, IntKind.bits, List.length_map, getD_map (fun r : List Int => [Row r]), inK]) | refine And.intro (fun hc => (?_ : AW _ _ _ _)) (fun hc => (?_ : AW _ _ _ _)) | simp (disch := omega) only [go_sem, seval, reduceCtorEq, ↓reduceIte, beq_dec, Int.toNat_natCast, IntKind.signed, IntKind.bits, List.length_map, getD_map (fun r : List Int => [Row r]), inK] | (refine And.intro ?_ ?_; focus (first | (intros; omega) | (intros; simp_all; done))) | refine And.intro (?_ : CallAt _ _ _ _ _ _ _ _) ?_ | refine And.intro (?_ : CallAt _ _ _ _ _ _ _ _ ∧ _) ?_ | refine And.intro (?_ : AW _ _ _ _) ?_ | fail))
              all_goals first
                | (exfalso; omega)
                | (refine .mk (k + 1) (by omega) (by omega) ?_
                   first
                     | rw [if_pos (by assumption)] at hs
                     | rw [if_neg (by assumption)] at hs
                   rw [hs]
                   simp (disch := omega) only [go_sem, seval, reduceCtorEq, ↓reduceIte, beq_dec, Int.toNat_natCast, IntKind.signed, IntKind.bits, Int.natCast_add, Int.natCast_one, Nat.add_zero]
                   done)
                | trace_state
            · obtain rfl : k = (blG g).length := by omega
              rw [hce]
              (repeat' (first | refine NextAt.mk (fun hc => ?_) (fun pre n v post hc hkey => ?_) | refine Sni.mk (fun hc => ?_) ?_ | refine Both.mk ?_ ?_ | refine AW_seq ?_ | refine AW_block ?_ | ((first | refine AW_reg ?_ | refine AW_cond ?_ | refine AW_skip ?_ | refine AW_exit ?_ | refine AW_ret ?_ | refine AW_regD (by kernel_rfl) ?_ | refine AW_regX (by kernel_rfl) ?_ | refine CallAtG.t (Eq.refl true) ?_ | refine CallAtG.f (Eq.refl false) ?_ | refine CallAt.mk _ (g21 ..) (by first | (intro h; cases h; done) | (intro _; repeat' (first | exact List.forall_mem_nil _ | trivial | refine List.forall_mem_cons.2 ⟨?_, ?_⟩)) | (intro _; simp [RV.flatP, CD.flatP, List.length_map, Bool.not_true, Bool.not_false]; done)) ?_ | refine CallAtG.mk _ (fun _ => g21 ..) ?_ | refine CallDS.mk _ (by simp [RV.data]) (fun _ => g21 ..) (by first | (intro h; cases h; done) | (intro _; repeat' (first | exact List.forall_mem_nil _ | trivial | refine List.forall_mem_cons.2 ⟨?_, ?_⟩)) | (intro _; simp [RV.flatP, CD.flatP, List.length_map, Bool.not_true, Bool.not_false]; done)) ?_); try simp (disch := omega) only [go_sem, seval, reduceCtorEq, ↓reduceIte, beq_dec, Int.toNat_natCast, IntKind.signed, IntKind.bits, List.length_map, Bool.not_true, Bool.not_false]) | refine And.intro (fun hc => (?_ : AW _ _ _ _)) (fun hc => (?_ : AW _ _ _ _)) | simp (disch := omega) only [go_sem, seval, reduceCtorEq, ↓reduceIte, beq_dec, Int.toNat_natCast, IntKind.signed, IntKind.bits, List.length_map, Bool.not_true, Bool.not_false] | (refine And.intro ?_ ?_; focus (first | (intros; omega) | (intros; simp_all; done))) | refine And.intro (?_ : CallAt _ _ _ _ _ _ _ _) ?_ | refine And.intro (?_ : CallAt _ _ _ _ _ _ _ _ ∧ _) ?_ | refine And.intro (?_ : AW _ _ _ _) ?_ | fail))
              all_goals first
                | (exfalso; omega)
                | (refine .mk (i + 1) (by omega) (by omega) ?_
                   simp (disch := omega) only [go_sem, seval, reduceCtorEq, ↓reduceIte, beq_dec, Int.toNat_natCast, IntKind.signed, IntKind.bits, Int.natCast_add, Int.natCast_one]
                   done)
                | trace_state
        all_goals (exfalso; omega)
    · obtain rfl : i = g.links.length := by omega
      (repeat' (first | refine NextAt.mk (fun hc => ?_) (fun pre n v post hc hkey => ?_) | refine Sni.mk (fun hc => ?_) ?_ | refine Both.mk ?_ ?_ | refine AW_seq ?_ | refine AW_block ?_ | ((first | refine AW_reg ?_ | refine AW_cond ?_ | refine AW_skip ?_ | refine AW_exit ?_ | refine AW_ret ?_ | refine AW_regD (by kernel_rfl) ?_ | refine AW_regX (by kernel_rfl) ?_ | refine CallAtG.t (Eq.refl true) ?_ | refine CallAtG.f (Eq.refl false) ?_); try simp (disch := omega) only [go_sem, seval, reduceCtorEq, ↓reduceIte, beq_dec, Int.toNat_natCast, IntKind.signed, IntKind.bits, List.length_map]) | refine And.intro (fun hc => (?_ : AW _ _ _ _)) (fun hc => (?_ : AW _ _ _ _)) | simp (disch := omega) only [go_sem, seval, reduceCtorEq, ↓reduceIte, beq_dec, Int.toNat_natCast, IntKind.signed, IntKind.bits, List.length_map] | (refine And.intro ?_ ?_; focus (first | (intros; omega) | (intros; simp_all; done))) | refine And.intro (?_ : CallAt _ _ _ _ _ _ _ _) ?_ | refine And.intro (?_ : CallAt _ _ _ _ _ _ _ _ ∧ _) ?_ | refine And.intro (?_ : AW _ _ _ _) ?_ | fail))
      · exfalso; omega
      · omega
end Go.Proofs.Ytgldpbghbkoolaa

-- P p_15.txt
open Go Go.AL Go.RowKit
namespace Go.Proofs.Ytgldpbghbkoolaa
theorem BridgeOne_fn : ∀ xs, TyArgs [(true, grSh)] xs → FnR Try.prog 5 xs [.c (.B true)] := by
  intro xs h
  obtain ⟨d1, _, rfl, h1, h⟩ := h.cons_inv
  obtain rfl := h.nil_inv
  obtain ⟨g, rfl⟩ := gr_of h1
  cases hv : validG g with
  | true => exact n5v g hv
  | false => exact n5e g hv
theorem BridgeOne_holds : Rows.BridgeOneSaid :=
  OpenClaim.holds_of_wide 5 Try.f5 rfl rfl rfl rfl rfl rfl rfl ⟨rfl, rfl, rfl, rfl, rfl⟩ rfl rfl rfl rfl rfl (by kernel_rfl) Try.func5 (by kernel_rfl)
    (of_decide_eq_true (by kernel_rfl)) (by unfold Func.isWrapper; first | (rw [if_pos (by decide +kernel)]; kernel_rfl) | (rw [if_neg (by decide +kernel)]; exact ⟨rfl, rfl⟩))
    (fun os started H enc _ => law_lifted (s := Rows.bridgeOneSpec) (C := Try.checked) (n := 12) Try.own Try.laidOut (by kernel_rfl) Try.func5 (by decide +kernel) rfl (by kernel_rfl) rfl (by kernel_rfl) (fun H ds h => by
      match ds, h with
      | [d1], _ => rfl) BridgeOne_fn os started H enc
      (ChangeSpec.witness6 (enc := enc) (C := Try.checked) false ⟨#[], #[.agg #[.slice none 0 0, .slice none 0 0, .slice none 0 0]], []⟩ 12 (by kernel_rfl) (by kernel_rfl) (by kernel_rfl) (by kernel_rfl)))
end Go.Proofs.Ytgldpbghbkoolaa

