/-
  Flow, Cut and Robust are those of the reference.
-/
import Derived.Test.YtgldpbghbkoolaaWalkH
import Derived.KernelRfl
set_option linter.unusedVariables false
set_option linter.unusedSimpArgs false
-- P p_15.txt
open Go Go.AL Go.RowKit
namespace Go.Proofs.Ytgldpbghbkoolaa
set_option maxRecDepth 20000
/- coinage/coinagelaw15.BridgeFlows -/
abbrev c4_1 : AC := .reg [⟨(some 3), .box 25 (some 3) (.t 0), none⟩,
  ⟨(some 4), .box 27 (some 2) (.t 1), none⟩,
  ⟨(some 5), .box 27 (some 2) (.t 2), none⟩,
  ⟨(some 6), .mv (.k (.B false)), none⟩] false
abbrev c4_2 : AC := .reg [⟨(some 15), .call 9 [], none⟩,
  ⟨(some 16), .not (.t 15), none⟩,
  ⟨(some 17), .mv (.t 16), none⟩,
  ⟨(some 18), .ld (some 3) (.t 3), (some (17, false))⟩,
  ⟨(some 19), .call 10 [(.t 18)], (some (17, false))⟩,
  ⟨(some 20), .not (.t 19), (some (17, false))⟩,
  ⟨(some 21), .pick (.t 17) (.k (.B true)) (.t 20), none⟩] false
abbrev c4_3 : AC := .reg [⟨(some 22), .call 9 [], none⟩,
  ⟨(some 6), .mv (.t 22), none⟩] false
abbrev c4_4 : AC := .seq c4_3 .ret
abbrev c4_5 : AC := .cond (.t 21) c4_4 .skip
abbrev c4_6 : AC := .seq c4_2 c4_5
abbrev c4_7 : AC := .reg [⟨(some 24), .ld (some 3) (.t 3), none⟩,
  ⟨(some 25), .ld (some 2) (.t 4), none⟩,
  ⟨(some 26), .ld (some 2) (.t 5), none⟩,
  ⟨(some 27), .call 11 [(.t 24), (.t 25), (.t 26)], none⟩,
  ⟨(some 23), .mv (.t 27), none⟩,
  ⟨(some 28), .ext (.t 23) 0, none⟩,
  ⟨(some 29), .ext (.t 23) 1, none⟩,
  ⟨(some 7), .mv (.t 28), none⟩,
  ⟨(some 8), .mv (.t 29), none⟩] false
abbrev c4_8 : AC := .reg [⟨(some 31), .ld (some 3) (.t 3), none⟩,
  ⟨(some 32), .ld (some 2) (.t 4), none⟩,
  ⟨(some 33), .ld (some 2) (.t 5), none⟩,
  ⟨(some 34), .call 13 [(.t 31), (.t 32), (.t 33)], none⟩,
  ⟨(some 30), .mv (.t 34), none⟩,
  ⟨(some 35), .ext (.t 30) 0, none⟩,
  ⟨(some 36), .ext (.t 30) 1, none⟩,
  ⟨(some 9), .mv (.t 35), none⟩,
  ⟨(some 10), .mv (.t 36), none⟩] false
abbrev c4_9 : AC := .reg [⟨(some 38), .ld (some 3) (.t 3), none⟩,
  ⟨(some 39), .ld (some 2) (.t 4), none⟩,
  ⟨(some 40), .ld (some 2) (.t 5), none⟩,
  ⟨(some 41), .call 14 [(.t 38), (.t 39), (.t 40)], none⟩,
  ⟨(some 37), .mv (.t 41), none⟩,
  ⟨(some 42), .ext (.t 37) 0, none⟩,
  ⟨(some 43), .ext (.t 37) 1, none⟩,
  ⟨(some 11), .mv (.t 42), none⟩,
  ⟨(some 12), .mv (.t 43), none⟩] false
abbrev c4_10 : AC := .reg [⟨(some 45), .ld (some 3) (.t 3), none⟩,
  ⟨(some 46), .ld (some 2) (.t 4), none⟩,
  ⟨(some 47), .ld (some 2) (.t 5), none⟩,
  ⟨(some 48), .call 15 [(.t 45), (.t 46), (.t 47)], none⟩,
  ⟨(some 44), .mv (.t 48), none⟩,
  ⟨(some 49), .ext (.t 44) 0, none⟩,
  ⟨(some 50), .ext (.t 44) 1, none⟩,
  ⟨(some 13), .mv (.t 49), none⟩,
  ⟨(some 14), .mv (.t 50), none⟩] false
abbrev c4_11 : AC := .regD [(⟨(some 51), .mv (.t 8), none⟩, [8]),
  (⟨(some 52), .mv (.t 12), none⟩, [12]),
  (⟨(some 53), .bin .eql (.t 51) (.t 52), none⟩, [51, 52]),
  (⟨(some 54), .mv (.t 53), none⟩, [53]),
  (⟨(some 55), .mv (.t 10), (some (54, true))⟩, [10, 54]),
  (⟨(some 56), .mv (.t 14), (some (54, true))⟩, [14, 54]),
  (⟨(some 57), .bin .eql (.t 55) (.t 56), (some (54, true))⟩, [55, 56, 54]),
  (⟨(some 58), .pick (.t 54) (.t 57) (.k (.B false)), none⟩, [54, 57]),
  (⟨(some 59), .mv (.t 58), none⟩, [58]),
  (⟨(some 60), .mv (.t 7), (some (59, true))⟩, [7, 59]),
  (⟨(some 61), .mv (.t 11), (some (59, true))⟩, [11, 59]),
  (⟨(some 62), .bin .eql (.t 60) (.t 61), (some (59, true))⟩, [60, 61, 59]),
  (⟨(some 63), .pick (.t 59) (.t 62) (.k (.B false)), none⟩, [59, 62]),
  (⟨(some 64), .mv (.t 63), none⟩, [63]),
  (⟨(some 65), .mv (.t 9), (some (64, true))⟩, [9, 64]),
  (⟨(some 66), .mv (.t 13), (some (64, true))⟩, [13, 64]),
  (⟨(some 67), .call 16 [(.t 65), (.t 66)], (some (64, true))⟩, [65, 66, 64]),
  (⟨(some 68), .pick (.t 64) (.t 67) (.k (.B false)), none⟩, [64, 67]),
  (⟨(some 69), .mv (.t 68), none⟩, [68]),
  (⟨(some 70), .ld (some 3) (.t 3), (some (69, true))⟩, [3, 69]),
  (⟨(some 71), .ld (some 2) (.t 4), (some (69, true))⟩, [4, 69]),
  (⟨(some 72), .ld (some 2) (.t 5), (some (69, true))⟩, [5, 69]),
  (⟨(some 73), .call 12 [(.t 70), (.t 71), (.t 72)], (some (69, true))⟩, [70, 71, 72, 69]),
  (⟨(some 74), .ld (some 3) (.t 3), (some (69, true))⟩, [3, 69]),
  (⟨(some 75), .ld (some 2) (.t 4), (some (69, true))⟩, [4, 69]),
  (⟨(some 76), .ld (some 2) (.t 5), (some (69, true))⟩, [5, 69]),
  (⟨(some 77), .call 17 [(.t 74), (.t 75), (.t 76)], (some (69, true))⟩, [74, 75, 76, 69]),
  (⟨(some 78), .beq false (.t 73) (.t 77), (some (69, true))⟩, [73, 77, 69]),
  (⟨(some 79), .pick (.t 69) (.t 78) (.k (.B false)), none⟩, [69, 78]),
  (⟨(some 6), .mv (.t 79), none⟩, [79])]
abbrev c4_12 : AC := .seq c4_11 .ret
abbrev c4_13 : AC := .seq c4_10 c4_12
abbrev c4_14 : AC := .seq c4_9 c4_13
abbrev c4_15 : AC := .seq c4_8 c4_14
abbrev c4_16 : AC := .seq c4_7 c4_15
abbrev c4_17 : AC := .seq c4_6 c4_16
abbrev c4_18 : AC := .seq c4_1 c4_17
abbrev c4 : AC := c4_18
theorem code4 : fnCode Try.prog 4 = some (c4, [6], 80) := by kernel_rfl

theorem f16s (a : List Int) : FnR Try.prog 16 [.c (Row a), .c (Row a)] [.c (.B true)] := by
  have := f16 a a
  rwa [show decide (a = a) = true by simp] at this
theorem f16n : FnR Try.prog 16 [.c .nil, .c .nil] [.c (.B true)] := by
  have h := f16s []
  have h1 : FnR Try.prog 16 [.c (.sl 1 []), .c .nil] [.c (.B true)] := FnR.nil (pre := [.c (.sl 1 [])]) (post := []) (k := 1) h
  exact FnR.nil (pre := []) (post := [.c .nil]) (k := 1) h1
set_option maxHeartbeats 4000000 in
theorem n4 (g : Gr) (a b : Die) : FnR Try.prog 4 [g.av, a.av, b.av] [.c (.B true)] := by
  have h1 := n11 g a b
  have h2 := n14 g a b
  have h3 := n12 g a b
  have h4 := n17 g a b
  by_cases h : flowE g a b = 0
  · have h5 := n13 g a b h
    have h6 := n15 g a b h
    have h7 := f16s (cutV g a b)
    rw [h] at h1 h2
    generalize decide (flowE g a b = 0 ∧ 2 ≤ flowV g a b) = r at *
    generalize flowV g a b = v at *
    generalize cutV g a b = c at *
    clear h
    refine fn_walk code4 (by simp) ?_
    (repeat' (first | refine NextAt.mk (fun hc => ?_) (fun pre n v post hc hkey => ?_) | refine Sni.mk (fun hc => ?_) ?_ | refine Both.mk ?_ ?_ | refine AW_seq ?_ | refine AW_block ?_ | ((first | refine AW_reg ?_ | refine AW_cond ?_ | refine AW_skip ?_ | refine AW_exit ?_ | refine AW_ret ?_ | refine AW_regD (by kernel_rfl) ?_ | refine AW_regX (by kernel_rfl) ?_ | refine CallAtG.t (Eq.refl true) ?_ | refine CallAtG.f (Eq.refl false) ?_ | refine CallAt.mk _ (n9 ..) (by first | (intro h; cases h; done) | (intro _; repeat' (first | exact List.forall_mem_nil _ | trivial | refine List.forall_mem_cons.2 ⟨?_, ?_⟩)) | (intro _; simp [RV.flatP, CD.flatP]; done)) ?_ | refine CallAtG.mk _ (fun _ => n9 ..) ?_ | refine CallDS.mk _ (by simp [RV.data]) (fun _ => n9 ..) (by first | (intro h; cases h; done) | (intro _; repeat' (first | exact List.forall_mem_nil _ | trivial | refine List.forall_mem_cons.2 ⟨?_, ?_⟩)) | (intro _; simp [RV.flatP, CD.flatP]; done)) ?_ | refine CallAt.mk _ (n10 ..) (by first | (intro h; cases h; done) | (intro _; repeat' (first | exact List.forall_mem_nil _ | trivial | refine List.forall_mem_cons.2 ⟨?_, ?_⟩)) | (intro _; simp [RV.flatP, CD.flatP]; done)) ?_ | refine CallAtG.mk _ (fun _ => n10 ..) ?_ | refine CallDS.mk _ (by simp [RV.data]) (fun _ => n10 ..) (by first | (intro h; cases h; done) | (intro _; repeat' (first | exact List.forall_mem_nil _ | trivial | refine List.forall_mem_cons.2 ⟨?_, ?_⟩)) | (intro _; simp [RV.flatP, CD.flatP]; done)) ?_ | refine CallAt.mk _ (h1 ..) (by first | (intro h; cases h; done) | (intro _; repeat' (first | exact List.forall_mem_nil _ | trivial | refine List.forall_mem_cons.2 ⟨?_, ?_⟩)) | (intro _; simp [RV.flatP, CD.flatP]; done)) ?_ | refine CallAtG.mk _ (fun _ => h1 ..) ?_ | refine CallDS.mk _ (by simp [RV.data]) (fun _ => h1 ..) (by first | (intro h; cases h; done) | (intro _; repeat' (first | exact List.forall_mem_nil _ | trivial | refine List.forall_mem_cons.2 ⟨?_, ?_⟩)) | (intro _; simp [RV.flatP, CD.flatP]; done)) ?_ | refine CallAt.mk _ (h2 ..) (by first | (intro h; cases h; done) | (intro _; repeat' (first | exact List.forall_mem_nil _ | trivial | refine List.forall_mem_cons.2 ⟨?_, ?_⟩)) | (intro _; simp [RV.flatP, CD.flatP]; done)) ?_ | refine CallAtG.mk _ (fun _ => h2 ..) ?_ | refine CallDS.mk _ (by simp [RV.data]) (fun _ => h2 ..) (by first | (intro h; cases h; done) | (intro _; repeat' (first | exact List.forall_mem_nil _ | trivial | refine List.forall_mem_cons.2 ⟨?_, ?_⟩)) | (intro _; simp [RV.flatP, CD.flatP]; done)) ?_ | refine CallAt.mk _ (h3 ..) (by first | (intro h; cases h; done) | (intro _; repeat' (first | exact List.forall_mem_nil _ | trivial | refine List.forall_mem_cons.2 ⟨?_, ?_⟩)) | (intro _; simp [RV.flatP, CD.flatP]; done)) ?_ | refine CallAtG.mk _ (fun _ => h3 ..) ?_ | refine CallDS.mk _ (by simp [RV.data]) (fun _ => h3 ..) (by first | (intro h; cases h; done) | (intro _; repeat' (first | exact List.forall_mem_nil _ | trivial | refine List.forall_mem_cons.2 ⟨?_, ?_⟩)) | (intro _; simp [RV.flatP, CD.flatP]; done)) ?_ | refine CallAt.mk _ (h4 ..) (by first | (intro h; cases h; done) | (intro _; repeat' (first | exact List.forall_mem_nil _ | trivial | refine List.forall_mem_cons.2 ⟨?_, ?_⟩)) | (intro _; simp [RV.flatP, CD.flatP]; done)) ?_ | refine CallAtG.mk _ (fun _ => h4 ..) ?_ | refine CallDS.mk _ (by simp [RV.data]) (fun _ => h4 ..) (by first | (intro h; cases h; done) | (intro _; repeat' (first | exact List.forall_mem_nil _ | trivial | refine List.forall_mem_cons.2 ⟨?_, ?_⟩)) | (intro _; simp [RV.flatP, CD.flatP]; done)) ?_ | refine CallAt.mk _ (h5 ..) (by first | (intro h; cases h; done) | (intro _; repeat' (first | exact List.forall_mem_nil _ | trivial | refine List.forall_mem_cons.2 ⟨?_, ?_⟩)) | (intro _; simp [RV.flatP, CD.flatP]; done)) ?_ | refine CallAtG.mk _ (fun _ => h5 ..) ?_ | refine CallDS.mk _ (by simp [RV.data]) (fun _ => h5 ..) (by first | (intro h; cases h; done) | (intro _; repeat' (first | exact List.forall_mem_nil _ | trivial | refine List.forall_mem_cons.2 ⟨?_, ?_⟩)) | (intro _; simp [RV.flatP, CD.flatP]; done)) ?_ | refine CallAt.mk _ (h6 ..) (by first | (intro h; cases h; done) | (intro _; repeat' (first | exact List.forall_mem_nil _ | trivial | refine List.forall_mem_cons.2 ⟨?_, ?_⟩)) | (intro _; simp [RV.flatP, CD.flatP]; done)) ?_ | refine CallAtG.mk _ (fun _ => h6 ..) ?_ | refine CallDS.mk _ (by simp [RV.data]) (fun _ => h6 ..) (by first | (intro h; cases h; done) | (intro _; repeat' (first | exact List.forall_mem_nil _ | trivial | refine List.forall_mem_cons.2 ⟨?_, ?_⟩)) | (intro _; simp [RV.flatP, CD.flatP]; done)) ?_ | refine CallAt.mk _ (h7 ..) (by first | (intro h; cases h; done) | (intro _; repeat' (first | exact List.forall_mem_nil _ | trivial | refine List.forall_mem_cons.2 ⟨?_, ?_⟩)) | (intro _; simp [RV.flatP, CD.flatP]; done)) ?_ | refine CallAtG.mk _ (fun _ => h7 ..) ?_ | refine CallDS.mk _ (by simp [RV.data]) (fun _ => h7 ..) (by first | (intro h; cases h; done) | (intro _; repeat' (first | exact List.forall_mem_nil _ | trivial | refine List.forall_mem_cons.2 ⟨?_, ?_⟩)) | (intro _; simp [RV.flatP, CD.flatP]; done)) ?_); try simp (disch := omega) only [go_sem, seval, reduceCtorEq, ↓reduceIte, beq_dec, Int.toNat_natCast, IntKind.signed, IntKind.bits]) | refine And.intro (fun hc => (?_ : AW _ _ _ _)) (fun hc => (?_ : AW _ _ _ _)) | simp (disch := omega) only [go_sem, seval, reduceCtorEq, ↓reduceIte, beq_dec, Int.toNat_natCast, IntKind.signed, IntKind.bits] | (refine And.intro ?_ ?_; focus (first | (intros; omega) | (intros; simp_all; done))) | refine And.intro (?_ : CallAt _ _ _ _ _ _ _ _) ?_ | refine And.intro (?_ : CallAt _ _ _ _ _ _ _ _ ∧ _) ?_ | refine And.intro (?_ : AW _ _ _ _) ?_ | fail))
    all_goals simp
  · have h5 := n13e g a b h
    have h6 := n15e g a b h
    have h7 := f16n
    generalize decide (flowE g a b = 0 ∧ 2 ≤ flowV g a b) = r at *
    generalize flowV g a b = v at *
    generalize flowE g a b = e at *
    clear h
    refine fn_walk code4 (by simp) ?_
    (repeat' (first | refine NextAt.mk (fun hc => ?_) (fun pre n v post hc hkey => ?_) | refine Sni.mk (fun hc => ?_) ?_ | refine Both.mk ?_ ?_ | refine AW_seq ?_ | refine AW_block ?_ | ((first | refine AW_reg ?_ | refine AW_cond ?_ | refine AW_skip ?_ | refine AW_exit ?_ | refine AW_ret ?_ | refine AW_regD (by kernel_rfl) ?_ | refine AW_regX (by kernel_rfl) ?_ | refine CallAtG.t (Eq.refl true) ?_ | refine CallAtG.f (Eq.refl false) ?_ | refine CallAt.mk _ (n9 ..) (by first | (intro h; cases h; done) | (intro _; repeat' (first | exact List.forall_mem_nil _ | trivial | refine List.forall_mem_cons.2 ⟨?_, ?_⟩)) | (intro _; simp [RV.flatP, CD.flatP]; done)) ?_ | refine CallAtG.mk _ (fun _ => n9 ..) ?_ | refine CallDS.mk _ (by simp [RV.data]) (fun _ => n9 ..) (by first | (intro h; cases h; done) | (intro _; repeat' (first | exact List.forall_mem_nil _ | trivial | refine List.forall_mem_cons.2 ⟨?_, ?_⟩)) | (intro _; simp [RV.flatP, CD.flatP]; done)) ?_ | refine CallAt.mk _ (n10 ..) (by first | (intro h; cases h; done) | (intro _; repeat' (first | exact List.forall_mem_nil _ | trivial | refine List.forall_mem_cons.2 ⟨?_, ?_⟩)) | (intro _; simp [RV.flatP, CD.flatP]; done)) ?_ | refine CallAtG.mk _ (fun _ => n10 ..) ?_ | refine CallDS.mk _ (by simp [RV.data]) (fun _ => n10 ..) (by first | (intro h; cases h; done) | (intro _; repeat' (first | exact List.forall_mem_nil _ | trivial | refine List.forall_mem_cons.2 ⟨?_, ?_⟩)) | (intro _; simp [RV.flatP, CD.flatP]; done)) ?_ | refine CallAt.mk _ (h1 ..) (by first | (intro h; cases h; done) | (intro _; repeat' (first | exact List.forall_mem_nil _ | trivial | refine List.forall_mem_cons.2 ⟨?_, ?_⟩)) | (intro _; simp [RV.flatP, CD.flatP]; done)) ?_ | refine CallAtG.mk _ (fun _ => h1 ..) ?_ | refine CallDS.mk _ (by simp [RV.data]) (fun _ => h1 ..) (by first | (intro h; cases h; done) | (intro _; repeat' (first | exact List.forall_mem_nil _ | trivial | refine List.forall_mem_cons.2 ⟨?_, ?_⟩)) | (intro _; simp [RV.flatP, CD.flatP]; done)) ?_ | refine CallAt.mk _ (h2 ..) (by first | (intro h; cases h; done) | (intro _; repeat' (first | exact List.forall_mem_nil _ | trivial | refine List.forall_mem_cons.2 ⟨?_, ?_⟩)) | (intro _; simp [RV.flatP, CD.flatP]; done)) ?_ | refine CallAtG.mk _ (fun _ => h2 ..) ?_ | refine CallDS.mk _ (by simp [RV.data]) (fun _ => h2 ..) (by first | (intro h; cases h; done) | (intro _; repeat' (first | exact List.forall_mem_nil _ | trivial | refine List.forall_mem_cons.2 ⟨?_, ?_⟩)) | (intro _; simp [RV.flatP, CD.flatP]; done)) ?_ | refine CallAt.mk _ (h3 ..) (by first | (intro h; cases h; done) | (intro _; repeat' (first | exact List.forall_mem_nil _ | trivial | refine List.forall_mem_cons.2 ⟨?_, ?_⟩)) | (intro _; simp [RV.flatP, CD.flatP]; done)) ?_ | refine CallAtG.mk _ (fun _ => h3 ..) ?_ | refine CallDS.mk _ (by simp [RV.data]) (fun _ => h3 ..) (by first | (intro h; cases h; done) | (intro _; repeat' (first | exact List.forall_mem_nil _ | trivial | refine List.forall_mem_cons.2 ⟨?_, ?_⟩)) | (intro _; simp [RV.flatP, CD.flatP]; done)) ?_ | refine CallAt.mk _ (h4 ..) (by first | (intro h; cases h; done) | (intro _; repeat' (first | exact List.forall_mem_nil _ | trivial | refine List.forall_mem_cons.2 ⟨?_, ?_⟩)) | (intro _; simp [RV.flatP, CD.flatP]; done)) ?_ | refine CallAtG.mk _ (fun _ => h4 ..) ?_ | refine CallDS.mk _ (by simp [RV.data]) (fun _ => h4 ..) (by first | (intro h; cases h; done) | (intro _; repeat' (first | exact List.forall_mem_nil _ | trivial | refine List.forall_mem_cons.2 ⟨?_, ?_⟩)) | (intro _; simp [RV.flatP, CD.flatP]; done)) ?_ | refine CallAt.mk _ (h5 ..) (by first | (intro h; cases h; done) | (intro _; repeat' (first | exact List.forall_mem_nil _ | trivial | refine List.forall_mem_cons.2 ⟨?_, ?_⟩)) | (intro _; simp [RV.flatP, CD.flatP]; done)) ?_ | refine CallAtG.mk _ (fun _ => h5 ..) ?_ | refine CallDS.mk _ (by simp [RV.data]) (fun _ => h5 ..) (by first | (intro h; cases h; done) | (intro _; repeat' (first | exact List.forall_mem_nil _ | trivial | refine List.forall_mem_cons.2 ⟨?_, ?_⟩)) | (intro _; simp [RV.flatP, CD.flatP]; done)) ?_ | refine CallAt.mk _ (h6 ..) (by first | (intro h; cases h; done) | (intro _; repeat' (first | exact List.forall_mem_nil _ | trivial | refine List.forall_mem_cons.2 ⟨?_, ?_⟩)) | (intro _; simp [RV.flatP, CD.flatP]; done)) ?_ | refine CallAtG.mk _ (fun _ => h6 ..) ?_ | refine CallDS.mk _ (by simp [RV.data]) (fun _ => h6 ..) (by first | (intro h; cases h; done) | (intro _; repeat' (first | exact List.forall_mem_nil _ | trivial | refine List.forall_mem_cons.2 ⟨?_, ?_⟩)) | (intro _; simp [RV.flatP, CD.flatP]; done)) ?_ | refine CallAt.mk _ (h7 ..) (by first | (intro h; cases h; done) | (intro _; repeat' (first | exact List.forall_mem_nil _ | trivial | refine List.forall_mem_cons.2 ⟨?_, ?_⟩)) | (intro _; simp [RV.flatP, CD.flatP]; done)) ?_ | refine CallAtG.mk _ (fun _ => h7 ..) ?_ | refine CallDS.mk _ (by simp [RV.data]) (fun _ => h7 ..) (by first | (intro h; cases h; done) | (intro _; repeat' (first | exact List.forall_mem_nil _ | trivial | refine List.forall_mem_cons.2 ⟨?_, ?_⟩)) | (intro _; simp [RV.flatP, CD.flatP]; done)) ?_); try simp (disch := omega) only [go_sem, seval, reduceCtorEq, ↓reduceIte, beq_dec, Int.toNat_natCast, IntKind.signed, IntKind.bits]) | refine And.intro (fun hc => (?_ : AW _ _ _ _)) (fun hc => (?_ : AW _ _ _ _)) | simp (disch := omega) only [go_sem, seval, reduceCtorEq, ↓reduceIte, beq_dec, Int.toNat_natCast, IntKind.signed, IntKind.bits] | (refine And.intro ?_ ?_; focus (first | (intros; omega) | (intros; simp_all; done))) | refine And.intro (?_ : CallAt _ _ _ _ _ _ _ _) ?_ | refine And.intro (?_ : CallAt _ _ _ _ _ _ _ _ ∧ _) ?_ | refine And.intro (?_ : AW _ _ _ _) ?_ | fail))
    all_goals simp
theorem BridgeFlows_fn : ∀ xs, TyArgs [(true, grSh), (true, [.int .i64, .int .i64]), (true, [.int .i64, .int .i64])] xs → FnR Try.prog 4 xs [.c (.B true)] := by
  intro xs h
  obtain ⟨d1, _, rfl, h1, h⟩ := h.cons_inv
  obtain ⟨d2, _, rfl, h2, h⟩ := h.cons_inv
  obtain ⟨d3, _, rfl, h3, h⟩ := h.cons_inv
  obtain rfl := h.nil_inv
  obtain ⟨g, rfl⟩ := gr_of h1
  obtain ⟨a, rfl⟩ := die_of h2
  obtain ⟨b, rfl⟩ := die_of h3
  exact n4 g a b
theorem BridgeFlows_holds : Rows.BridgeFlowsSaid :=
  OpenClaim.holds_of_wide 4 Try.f4 rfl rfl rfl rfl rfl rfl rfl ⟨rfl, rfl, rfl, rfl, rfl⟩ rfl rfl rfl rfl rfl (by kernel_rfl) Try.func4 (by kernel_rfl)
    (of_decide_eq_true (by kernel_rfl)) (by unfold Func.isWrapper; first | (rw [if_pos (by decide +kernel)]; kernel_rfl) | (rw [if_neg (by decide +kernel)]; exact ⟨rfl, rfl⟩))
    (fun os started H enc _ => law_lifted (s := Rows.bridgeFlowsSpec) (C := Try.checked) (n := 12) Try.own Try.laidOut (by kernel_rfl) Try.func4 (by decide +kernel) rfl (by kernel_rfl) rfl (by kernel_rfl) (fun H ds h => by
      match ds, h with
      | [d1, d2, d3], _ => rfl) BridgeFlows_fn os started H enc
      (ChangeSpec.witness6 (enc := enc) (C := Try.checked) false ⟨#[], #[.agg #[.slice none 0 0, .slice none 0 0, .slice none 0 0], .agg #[.int .i64 0, .int .i64 0], .agg #[.int .i64 0, .int .i64 0]], []⟩ 12 (by kernel_rfl) (by kernel_rfl) (by kernel_rfl) (by kernel_rfl)))
end Go.Proofs.Ytgldpbghbkoolaa

