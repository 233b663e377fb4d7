/-
  Of returns the table of a corpus list, or its error.
-/
import Derived.Test.YtddhinbiahcjlaaWalkG
import Derived.Test.YtddhinbiahcjlaaAlD
import Derived.Test.YtddhinbiahcjlaaRows
set_option linter.unusedVariables false
set_option linter.unusedSimpArgs false
-- P p_27s.txt
open Go Go.AL Go.RowKit
namespace Go.Proofs.Ytddhinbiahcjlaa
set_option maxRecDepth 20000
/- coinage/coinagelaw27.ConsecutiveMakes -/
abbrev c3_1 : AC := .reg [⟨(some 4), .mv (.k (.B false)), none⟩] false
abbrev c3_2 : AC := .reg [⟨(some 11), .call 4 [], none⟩,
  ⟨(some 12), .not (.t 11), none⟩,
  ⟨(some 13), .mv (.t 12), none⟩,
  ⟨(some 14), .mv (.t 0), (some (13, false))⟩,
  ⟨(some 15), .len (.t 14), (some (13, false))⟩,
  ⟨(some 16), .bin .gtr (.t 15) (.k (.I 100)), (some (13, false))⟩,
  ⟨(some 17), .pick (.t 13) (.k (.B true)) (.t 16), none⟩] false
abbrev c3_3 : AC := .reg [⟨(some 18), .call 4 [], none⟩,
  ⟨(some 4), .mv (.t 18), none⟩] false
abbrev c3_4 : AC := .seq c3_3 .ret
abbrev c3_5 : AC := .cond (.t 17) c3_4 .skip
abbrev c3_6 : AC := .seq c3_2 c3_5
abbrev c3_7 : AC := .reg [⟨(some 20), .mv (.t 0), none⟩,
  ⟨(some 21), .mv (.t 1), none⟩,
  ⟨(some 22), .call 5 [(.t 20), (.t 21)], none⟩,
  ⟨(some 19), .mv (.t 22), none⟩,
  ⟨(some 23), .ext (.t 19) 0, none⟩,
  ⟨(some 24), .ext (.t 19) 1, none⟩,
  ⟨(some 25), .ext (.t 19) 2, none⟩,
  ⟨(some 5), .mv (.t 23), none⟩,
  ⟨(some 6), .mv (.t 24), none⟩,
  ⟨(some 7), .mv (.t 25), none⟩] false
abbrev c3_8 : AC := .reg [⟨(some 27), .mv (.t 0), none⟩,
  ⟨(some 28), .mv (.t 1), none⟩,
  ⟨(some 29), .call 6 [(.t 27), (.t 28)], none⟩,
  ⟨(some 26), .mv (.t 29), none⟩,
  ⟨(some 30), .ext (.t 26) 0, none⟩,
  ⟨(some 31), .ext (.t 26) 1, none⟩,
  ⟨(some 32), .ext (.t 26) 2, none⟩,
  ⟨(some 8), .mv (.t 30), none⟩,
  ⟨(some 9), .mv (.t 31), none⟩,
  ⟨(some 10), .mv (.t 32), none⟩] false
abbrev c3_9 : AC := .reg [⟨(some 33), .mv (.t 7), none⟩,
  ⟨(some 34), .mv (.t 10), none⟩,
  ⟨(some 35), .bin .eql (.t 33) (.t 34), none⟩,
  ⟨(some 36), .mv (.t 35), none⟩,
  ⟨(some 37), .mv (.t 5), (some (36, true))⟩,
  ⟨(some 38), .mv (.t 8), (some (36, true))⟩,
  ⟨(some 39), .bin .eql (.t 37) (.t 38), (some (36, true))⟩,
  ⟨(some 40), .pick (.t 36) (.t 39) (.k (.B false)), none⟩,
  ⟨(some 41), .mv (.t 40), none⟩,
  ⟨(some 42), .mv (.t 6), (some (41, true))⟩,
  ⟨(some 43), .mv (.t 9), (some (41, true))⟩,
  ⟨(some 44), .call 7 [(.t 42), (.t 43)], (some (41, true))⟩,
  ⟨(some 45), .pick (.t 41) (.t 44) (.k (.B false)), none⟩,
  ⟨(some 46), .mv (.t 45), none⟩,
  ⟨(some 47), .mv (.t 7), (some (46, true))⟩,
  ⟨(some 48), .bin .neq (.t 47) (.k (.I 0)), (some (46, true))⟩,
  ⟨(some 49), .mv (.t 48), (some (46, true))⟩,
  ⟨(some 50), .mv (.t 5), (some (49, false))⟩,
  ⟨(some 51), .mv (.t 6), (some (49, false))⟩,
  ⟨(some 52), .call 8 [(.t 50), (.t 51)], (some (49, false))⟩,
  ⟨(some 53), .pick (.t 49) (.k (.B true)) (.t 52), (some (46, true))⟩,
  ⟨(some 54), .pick (.t 46) (.t 53) (.k (.B false)), none⟩,
  ⟨(some 4), .mv (.t 54), none⟩] false
abbrev c3_10 : AC := .seq c3_9 .ret
abbrev c3_11 : AC := .seq c3_8 c3_10
abbrev c3_12 : AC := .seq c3_7 c3_11
abbrev c3_13 : AC := .seq c3_6 c3_12
abbrev c3_14 : AC := .seq c3_1 c3_13
abbrev c3 : AC := c3_14
theorem code3 : fnCode Try.prog 3 = some (c3, [4], 55) := by kernel_rfl

theorem tab_nn : FnR Try.prog 7 [.c .nil, .c .nil] [.c (.B true)] := by
  have h := f29 [] []
  rw [decide_eq_true rfl] at h
  have h1 : FnR Try.prog 7 [.c (.sl 1 []), .c .nil] [.c (.B true)] := FnR.nil (pre := [.c (.sl 1 [])]) (post := []) (k := 1) h
  exact FnR.nil (pre := []) (post := [.c .nil]) (k := 1) h1
theorem tab_tn : FnR Try.prog 7 [.c (Tab []), .c .nil] [.c (.B true)] := by
  have h := f29 [] []
  rw [decide_eq_true rfl] at h
  exact FnR.nil (pre := [.c (.sl 1 [])]) (post := []) (k := 1) h
set_option maxHeartbeats 4000000 in
theorem r3 (l : List Cn) (sd : Int) : FnR Try.prog 3 [.c (Cns l), .I sd] [.c (.B true)] := by
  have g5 := r5 l sd
  have g6 : FnR Try.prog 6 [.c (Cns l), .I sd] [.c (.I (ofN sd l)), .c (refT sd l), .c (.I (ofE sd l))] := by
    by_cases h0 : ofE sd l = 0
    · by_cases hne : l = []
      · exact r6e l sd (.inr hne)
      · exact r6 l sd h0 hne
    · exact r6e l sd (.inl h0)
  have g7 : FnR Try.prog 7 [.c (ofT sd l), .c (refT sd l)] [.c (.B true)] := by
    unfold ofT refT
    by_cases h0 : ofE sd l = 0
    · rw [if_pos h0, if_pos h0]
      by_cases hne : l = []
      · rw [if_pos hne]
        have e : tabT sd l = [] := by
          subst hne
          have h1 := cs_len (([] : List Cn).map (rowC sd))
          have h2 : (rowsN sd []).length = 0 := by unfold rowsN; simpa using h1
          unfold tabT; rw [h2]; rfl
        rw [e]; exact tab_tn
      · rw [if_neg hne]
        have h := f29 (tabT sd l) (tabT sd l)
        rw [decide_eq_true rfl] at h; exact h
    · rw [if_neg h0, if_neg h0]; exact tab_nn
  by_cases h0 : ofE sd l = 0
  · have e2 : ofN sd l = (colsN sd l).length := by unfold ofN; rw [if_pos h0]
    have e3 : ofT sd l = Tab (tabT sd l) := by unfold ofT; rw [if_pos h0]
    have h1 : chkC l = 0 := by
      unfold ofE at h0
      split at h0
      · omega
      · omega
    have h2 : ¬ (sd ≠ 0 ∧ sd ≠ 1) := fun h => by unfold ofE at h0; rw [if_neg (by omega), if_pos h] at h0; omega
    have h3 : ¬ (7 < (colsN sd l).length ∨ 16 < (rowsN sd l).length) := fun h => by unfold ofE at h0; rw [if_neg (by omega), if_neg h2, if_pos h] at h0; omega
    have g8 := f38 (colsN sd l).length (tabT sd l)
    rw [tabT_valid sd l (by omega) (by omega)] at g8
    rw [h0, e2, e3] at g5
    rw [h0, e2] at g6
    rw [e3] at g7
    generalize tabT sd l = T at *
    generalize refT sd l = T' at *
    generalize (((colsN sd l).length : Nat) : Int) = N at *
    refine fn_walk code3 (by simp) ?_
    by_cases hl : l.length ≤ 100
    · have h100 : decide ((100 : Int) < (l.length : Int)) = false := decide_eq_false (by omega)
      (repeat' (first | refine NextAt.mk (fun hc => ?_) (fun pre n v post hc hkey => ?_) | refine Sni.mk (fun hc => ?_) ?_ | refine Both.mk ?_ ?_ | refine AW_seq ?_ | refine AW_block ?_ | ((first | refine AW_reg ?_ | refine AW_cond ?_ | refine AW_skip ?_ | refine AW_exit ?_ | refine AW_ret ?_ | refine AW_regD (by kernel_rfl) ?_ | refine AW_regX (by kernel_rfl) ?_ | refine CallAtG.t (Eq.refl true) ?_ | refine CallAtG.f (Eq.refl false) ?_ | refine CallAt.mk _ (w9 ..) (by first | (intro h; cases h; done) | (intro _; repeat' (first | exact List.forall_mem_nil _ | trivial | refine List.forall_mem_cons.2 ⟨?_, ?_⟩)) | (intro _; simp [RV.flatP, CD.flatP, List.length_map, h100]; done)) ?_ | refine CallAtG.mk _ (fun _ => w9 ..) ?_ | refine CallDS.mk _ (by simp [RV.data]) (fun _ => w9 ..) (by first | (intro h; cases h; done) | (intro _; repeat' (first | exact List.forall_mem_nil _ | trivial | refine List.forall_mem_cons.2 ⟨?_, ?_⟩)) | (intro _; simp [RV.flatP, CD.flatP, List.length_map, h100]; done)) ?_ | refine CallAt.mk _ (g5 ..) (by first | (intro h; cases h; done) | (intro _; repeat' (first | exact List.forall_mem_nil _ | trivial | refine List.forall_mem_cons.2 ⟨?_, ?_⟩)) | (intro _; simp [RV.flatP, CD.flatP, List.length_map, h100]; done)) ?_ | refine CallAtG.mk _ (fun _ => g5 ..) ?_ | refine CallDS.mk _ (by simp [RV.data]) (fun _ => g5 ..) (by first | (intro h; cases h; done) | (intro _; repeat' (first | exact List.forall_mem_nil _ | trivial | refine List.forall_mem_cons.2 ⟨?_, ?_⟩)) | (intro _; simp [RV.flatP, CD.flatP, List.length_map, h100]; done)) ?_ | refine CallAt.mk _ (g6 ..) (by first | (intro h; cases h; done) | (intro _; repeat' (first | exact List.forall_mem_nil _ | trivial | refine List.forall_mem_cons.2 ⟨?_, ?_⟩)) | (intro _; simp [RV.flatP, CD.flatP, List.length_map, h100]; done)) ?_ | refine CallAtG.mk _ (fun _ => g6 ..) ?_ | refine CallDS.mk _ (by simp [RV.data]) (fun _ => g6 ..) (by first | (intro h; cases h; done) | (intro _; repeat' (first | exact List.forall_mem_nil _ | trivial | refine List.forall_mem_cons.2 ⟨?_, ?_⟩)) | (intro _; simp [RV.flatP, CD.flatP, List.length_map, h100]; done)) ?_ | refine CallAt.mk _ (g7 ..) (by first | (intro h; cases h; done) | (intro _; repeat' (first | exact List.forall_mem_nil _ | trivial | refine List.forall_mem_cons.2 ⟨?_, ?_⟩)) | (intro _; simp [RV.flatP, CD.flatP, List.length_map, h100]; done)) ?_ | refine CallAtG.mk _ (fun _ => g7 ..) ?_ | refine CallDS.mk _ (by simp [RV.data]) (fun _ => g7 ..) (by first | (intro h; cases h; done) | (intro _; repeat' (first | exact List.forall_mem_nil _ | trivial | refine List.forall_mem_cons.2 ⟨?_, ?_⟩)) | (intro _; simp [RV.flatP, CD.flatP, List.length_map, h100]; done)) ?_ | refine CallAt.mk _ (g8 ..) (by first | (intro h; cases h; done) | (intro _; repeat' (first | exact List.forall_mem_nil _ | trivial | refine List.forall_mem_cons.2 ⟨?_, ?_⟩)) | (intro _; simp [RV.flatP, CD.flatP, List.length_map, h100]; done)) ?_ | refine CallAtG.mk _ (fun _ => g8 ..) ?_ | refine CallDS.mk _ (by simp [RV.data]) (fun _ => g8 ..) (by first | (intro h; cases h; done) | (intro _; repeat' (first | exact List.forall_mem_nil _ | trivial | refine List.forall_mem_cons.2 ⟨?_, ?_⟩)) | (intro _; simp [RV.flatP, CD.flatP, List.length_map, h100]; done)) ?_); try simp (disch := omega) only [go_sem, seval, reduceCtorEq, ↓reduceIte, beq_dec, Int.toNat_natCast, IntKind.signed, IntKind.bits, List.length_map, h100]) | refine And.intro (fun hc => (?_ : AW _ _ _ _)) (fun hc => (?_ : AW _ _ _ _)) | simp (disch := omega) only [go_sem, seval, reduceCtorEq, ↓reduceIte, beq_dec, Int.toNat_natCast, IntKind.signed, IntKind.bits, List.length_map, h100] | (refine And.intro ?_ ?_; focus (first | (intros; omega) | (intros; simp_all; done))) | refine And.intro (?_ : CallAt _ _ _ _ _ _ _ _) ?_ | refine And.intro (?_ : CallAt _ _ _ _ _ _ _ _ ∧ _) ?_ | refine And.intro (?_ : AW _ _ _ _) ?_ | fail))
    · have h100 : decide ((100 : Int) < (l.length : Int)) = true := decide_eq_true (by omega)
      (repeat' (first | refine NextAt.mk (fun hc => ?_) (fun pre n v post hc hkey => ?_) | refine Sni.mk (fun hc => ?_) ?_ | refine Both.mk ?_ ?_ | refine AW_seq ?_ | refine AW_block ?_ | ((first | refine AW_reg ?_ | refine AW_cond ?_ | refine AW_skip ?_ | refine AW_exit ?_ | refine AW_ret ?_ | refine AW_regD (by kernel_rfl) ?_ | refine AW_regX (by kernel_rfl) ?_ | refine CallAtG.t (Eq.refl true) ?_ | refine CallAtG.f (Eq.refl false) ?_ | refine CallAt.mk _ (w9 ..) (by first | (intro h; cases h; done) | (intro _; repeat' (first | exact List.forall_mem_nil _ | trivial | refine List.forall_mem_cons.2 ⟨?_, ?_⟩)) | (intro _; simp [RV.flatP, CD.flatP, List.length_map, h100]; done)) ?_ | refine CallAtG.mk _ (fun _ => w9 ..) ?_ | refine CallDS.mk _ (by simp [RV.data]) (fun _ => w9 ..) (by first | (intro h; cases h; done) | (intro _; repeat' (first | exact List.forall_mem_nil _ | trivial | refine List.forall_mem_cons.2 ⟨?_, ?_⟩)) | (intro _; simp [RV.flatP, CD.flatP, List.length_map, h100]; done)) ?_); try simp (disch := omega) only [go_sem, seval, reduceCtorEq, ↓reduceIte, beq_dec, Int.toNat_natCast, IntKind.signed, IntKind.bits, List.length_map, h100]) | refine And.intro (fun hc => (?_ : AW _ _ _ _)) (fun hc => (?_ : AW _ _ _ _)) | simp (disch := omega) only [go_sem, seval, reduceCtorEq, ↓reduceIte, beq_dec, Int.toNat_natCast, IntKind.signed, IntKind.bits, List.length_map, h100] | (refine And.intro ?_ ?_; focus (first | (intros; omega) | (intros; simp_all; done))) | refine And.intro (?_ : CallAt _ _ _ _ _ _ _ _) ?_ | refine And.intro (?_ : CallAt _ _ _ _ _ _ _ _ ∧ _) ?_ | refine And.intro (?_ : AW _ _ _ _) ?_ | fail))
  · have hz : (ofE sd l = 0) = False := eq_false h0
    generalize ofT sd l = T at *
    generalize refT sd l = T' at *
    generalize ofN sd l = N at *
    generalize ofE sd l = E at *
    refine fn_walk code3 (by simp) ?_
    by_cases hl : l.length ≤ 100
    · have h100 : decide ((100 : Int) < (l.length : Int)) = false := decide_eq_false (by omega)
      (repeat' (first | refine NextAt.mk (fun hc => ?_) (fun pre n v post hc hkey => ?_) | refine Sni.mk (fun hc => ?_) ?_ | refine Both.mk ?_ ?_ | refine AW_seq ?_ | refine AW_block ?_ | ((first | refine AW_reg ?_ | refine AW_cond ?_ | refine AW_skip ?_ | refine AW_exit ?_ | refine AW_ret ?_ | refine AW_regD (by kernel_rfl) ?_ | refine AW_regX (by kernel_rfl) ?_ | refine CallAtG.t (Eq.refl true) ?_ | refine CallAtG.f (Eq.refl false) ?_ | refine CallAt.mk _ (w9 ..) (by first | (intro h; cases h; done) | (intro _; repeat' (first | exact List.forall_mem_nil _ | trivial | refine List.forall_mem_cons.2 ⟨?_, ?_⟩)) | (intro _; simp [RV.flatP, CD.flatP, List.length_map, h100, hz]; done)) ?_ | refine CallAtG.mk _ (fun _ => w9 ..) ?_ | refine CallDS.mk _ (by simp [RV.data]) (fun _ => w9 ..) (by first | (intro h; cases h; done) | (intro _; repeat' (first | exact List.forall_mem_nil _ | trivial | refine List.forall_mem_cons.2 ⟨?_, ?_⟩)) | (intro _; simp [RV.flatP, CD.flatP, List.length_map, h100, hz]; done)) ?_ | refine CallAt.mk _ (g5 ..) (by first | (intro h; cases h; done) | (intro _; repeat' (first | exact List.forall_mem_nil _ | trivial | refine List.forall_mem_cons.2 ⟨?_, ?_⟩)) | (intro _; simp [RV.flatP, CD.flatP, List.length_map, h100, hz]; done)) ?_ | refine CallAtG.mk _ (fun _ => g5 ..) ?_ | refine CallDS.mk _ (by simp [RV.data]) (fun _ => g5 ..) (by first | (intro h; cases h; done) | (intro _; repeat' (first | exact List.forall_mem_nil _ | trivial | refine List.forall_mem_cons.2 ⟨?_, ?_⟩)) | (intro _; simp [RV.flatP, CD.flatP, List.length_map, h100, hz]; done)) ?_ | refine CallAt.mk _ (g6 ..) (by first | (intro h; cases h; done) | (intro _; repeat' (first | exact List.forall_mem_nil _ | trivial | refine List.forall_mem_cons.2 ⟨?_, ?_⟩)) | (intro _; simp [RV.flatP, CD.flatP, List.length_map, h100, hz]; done)) ?_ | refine CallAtG.mk _ (fun _ => g6 ..) ?_ | refine CallDS.mk _ (by simp [RV.data]) (fun _ => g6 ..) (by first | (intro h; cases h; done) | (intro _; repeat' (first | exact List.forall_mem_nil _ | trivial | refine List.forall_mem_cons.2 ⟨?_, ?_⟩)) | (intro _; simp [RV.flatP, CD.flatP, List.length_map, h100, hz]; done)) ?_ | refine CallAt.mk _ (g7 ..) (by first | (intro h; cases h; done) | (intro _; repeat' (first | exact List.forall_mem_nil _ | trivial | refine List.forall_mem_cons.2 ⟨?_, ?_⟩)) | (intro _; simp [RV.flatP, CD.flatP, List.length_map, h100, hz]; done)) ?_ | refine CallAtG.mk _ (fun _ => g7 ..) ?_ | refine CallDS.mk _ (by simp [RV.data]) (fun _ => g7 ..) (by first | (intro h; cases h; done) | (intro _; repeat' (first | exact List.forall_mem_nil _ | trivial | refine List.forall_mem_cons.2 ⟨?_, ?_⟩)) | (intro _; simp [RV.flatP, CD.flatP, List.length_map, h100, hz]; done)) ?_); try simp (disch := omega) only [go_sem, seval, reduceCtorEq, ↓reduceIte, beq_dec, Int.toNat_natCast, IntKind.signed, IntKind.bits, List.length_map, h100, hz]) | refine And.intro (fun hc => (?_ : AW _ _ _ _)) (fun hc => (?_ : AW _ _ _ _)) | simp (disch := omega) only [go_sem, seval, reduceCtorEq, ↓reduceIte, beq_dec, Int.toNat_natCast, IntKind.signed, IntKind.bits, List.length_map, h100, hz] | (refine And.intro ?_ ?_; focus (first | (intros; omega) | (intros; simp_all; done))) | refine And.intro (?_ : CallAt _ _ _ _ _ _ _ _) ?_ | refine And.intro (?_ : CallAt _ _ _ _ _ _ _ _ ∧ _) ?_ | refine And.intro (?_ : AW _ _ _ _) ?_ | fail))
    · have h100 : decide ((100 : Int) < (l.length : Int)) = true := decide_eq_true (by omega)
      (repeat' (first | refine NextAt.mk (fun hc => ?_) (fun pre n v post hc hkey => ?_) | refine Sni.mk (fun hc => ?_) ?_ | refine Both.mk ?_ ?_ | refine AW_seq ?_ | refine AW_block ?_ | ((first | refine AW_reg ?_ | refine AW_cond ?_ | refine AW_skip ?_ | refine AW_exit ?_ | refine AW_ret ?_ | refine AW_regD (by kernel_rfl) ?_ | refine AW_regX (by kernel_rfl) ?_ | refine CallAtG.t (Eq.refl true) ?_ | refine CallAtG.f (Eq.refl false) ?_ | refine CallAt.mk _ (w9 ..) (by first | (intro h; cases h; done) | (intro _; repeat' (first | exact List.forall_mem_nil _ | trivial | refine List.forall_mem_cons.2 ⟨?_, ?_⟩)) | (intro _; simp [RV.flatP, CD.flatP, List.length_map, h100]; done)) ?_ | refine CallAtG.mk _ (fun _ => w9 ..) ?_ | refine CallDS.mk _ (by simp [RV.data]) (fun _ => w9 ..) (by first | (intro h; cases h; done) | (intro _; repeat' (first | exact List.forall_mem_nil _ | trivial | refine List.forall_mem_cons.2 ⟨?_, ?_⟩)) | (intro _; simp [RV.flatP, CD.flatP, List.length_map, h100]; done)) ?_); try simp (disch := omega) only [go_sem, seval, reduceCtorEq, ↓reduceIte, beq_dec, Int.toNat_natCast, IntKind.signed, IntKind.bits, List.length_map, h100]) | refine And.intro (fun hc => (?_ : AW _ _ _ _)) (fun hc => (?_ : AW _ _ _ _)) | simp (disch := omega) only [go_sem, seval, reduceCtorEq, ↓reduceIte, beq_dec, Int.toNat_natCast, IntKind.signed, IntKind.bits, List.length_map, h100] | (refine And.intro ?_ ?_; focus (first | (intros; omega) | (intros; simp_all; done))) | refine And.intro (?_ : CallAt _ _ _ _ _ _ _ _) ?_ | refine And.intro (?_ : CallAt _ _ _ _ _ _ _ _ ∧ _) ?_ | refine And.intro (?_ : AW _ _ _ _) ?_ | fail))
theorem Try.own : ownKnob Try.prog.godebug = none := by kernel_rfl
theorem Try.laidOut : laidOutB Try.prog = true := by kernel_rfl
theorem coins_of {ds : List CD} {s : List Sh} (h : Ty (.sl [.int .i64, .int .i64, .int .i64, .int .i64, .int .i64, .int .i64, .int .i64] :: s) ds) : ∃ (l : List Cn) (r : List CD), ds = Cns l :: r ∧ Ty s r := by
  obtain ⟨xs, r, e, hx, h'⟩ := h.sl_inv
  obtain ⟨l, rfl⟩ := map_of (f := Cn.cd) fun x hx' => by
    have h0 := hx x hx'
    obtain ⟨a1, _, rfl, _, h0⟩ := h0.int_inv
    obtain ⟨a2, _, rfl, _, h0⟩ := h0.int_inv
    obtain ⟨a3, _, rfl, _, h0⟩ := h0.int_inv
    obtain ⟨a4, _, rfl, _, h0⟩ := h0.int_inv
    obtain ⟨a5, _, rfl, _, h0⟩ := h0.int_inv
    obtain ⟨a6, _, rfl, _, h0⟩ := h0.int_inv
    obtain ⟨a7, _, rfl, _, h0⟩ := h0.int_inv
    obtain rfl := h0.nil_inv
    exact ⟨⟨a1, a2, a3, a4, a5, a6, a7⟩, rfl⟩
  exact ⟨l, r, e, h'⟩
theorem ConsecutiveMakes_fn : ∀ xs, TyArgs [(false, [.sl [.int .i64, .int .i64, .int .i64, .int .i64, .int .i64, .int .i64, .int .i64]]), (false, [.int .i64])] xs → FnR Try.prog 3 xs [.c (.B true)] := by
  intro xs h
  obtain ⟨d0, _, rfl, h0, h⟩ := h.cons_inv
  obtain ⟨d1, _, rfl, h1, h⟩ := h.cons_inv
  obtain rfl := h.nil_inv
  obtain ⟨l, _, rfl, g0⟩ := coins_of h0
  obtain rfl := g0.nil_inv
  obtain ⟨x1, _, rfl, _, g1⟩ := h1.int_inv
  obtain rfl := g1.nil_inv
  exact r3 l x1
theorem ConsecutiveMakes_holds : Rows.ConsecutiveMakesSaid :=
  OpenClaim.holds_of_wide 3 Try.f3 rfl rfl rfl rfl rfl rfl rfl ⟨rfl, rfl, rfl, rfl, rfl⟩ rfl rfl rfl rfl rfl (by kernel_rfl) Try.func3 (by kernel_rfl)
    (of_decide_eq_true (by kernel_rfl)) (by unfold Func.isWrapper; first | (rw [if_pos (by decide +kernel)]; kernel_rfl) | (rw [if_neg (by decide +kernel)]; exact ⟨rfl, rfl⟩))
    (fun os started H enc _ => law_lifted (s := Rows.consecutiveMakesSpec) (C := Try.checked) (n := 12) Try.own Try.laidOut (by kernel_rfl) Try.func3 (by decide +kernel) rfl (by kernel_rfl) rfl (by kernel_rfl) (fun H ds h => by
      match ds, h with
      | [d1, d2], _ => rfl) ConsecutiveMakes_fn os started H enc
      (ChangeSpec.witness6 (enc := enc) (C := Try.checked) false ⟨#[], #[.slice none 0 0, .int .i64 0], []⟩ 12 (by kernel_rfl) (by kernel_rfl) (by kernel_rfl) (by kernel_rfl)))
end Go.Proofs.Ytddhinbiahcjlaa

