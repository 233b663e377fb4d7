/-
  Lemmas for the proof: no statement of its own.
-/
import Derived.Test.YtlomngideedobaaWalkE
import Derived.Test.YtlomngideedobaaWalkB
import Derived.Test.YtlomngideedobaaAlD
set_option linter.unusedVariables false
set_option linter.unusedSimpArgs false
-- P p_14.txt
open Go Go.AL Go.RowKit
namespace Go.Proofs.Ytlomngideedobaa
set_option maxRecDepth 20000
/-! ### the reference's components are the same -/
theorem dst_via {g : List Lk} {a b c : Die} (h1 : (dst g a b).isSome) (h2 : (dst g b c).isSome) : (dst g a c).isSome := by
  rw [Option.isSome_iff_exists] at h1 h2 ⊢
  obtain ⟨n, h1⟩ := h1
  obtain ⟨m, h2⟩ := h2
  rw [dst_some] at h1 h2
  obtain ⟨k, hk, hd⟩ := (h1.2.1.app h2.2.1).dist
  exact ⟨k, dst_some.2 ⟨by omega, by simpa using hd⟩⟩
def Closed (g : List Lk) (f : NF) : Prop := ∀ x y v, f x = some v → (dst g x y).isSome → f y = some v
theorem nth_app {α : Type} [Inhabited α] (l : List α) (x : α) (i : Nat) : nth (l ++ [x]) i = if i = l.length then x else nth l i := by
  unfold nth
  simp only [List.getD, List.getElem?_append]
  split
  · rw [if_neg (by omega)]
  · rename_i h
    by_cases e : i = l.length
    · rw [if_pos e]; subst e; simp
    · rw [if_neg e]
      have h1 : l.length + 1 ≤ i := by omega
      rw [List.getElem?_eq_none (by simp; omega), List.getElem?_eq_none (by omega)]
theorem pI_far (g : List Lk) (l : List Die) : ∀ m, m ≤ l.length → Closed g (pI g l m).f ∧ (∀ x v, (pI g l m).f x = some v → 0 ≤ v ∧ v < (pI g l m).p) ∧ ∀ i, i < m → (pI g l m).f (nth l i) = some (nth (pI g l m).o i)
  | 0, _ => by simp [pI, pS, Closed]
  | m + 1, h => by
    obtain ⟨c1, c2, c3⟩ := pI_far g l m (by omega)
    obtain ⟨a, b, _, _⟩ := pI_len g l m (by omega)
    rw [pI_succ g l m (by omega)]
    generalize pI g l m = s at *
    unfold pstep
    split
    · rename_i v hv
      refine ⟨c1, c2, fun i hi => ?_⟩
      simp only
      rw [nth_app, a]
      by_cases e : i = m
      · subst e; rw [if_pos rfl]; exact hv
      · rw [if_neg e]; exact c3 i (by omega)
    · rename_i hv
      refine ⟨fun x y v hx hxy => ?_, fun x v hx => ?_, fun i hi => ?_⟩
      · simp only [numS] at hx ⊢
        by_cases hd : (dst g (nth l m) x).isSome = true
        · rw [if_pos hd] at hx
          rw [if_pos (dst_via hd hxy)]; exact hx
        · rw [if_neg hd] at hx
          rw [if_neg fun hd' => hd (dst_via hd' (by rw [dst_symm]; exact hxy))]
          exact c1 x y v hx hxy
      · simp only [numS] at hx ⊢
        split at hx
        · cases hx; omega
        · have := c2 x v hx; omega
      · simp only [numS]
        rw [nth_app, a]
        by_cases e : i = m
        · subst e; rw [if_pos rfl, dst_self]; rfl
        · rw [if_neg e]
          have h3 := c3 i (by omega)
          rw [if_neg fun hd => ?_]
          · exact h3
          · have := c1 _ (nth l m) _ h3 (by rw [dst_symm]; exact hd)
            rw [this] at hv; cases hv
end Go.Proofs.Ytlomngideedobaa

-- P p_14.txt
open Go Go.AL Go.RowKit
namespace Go.Proofs.Ytlomngideedobaa
set_option maxRecDepth 20000
def chT (s : List (List Die)) (k : Int) : List (List Die) := if k = s.length then s ++ [[]] else s
def chS (ps : List Int) (ds : List Die) : Nat → List (List Die)
  | 0 => []
  | i + 1 => (chT (chS ps ds i) (nth ps i)).set (nth ps i).toNat ((chT (chS ps ds i) (nth ps i)).getD (nth ps i).toNat [] ++ [nth ds i])
abbrev chC (s : List (List Die)) : List (List (List CD)) := s.map fun c => c.map Die.cd
theorem hold20a {Q : Exit → St → Prop} {σ : St} (h : Hold (AW Try.prog c20_18 Q σ)) : AW Try.prog c20_18 Q σ := h.out
theorem hold20b {Q : Exit → St → Prop} {σ : St} (h : Hold (AW Try.prog c20_22 Q σ)) : AW Try.prog c20_22 Q σ := h.out
theorem hold20c {Q : Exit → St → Prop} {σ : St} (h : Hold (AW Try.prog c20_30 Q σ)) : AW Try.prog c20_30 Q σ := h.out
theorem chT_len (s : List (List Die)) (k : Int) : (chT s k).length ≤ s.length + 1 := by
  unfold chT
  split
  · simp
  · omega
theorem chS_len (ps : List Int) (ds : List Die) : ∀ i, (chS ps ds i).length ≤ i
  | 0 => Nat.le_refl _
  | i + 1 => by
    have h1 := chS_len ps ds i
    have h2 := chT_len (chS ps ds i) (nth ps i)
    simp only [chS, List.length_set]; omega
theorem chC_get (T : List (List Die)) (h : Nat) : (chC T).getD h [] = (T.getD h []).map Die.cd := by
  simp only [chC, List.getD, List.getElem?_map]
  cases T[h]? <;> rfl
theorem chT_row' (s : List (List Die)) (k : Int) (i h : Nat) (hs : ∀ h, (s.getD h []).length ≤ i) : ((chT s k).getD h []).length ≤ i := by
  unfold chT
  split
  · have := hs h
    simp only [List.getD, List.getElem?_append] at this ⊢
    split
    · exact this
    · rcases hh : h - s.length with _ | n <;> simp
  · exact hs h
theorem chS_row (ps : List Int) (ds : List Die) : ∀ i h, ((chS ps ds i).getD h []).length ≤ i
  | 0, h => by simp [chS, List.getD]
  | i + 1, h => by
    have h1 := fun h' => chT_row' (chS ps ds i) (nth ps i) i h' (chS_row ps ds i)
    simp only [chS]
    generalize chT (chS ps ds i) (nth ps i) = T at *
    have a1 := h1 (nth ps i).toNat
    have a2 := h1 h
    simp only [List.getD, List.getElem?_set] at a1 a2 ⊢
    split
    · split
      · simp; omega
      · simp
    · omega
theorem chT_row (ps : List Int) (ds : List Die) (i h : Nat) (k : Int) : ((chT (chS ps ds i) k).getD h []).length ≤ i := chT_row' _ k i h (chS_row ps ds i)
theorem chC_set (T : List (List Die)) (h : Nat) (d : Die) : (chC T).set h ((chC T).getD h [] ++ [d.cd]) = chC (T.set h (T.getD h [] ++ [d])) := by
  have : (chC T).getD h [] = (T.getD h []).map Die.cd := by
    simp only [chC, List.getD, List.getElem?_map]
    cases T[h]? <;> rfl
  rw [this]
  simp [chC, List.map_set]
set_option maxHeartbeats 4000000 in
theorem f20w (g : Gr) (l : List Die) (ps : List Int) (g41 : FnR Try.prog 41 [g.av] [.own 27 2 (l.map Die.cd), .c (.I 0)]) (g19 : FnR Try.prog 19 [g.av] [ORow ps, .c (.I 0)]) (hpl : ps.length = l.length) (hlen : l.length ≤ 64)
    (hk : ∀ i, i < l.length → 0 ≤ nth ps i ∧ nth ps i ≤ (chS ps l i).length) : FnR Try.prog 20 [g.av] [.c (rowsCD 2 (chC (chS ps l l.length))), .c (.I 0)] := by
    refine fn_walk code20 (by simp) ?_
    (repeat' (first | refine NextAt.mk (fun hc => ?_) (fun pre n v post hc hkey => ?_) | refine Sni.mk (fun hc => ?_) ?_ | refine Both.mk ?_ ?_ | refine AW_seq ?_ | refine AW_block ?_ | ((first | refine AW_reg ?_ | refine AW_cond ?_ | refine AW_skip ?_ | refine AW_exit ?_ | refine AW_ret ?_ | refine AW_regD (by kernel_rfl) ?_ | refine AW_regX (by kernel_rfl) ?_ | refine CallAtG.t (Eq.refl true) ?_ | refine CallAtG.f (Eq.refl false) ?_ | refine CallAt.mk _ (g19 ..) (by first | (intro h; cases h; done) | (intro _; repeat' (first | exact List.forall_mem_nil _ | trivial | refine List.forall_mem_cons.2 ⟨?_, ?_⟩)) | (intro _; simp [RV.flatP, CD.flatP, List.length_map]; done)) ?_ | refine CallAtG.mk _ (fun _ => g19 ..) ?_ | refine CallDS.mk _ (by simp [RV.data]) (fun _ => g19 ..) (by first | (intro h; cases h; done) | (intro _; repeat' (first | exact List.forall_mem_nil _ | trivial | refine List.forall_mem_cons.2 ⟨?_, ?_⟩)) | (intro _; simp [RV.flatP, CD.flatP, List.length_map]; done)) ?_ | refine CallAt.mk _ (g41 ..) (by first | (intro h; cases h; done) | (intro _; repeat' (first | exact List.forall_mem_nil _ | trivial | refine List.forall_mem_cons.2 ⟨?_, ?_⟩)) | (intro _; simp [RV.flatP, CD.flatP, List.length_map]; done)) ?_ | refine CallAtG.mk _ (fun _ => g41 ..) ?_ | refine CallDS.mk _ (by simp [RV.data]) (fun _ => g41 ..) (by first | (intro h; cases h; done) | (intro _; repeat' (first | exact List.forall_mem_nil _ | trivial | refine List.forall_mem_cons.2 ⟨?_, ?_⟩)) | (intro _; simp [RV.flatP, CD.flatP, List.length_map]; done)) ?_); try simp (disch := omega) only [go_sem, seval, reduceCtorEq, ↓reduceIte, beq_dec, Int.toNat_natCast, IntKind.signed, IntKind.bits, List.length_map]) | refine And.intro (fun hc => (?_ : AW _ _ _ _)) (fun hc => (?_ : AW _ _ _ _)) | simp (disch := omega) only [go_sem, seval, reduceCtorEq, ↓reduceIte, beq_dec, Int.toNat_natCast, IntKind.signed, IntKind.bits, List.length_map] | (refine And.intro ?_ ?_; focus (first | (intros; omega) | (intros; simp_all; done))) | refine And.intro (?_ : CallAt _ _ _ _ _ _ _ _) ?_ | refine And.intro (?_ : CallAt _ _ _ _ _ _ _ _ ∧ _) ?_ | refine And.intro (?_ : AW _ _ _ _) ?_ | fail))
    refine AW_nil 8 900 54 1 (by rfl) ?_
    refine AW_toRows 900 27 2 (by rfl) (by simp) ?_
    refine AW_loopK [6, 24, 25] [8, 9, 10, 26, 27, 28, 29, 30, 31, 32, 33, 34, 35, 36, 37, 38, 39, 40, 41, 42, 43, 44, 45, 46, 47, 48, 49, 50, 51] (fun i : Nat => i ≤ l.length) (fun i => [(8, .own 900), (26, .I i)]) (fun i => [(900, .rows 54 27 2 (chC (chS ps l i)) none none)]) (fun i => l.length - i) 0 (by omega) ?_ ?_
    · simp (disch := omega) only [go_sem, seval, reduceCtorEq, ↓reduceIte, beq_dec, Int.toNat_natCast, IntKind.signed, IntKind.bits, Int.natCast_zero, chS, List.map_nil]
    · intro i hi
      have hcl := chS_len ps l i
      rcases Nat.lt_or_ge i l.length with hil | hil
      · obtain ⟨hk0, hk1⟩ := hk i hil
        have hsuc : chS ps l (i + 1) = (chT (chS ps l i) (nth ps i)).set (nth ps i).toNat ((chT (chS ps l i) (nth ps i)).getD (nth ps i).toNat [] ++ [nth l i]) := rfl
        have hTl : (nth ps i).toNat < (chT (chS ps l i) (nth ps i)).length := by
          unfold chT
          split
          · simp; omega
          · omega
        have hTb0 : ((chT (chS ps l i) (nth ps i)).getD (nth ps i).toNat []).length ≤ i := chT_row ps l i _ _
        (repeat' (first | (with_reducible refine hold20a ?_; try simp (disch := omega) only [go_sem, seval, reduceCtorEq, ↓reduceIte, beq_dec, Int.toNat_natCast, IntKind.signed, IntKind.bits, getD_map (fun x : Int => [CD.I x]), List.length_map, maxLen]) | refine NextAt.mk (fun hc => ?_) (fun pre n v post hc hkey => ?_) | refine Sni.mk (fun hc => ?_) ?_ | refine Both.mk ?_ ?_ | refine AW_seq ?_ | refine AW_block ?_ | ((first | refine AW_reg ?_ | refine AW_cond ?_ | refine AW_skip ?_ | refine AW_exit ?_ | refine AW_ret ?_ | refine AW_regD (by kernel_rfl) ?_ | refine AW_regX (by kernel_rfl) ?_ | refine CallAtG.t (Eq.refl true) ?_ | refine CallAtG.f (Eq.refl false) ?_); try simp (disch := omega) only [go_sem, seval, reduceCtorEq, ↓reduceIte, beq_dec, Int.toNat_natCast, IntKind.signed, IntKind.bits, getD_map (fun x : Int => [CD.I x]), List.length_map, maxLen]) | refine And.intro (fun hc => (?_ : AW _ _ _ _)) (fun hc => (?_ : AW _ _ _ _)) | simp (disch := omega) only [go_sem, seval, reduceCtorEq, ↓reduceIte, beq_dec, Int.toNat_natCast, IntKind.signed, IntKind.bits, getD_map (fun x : Int => [CD.I x]), List.length_map, maxLen] | (refine And.intro ?_ ?_; focus (first | (intros; omega) | (intros; simp_all; done))) | refine And.intro (?_ : CallAt _ _ _ _ _ _ _ _) ?_ | refine And.intro (?_ : CallAt _ _ _ _ _ _ _ _ ∧ _) ?_ | refine And.intro (?_ : AW _ _ _ _) ?_ | fail))
        · refine ⟨?_⟩
          have e : chC (chS ps l i) ++ [[]] = chC (chT (chS ps l i) (nth ps i)) := by unfold chT; rw [if_pos hc]; simp
          rw [e]
          generalize chT (chS ps l i) (nth ps i) = T at *
          have e3 : chC (chS ps l (i + 1)) = (chC T).set (nth ps i).toNat ((chC T).getD (nth ps i).toNat [] ++ [[CD.I (nth l i).side, CD.I (nth l i).num]]) := by rw [hsuc]; exact (chC_set T _ (nth l i)).symm
          have hTb : ((chC T).getD (nth ps i).toNat []).length ≤ i := by rw [chC_get, List.length_map]; exact hTb0
          have hTc : nth ps i < (T.length : Int) := by omega
          refine AW_out 900 901 (nth ps i).toNat (by rfl) (by simpa using hTl) ?_
          (repeat' (first | (with_reducible refine hold20b ?_; try simp (disch := omega) only [go_sem, seval, reduceCtorEq, ↓reduceIte, beq_dec, Int.toNat_natCast, IntKind.signed, IntKind.bits, getD_map Die.cd, Die.cd, List.length_map, maxLen]) | refine NextAt.mk (fun hc => ?_) (fun pre n v post hc hkey => ?_) | refine Sni.mk (fun hc => ?_) ?_ | refine Both.mk ?_ ?_ | refine AW_seq ?_ | refine AW_block ?_ | ((first | refine AW_reg ?_ | refine AW_cond ?_ | refine AW_skip ?_ | refine AW_exit ?_ | refine AW_ret ?_ | refine AW_regD (by kernel_rfl) ?_ | refine AW_regX (by kernel_rfl) ?_ | refine CallAtG.t (Eq.refl true) ?_ | refine CallAtG.f (Eq.refl false) ?_); try simp (disch := omega) only [go_sem, seval, reduceCtorEq, ↓reduceIte, beq_dec, Int.toNat_natCast, IntKind.signed, IntKind.bits, getD_map Die.cd, Die.cd, List.length_map, maxLen]) | refine And.intro (fun hc => (?_ : AW _ _ _ _)) (fun hc => (?_ : AW _ _ _ _)) | simp (disch := omega) only [go_sem, seval, reduceCtorEq, ↓reduceIte, beq_dec, Int.toNat_natCast, IntKind.signed, IntKind.bits, getD_map Die.cd, Die.cd, List.length_map, maxLen] | (refine And.intro ?_ ?_; focus (first | (intros; omega) | (intros; simp_all; done))) | refine And.intro (?_ : CallAt _ _ _ _ _ _ _ _) ?_ | refine And.intro (?_ : CallAt _ _ _ _ _ _ _ _ ∧ _) ?_ | refine And.intro (?_ : AW _ _ _ _) ?_ | fail))
          repeat' apply And.intro
          all_goals first | assumption | omega | skip
          all_goals (
            refine AW_inn 900 901 (nth ps i).toNat (by rfl) (by rfl) ?_
            (repeat' (first | refine NextAt.mk (fun hc => ?_) (fun pre n v post hc hkey => ?_) | refine Sni.mk (fun hc => ?_) ?_ | refine Both.mk ?_ ?_ | refine AW_seq ?_ | refine AW_block ?_ | ((first | refine AW_reg ?_ | refine AW_cond ?_ | refine AW_skip ?_ | refine AW_exit ?_ | refine AW_ret ?_ | refine AW_regD (by kernel_rfl) ?_ | refine AW_regX (by kernel_rfl) ?_ | refine CallAtG.t (Eq.refl true) ?_ | refine CallAtG.f (Eq.refl false) ?_); try simp (disch := omega) only [go_sem, seval, reduceCtorEq, ↓reduceIte, beq_dec, Int.toNat_natCast, IntKind.signed, IntKind.bits]) | refine And.intro (fun hc => (?_ : AW _ _ _ _)) (fun hc => (?_ : AW _ _ _ _)) | simp (disch := omega) only [go_sem, seval, reduceCtorEq, ↓reduceIte, beq_dec, Int.toNat_natCast, IntKind.signed, IntKind.bits] | (refine And.intro ?_ ?_; focus (first | (intros; omega) | (intros; simp_all; done))) | refine And.intro (?_ : CallAt _ _ _ _ _ _ _ _) ?_ | refine And.intro (?_ : CallAt _ _ _ _ _ _ _ _ ∧ _) ?_ | refine And.intro (?_ : AW _ _ _ _) ?_ | fail))
            refine .mk (i + 1) (by omega) (by omega) ?_
            rw [e3]
            simp (disch := omega) only [go_sem, seval, reduceCtorEq, ↓reduceIte, beq_dec, Int.toNat_natCast, IntKind.signed, IntKind.bits, Int.natCast_add, Int.natCast_one])
        · have e : chC (chS ps l i) = chC (chT (chS ps l i) (nth ps i)) := by unfold chT; rw [if_neg hc]
          refine ⟨?_⟩
          rw [e]
          generalize chT (chS ps l i) (nth ps i) = T at *
          have e3 : chC (chS ps l (i + 1)) = (chC T).set (nth ps i).toNat ((chC T).getD (nth ps i).toNat [] ++ [[CD.I (nth l i).side, CD.I (nth l i).num]]) := by rw [hsuc]; exact (chC_set T _ (nth l i)).symm
          have hTb : ((chC T).getD (nth ps i).toNat []).length ≤ i := by rw [chC_get, List.length_map]; exact hTb0
          have hTc : nth ps i < (T.length : Int) := by omega
          refine AW_out 900 901 (nth ps i).toNat (by rfl) (by simpa using hTl) ?_
          (repeat' (first | (with_reducible refine hold20b ?_; try simp (disch := omega) only [go_sem, seval, reduceCtorEq, ↓reduceIte, beq_dec, Int.toNat_natCast, IntKind.signed, IntKind.bits, getD_map Die.cd, Die.cd, List.length_map, maxLen]) | refine NextAt.mk (fun hc => ?_) (fun pre n v post hc hkey => ?_) | refine Sni.mk (fun hc => ?_) ?_ | refine Both.mk ?_ ?_ | refine AW_seq ?_ | refine AW_block ?_ | ((first | refine AW_reg ?_ | refine AW_cond ?_ | refine AW_skip ?_ | refine AW_exit ?_ | refine AW_ret ?_ | refine AW_regD (by kernel_rfl) ?_ | refine AW_regX (by kernel_rfl) ?_ | refine CallAtG.t (Eq.refl true) ?_ | refine CallAtG.f (Eq.refl false) ?_); try simp (disch := omega) only [go_sem, seval, reduceCtorEq, ↓reduceIte, beq_dec, Int.toNat_natCast, IntKind.signed, IntKind.bits, getD_map Die.cd, Die.cd, List.length_map, maxLen]) | refine And.intro (fun hc => (?_ : AW _ _ _ _)) (fun hc => (?_ : AW _ _ _ _)) | simp (disch := omega) only [go_sem, seval, reduceCtorEq, ↓reduceIte, beq_dec, Int.toNat_natCast, IntKind.signed, IntKind.bits, getD_map Die.cd, Die.cd, List.length_map, maxLen] | (refine And.intro ?_ ?_; focus (first | (intros; omega) | (intros; simp_all; done))) | refine And.intro (?_ : CallAt _ _ _ _ _ _ _ _) ?_ | refine And.intro (?_ : CallAt _ _ _ _ _ _ _ _ ∧ _) ?_ | refine And.intro (?_ : AW _ _ _ _) ?_ | fail))
          repeat' apply And.intro
          all_goals first | assumption | omega | skip
          all_goals (
            refine AW_inn 900 901 (nth ps i).toNat (by rfl) (by rfl) ?_
            (repeat' (first | refine NextAt.mk (fun hc => ?_) (fun pre n v post hc hkey => ?_) | refine Sni.mk (fun hc => ?_) ?_ | refine Both.mk ?_ ?_ | refine AW_seq ?_ | refine AW_block ?_ | ((first | refine AW_reg ?_ | refine AW_cond ?_ | refine AW_skip ?_ | refine AW_exit ?_ | refine AW_ret ?_ | refine AW_regD (by kernel_rfl) ?_ | refine AW_regX (by kernel_rfl) ?_ | refine CallAtG.t (Eq.refl true) ?_ | refine CallAtG.f (Eq.refl false) ?_); try simp (disch := omega) only [go_sem, seval, reduceCtorEq, ↓reduceIte, beq_dec, Int.toNat_natCast, IntKind.signed, IntKind.bits]) | refine And.intro (fun hc => (?_ : AW _ _ _ _)) (fun hc => (?_ : AW _ _ _ _)) | simp (disch := omega) only [go_sem, seval, reduceCtorEq, ↓reduceIte, beq_dec, Int.toNat_natCast, IntKind.signed, IntKind.bits] | (refine And.intro ?_ ?_; focus (first | (intros; omega) | (intros; simp_all; done))) | refine And.intro (?_ : CallAt _ _ _ _ _ _ _ _) ?_ | refine And.intro (?_ : CallAt _ _ _ _ _ _ _ _ ∧ _) ?_ | refine And.intro (?_ : AW _ _ _ _) ?_ | fail))
            refine .mk (i + 1) (by omega) (by omega) ?_
            rw [e3]
            simp (disch := omega) only [go_sem, seval, reduceCtorEq, ↓reduceIte, beq_dec, Int.toNat_natCast, IntKind.signed, IntKind.bits, Int.natCast_add, Int.natCast_one])
        · omega
      · have hie : i = l.length := by omega
        subst hie
        (repeat' (first | (with_reducible refine hold20c ?_; try simp (disch := omega) only [go_sem, seval, reduceCtorEq, ↓reduceIte, beq_dec, Int.toNat_natCast, IntKind.signed, IntKind.bits]) | refine NextAt.mk (fun hc => ?_) (fun pre n v post hc hkey => ?_) | refine Sni.mk (fun hc => ?_) ?_ | refine Both.mk ?_ ?_ | refine AW_seq ?_ | refine AW_block ?_ | ((first | refine AW_reg ?_ | refine AW_cond ?_ | refine AW_skip ?_ | refine AW_exit ?_ | refine AW_ret ?_ | refine AW_regD (by kernel_rfl) ?_ | refine AW_regX (by kernel_rfl) ?_ | refine CallAtG.t (Eq.refl true) ?_ | refine CallAtG.f (Eq.refl false) ?_); try simp (disch := omega) only [go_sem, seval, reduceCtorEq, ↓reduceIte, beq_dec, Int.toNat_natCast, IntKind.signed, IntKind.bits]) | refine And.intro (fun hc => (?_ : AW _ _ _ _)) (fun hc => (?_ : AW _ _ _ _)) | simp (disch := omega) only [go_sem, seval, reduceCtorEq, ↓reduceIte, beq_dec, Int.toNat_natCast, IntKind.signed, IntKind.bits] | (refine And.intro ?_ ?_; focus (first | (intros; omega) | (intros; simp_all; done))) | refine And.intro (?_ : CallAt _ _ _ _ _ _ _ _) ?_ | refine And.intro (?_ : CallAt _ _ _ _ _ _ _ _ ∧ _) ?_ | refine And.intro (?_ : AW _ _ _ _) ?_ | fail))
        · exact absurd hc (by omega)
        refine ⟨AW_frzR 900 (by rfl) ?_⟩
        (repeat' (first | refine NextAt.mk (fun hc => ?_) (fun pre n v post hc hkey => ?_) | refine Sni.mk (fun hc => ?_) ?_ | refine Both.mk ?_ ?_ | refine AW_seq ?_ | refine AW_block ?_ | ((first | refine AW_reg ?_ | refine AW_cond ?_ | refine AW_skip ?_ | refine AW_exit ?_ | refine AW_ret ?_ | refine AW_regD (by kernel_rfl) ?_ | refine AW_regX (by kernel_rfl) ?_ | refine CallAtG.t (Eq.refl true) ?_ | refine CallAtG.f (Eq.refl false) ?_); try simp (disch := omega) only [go_sem, seval, reduceCtorEq, ↓reduceIte, beq_dec, Int.toNat_natCast, IntKind.signed, IntKind.bits, St.frzR, rowsCD]) | refine And.intro (fun hc => (?_ : AW _ _ _ _)) (fun hc => (?_ : AW _ _ _ _)) | simp (disch := omega) only [go_sem, seval, reduceCtorEq, ↓reduceIte, beq_dec, Int.toNat_natCast, IntKind.signed, IntKind.bits, St.frzR, rowsCD] | (refine And.intro ?_ ?_; focus (first | (intros; omega) | (intros; simp_all; done))) | refine And.intro (?_ : CallAt _ _ _ _ _ _ _ _) ?_ | refine And.intro (?_ : CallAt _ _ _ _ _ _ _ _ ∧ _) ?_ | refine And.intro (?_ : AW _ _ _ _) ?_ | fail))
end Go.Proofs.Ytlomngideedobaa

-- P p_14.txt
open Go Go.AL Go.RowKit
namespace Go.Proofs.Ytlomngideedobaa
set_option maxRecDepth 20000
abbrev CL (s : List (List Die)) : CD := .sl 1 (s.map fun c => [DL c])
theorem rowsCD_chC (s : List (List Die)) : rowsCD 2 (chC s) = CL s := by
  unfold rowsCD
  rw [List.map_map]; rfl
/-- component.Loops, by Chains -/
theorem f21w (g : Gr) (s : List (List Die)) (g20 : FnR Try.prog 20 [g.av] [.c (CL s), .c (.I 0)]) (h : g.obv.length ≤ 32 ∧ g.rev.length ≤ 32 ∧ g.links.length ≤ 64) (hs : s.length ≤ 64) :
    FnR Try.prog 21 [g.av] [.c (.I ((g.links.length : Int) - g.obv.length - g.rev.length + s.length)), .c (.I 0)] := by
  refine fn_walk code21 (by simp) ?_
  (repeat' (first | refine NextAt.mk (fun hc => ?_) (fun pre n v post hc hkey => ?_) | refine Sni.mk (fun hc => ?_) ?_ | refine Both.mk ?_ ?_ | refine AW_seq ?_ | refine AW_block ?_ | ((first | refine AW_reg ?_ | refine AW_cond ?_ | refine AW_skip ?_ | refine AW_exit ?_ | refine AW_ret ?_ | refine AW_regD (by kernel_rfl) ?_ | refine AW_regX (by kernel_rfl) ?_ | refine CallAtG.t (Eq.refl true) ?_ | refine CallAtG.f (Eq.refl false) ?_ | refine CallAt.mk _ (g20 ..) (by first | (intro h; cases h; done) | (intro _; repeat' (first | exact List.forall_mem_nil _ | trivial | refine List.forall_mem_cons.2 ⟨?_, ?_⟩)) | (intro _; simp [RV.flatP, CD.flatP, List.length_map, inK]; done)) ?_ | refine CallAtG.mk _ (fun _ => g20 ..) ?_ | refine CallDS.mk _ (by simp [RV.data]) (fun _ => g20 ..) (by first | (intro h; cases h; done) | (intro _; repeat' (first | exact List.forall_mem_nil _ | trivial | refine List.forall_mem_cons.2 ⟨?_, ?_⟩)) | (intro _; simp [RV.flatP, CD.flatP, List.length_map, inK]; done)) ?_); try simp (disch := omega) only [go_sem, seval, reduceCtorEq, ↓reduceIte, beq_dec, Int.toNat_natCast, IntKind.signed, IntKind.bits, List.length_map, inK]) | refine And.intro (fun hc => (?_ : AW _ _ _ _)) (fun hc => (?_ : AW _ _ _ _)) | simp (disch := omega) only [go_sem, seval, reduceCtorEq, ↓reduceIte, beq_dec, Int.toNat_natCast, IntKind.signed, IntKind.bits, List.length_map, inK] | (refine And.intro ?_ ?_; focus (first | (intros; omega) | (intros; simp_all; done))) | refine And.intro (?_ : CallAt _ _ _ _ _ _ _ _) ?_ | refine And.intro (?_ : CallAt _ _ _ _ _ _ _ _ ∧ _) ?_ | refine And.intro (?_ : AW _ _ _ _) ?_ | fail))
end Go.Proofs.Ytlomngideedobaa

