/-
  Lemmas for the proof: no statement of its own.
-/
import Derived.Test.YtklkehlccjofoaaWalkF
set_option linter.unusedVariables false
set_option linter.unusedSimpArgs false
-- P p_12.txt
open Go Go.AL Go.RowKit Go.Shelf
namespace Go.Proofs.Ytklkehlccjofoaa
set_option maxRecDepth 20000
/-! ### tables of changes -/
abbrev CTab := List (Int × Chg)
def zC : Chg := ⟨0, 0, 0, false, false⟩
def chM (m : CTab) : List (List Int × Sum CD (List CD)) := m.map fun p => ([p.1], .inr p.2.cd)
def lookC : CTab → Int → Option Chg
  | [], _ => none
  | p :: r, k => if p.1 = k then some p.2 else lookC r k
def putC : CTab → Int → Chg → CTab
  | [], k, s => [(k, s)]
  | p :: r, k, s => if p.1 = k then (p.1, s) :: r else p :: putC r k s
def delC : CTab → Int → CTab
  | [], _ => []
  | p :: r, k => if p.1 = k then r else p :: delC r k
theorem chM_mlook (k : Int) : ∀ m : CTab, mlook (chM m) [k] = (lookC m k).map fun c => .inr c.cd
  | [] => rfl
  | p :: r => by
    have ih := chM_mlook k r
    simp only [chM, List.map_cons, mlook] at ih ⊢
    by_cases h : p.1 = k
    · have e : [k] = [p.1] := by rw [h]
      simp [lookC, h]
    · have hne : ¬ [k] = [p.1] := fun e => h (by simpa using e.symm)
      simp only [hne, if_false, ih, lookC, h]
theorem chM_look (m : CTab) (k : Int) : argAV ((mlook (chM m) [k]).getD (.inr [.sc (.int .i64 0), .sc (.int .i64 0), .sc (.int .i64 0), .sc (.bool false), .sc (.bool false)])) = ((lookC m k).getD zC).av := by
  rw [chM_mlook]
  cases lookC m k <;> rfl
theorem chM_is (m : CTab) (k : Int) : (mlook (chM m) [k]).isSome = (lookC m k).isSome := by
  rw [chM_mlook]
  cases lookC m k <;> rfl
theorem chM_put (k : Int) (s : Chg) : ∀ m : CTab, mset (chM m) [k] (.inr s.cd) = chM (putC m k s)
  | [] => rfl
  | p :: r => by
    have ih := chM_put k s r
    simp only [chM, List.map_cons, mset] at ih ⊢
    by_cases h : p.1 = k
    · simp [putC, h]
    · have hne : ¬ [k] = [p.1] := fun e => h (by simpa using e.symm)
      simp [hne, ih, putC, h]
theorem chM_del (k : Int) : ∀ m : CTab, mdel (chM m) [k] = chM (delC m k)
  | [] => rfl
  | p :: r => by
    have ih := chM_del k r
    simp only [chM, List.map_cons, mdel] at ih ⊢
    by_cases h : p.1 = k
    · simp [delC, h]
    · have hne : ¬ [k] = [p.1] := fun e => h (by simpa using e.symm)
      simp [hne, ih, delC, h]
theorem chM_keys (m : CTab) : keysI (chM m) = m.map Prod.fst := by
  unfold keysI chM; rw [List.map_map]; rfl
theorem chM_nd {m : CTab} (h : (m.map Prod.fst).Nodup) : ((chM m).map Prod.fst).Nodup := by
  unfold chM
  rw [List.map_map, List.nodup_iff_pairwise_ne, List.pairwise_map]
  rw [List.nodup_iff_pairwise_ne, List.pairwise_map] at h
  exact h.imp fun hne e => hne (by simpa using e)
theorem chM_len (m : CTab) : (chM m).length = m.length := by simp [chM]
theorem putC_keys (k : Int) (s : Chg) : ∀ m : CTab, (putC m k s).map Prod.fst = if k ∈ m.map Prod.fst then m.map Prod.fst else m.map Prod.fst ++ [k]
  | [] => rfl
  | p :: r => by
    have ih := putC_keys k s r
    unfold putC
    by_cases h : p.1 = k
    · simp [h]
    · have h' : ¬ k = p.1 := fun e => h e.symm
      simp only [h, if_false, List.map_cons, ih, List.mem_cons, h', false_or]
      split <;> simp
theorem putC_nd {m : CTab} (h : (m.map Prod.fst).Nodup) (k : Int) (s : Chg) : ((putC m k s).map Prod.fst).Nodup := by
  rw [putC_keys]
  split
  · exact h
  · rename_i hni
    rw [List.nodup_append]
    refine ⟨h, by simp, fun a ha b hb e => ?_⟩
    rw [List.mem_singleton] at hb
    subst hb e
    exact hni ha
theorem putC_len (m : CTab) (k : Int) (s : Chg) : (putC m k s).length ≤ m.length + 1 := by
  have := congrArg List.length (putC_keys k s m)
  rw [List.length_map] at this
  rw [this]
  split <;> simp
theorem delC_sub (k : Int) : ∀ m : CTab, (delC m k).Sublist m
  | [] => List.Sublist.refl _
  | p :: r => by
    unfold delC
    split
    · exact List.sublist_cons_self _ _
    · exact (delC_sub k r).cons_cons _
theorem delC_nd {m : CTab} (h : (m.map Prod.fst).Nodup) (k : Int) : ((delC m k).map Prod.fst).Nodup := h.sublist ((delC_sub k m).map _)
theorem lookC_none {m : CTab} {k : Int} (h : k ∉ m.map Prod.fst) : lookC m k = none := by
  induction m with
  | nil => rfl
  | cons p r ih =>
    simp only [List.map_cons, List.mem_cons, not_or] at h
    unfold lookC
    rw [if_neg fun e => h.1 e.symm]
    exact ih h.2
theorem lookC_is {m : CTab} {k : Int} : (lookC m k).isSome = true ↔ k ∈ m.map Prod.fst := by
  induction m with
  | nil => simp [lookC]
  | cons p r ih =>
    have e : lookC (p :: r) k = if p.1 = k then some p.2 else lookC r k := rfl
    rw [e, List.map_cons, List.mem_cons]
    by_cases h : p.1 = k
    · rw [if_pos h]; simp [h]
    · rw [if_neg h, ih]
      exact ⟨.inr, fun h' => h'.resolve_left fun e => h e.symm⟩
theorem lookC_put (m : CTab) (k : Int) (s : Chg) (x : Int) : lookC (putC m k s) x = if k = x then some s else lookC m x := by
  induction m with
  | nil => simp [putC, lookC]
  | cons p r ih =>
    unfold putC
    by_cases h : p.1 = k
    · rw [if_pos h]
      unfold lookC
      by_cases hx : k = x
      · rw [if_pos hx, if_pos (by rw [h, hx])]
      · rw [if_neg hx, if_neg (by rw [h]; exact hx), if_neg (by rw [h]; exact hx)]
    · rw [if_neg h]
      unfold lookC
      rw [ih]
      by_cases hp : p.1 = x
      · rw [if_pos hp, if_pos hp, if_neg]
        intro e; exact h (by rw [hp, e])
      · rw [if_neg hp, if_neg hp]
theorem lookC_del {m : CTab} (hn : (m.map Prod.fst).Nodup) (k x : Int) : lookC (delC m k) x = if k = x then none else lookC m x := by
  induction m with
  | nil => simp [delC, lookC]
  | cons p r ih =>
    rw [List.map_cons, List.nodup_cons] at hn
    unfold delC
    by_cases h : p.1 = k
    · rw [if_pos h]
      by_cases hx : k = x
      · rw [if_pos hx, lookC_none]
        rw [← hx, ← h]; exact hn.1
      · rw [if_neg hx]
        unfold lookC
        rw [if_neg (by rw [h]; exact hx)]
        cases r <;> rfl
    · rw [if_neg h]
      unfold lookC
      rw [ih hn.2]
      by_cases hp : p.1 = x
      · rw [if_pos hp, if_pos hp, if_neg]
        intro e; exact h (by rw [hp, e])
      · rw [if_neg hp, if_neg hp]
/-! ### composing -/
def chT (p : List Chg) : CTab := p.map fun c => (c.key, c)
theorem chT_look (p : List Chg) (k : Int) : lookC (chT p) k = getC p k := by
  induction p with
  | nil => rfl
  | cons c r ih =>
    have e : lookC (chT (c :: r)) k = if c.key = k then some c else lookC (chT r) k := rfl
    rw [e, ih, getC_cons]
theorem chT_keys (p : List Chg) : (chT p).map Prod.fst = p.map Chg.key := by
  unfold chT; rw [List.map_map]; rfl
theorem putC_new : ∀ {m : CTab} {k : Int} {s : Chg}, k ∉ m.map Prod.fst → putC m k s = m ++ [(k, s)]
  | [], k, s, _ => rfl
  | p :: r, k, s, h => by
    simp only [List.map_cons, List.mem_cons, not_or] at h
    have : ¬ p.1 = k := fun e => h.1 e.symm
    unfold putC
    rw [if_neg this, putC_new h.2]; rfl
theorem chT_succ {p : List Chg} (h : validC p = true) {i : Nat} (hi : i < p.length) : putC (chT (p.take i)) (nth p i).key (nth p i) = chT (p.take (i + 1)) := by
  rw [putC_new, List.take_succ_eq_append_getElem hi, nth_eq p i hi]
  · unfold chT; rw [List.map_append]; rfl
  · intro hm
    have h1 := getC_take h hi
    have h2 := lookC_is.2 hm
    rw [chT_look, h1] at h2
    cases h2
def stepC (m : CTab) (c : Chg) : CTab := match lookC m c.key with
  | none => putC m c.key c
  | some o => if o.bef = c.aft then delC m c.key else putC m c.key (mkC c.key o.bef c.aft)
def comT (p q : List Chg) : CTab := q.foldl stepC (chT p)
theorem comT_succ (p q : List Chg) (i : Nat) (h : i < q.length) : comT p (q.take (i + 1)) = stepC (comT p (q.take i)) (nth q i) := by
  rw [List.take_succ_eq_append_getElem h, nth_eq q i h]
  unfold comT
  rw [List.foldl_append]; rfl
theorem stepC_nd {m : CTab} (h : (m.map Prod.fst).Nodup) (c : Chg) : ((stepC m c).map Prod.fst).Nodup ∧ (stepC m c).length ≤ m.length + 1 := by
  unfold stepC
  split
  · exact ⟨putC_nd h _ _, putC_len _ _ _⟩
  · split
    · exact ⟨delC_nd h _, by have := (delC_sub c.key m).length_le; omega⟩
    · exact ⟨putC_nd h _ _, putC_len _ _ _⟩
theorem chT_nd {p : List Chg} (h : validC p = true) : ((chT p).map Prod.fst).Nodup := by
  rw [chT_keys, List.nodup_iff_pairwise_ne]
  exact (validC_pw h).imp fun h => by omega
theorem comT_nd {p : List Chg} (h : validC p = true) (q : List Chg) : ∀ i, i ≤ q.length → ((comT p (q.take i)).map Prod.fst).Nodup ∧ (comT p (q.take i)).length ≤ p.length + i := by
  intro i
  induction i with
  | zero => intro _; exact ⟨by simpa [comT] using chT_nd h, by simp [comT, chT]⟩
  | succ i ih =>
    intro hi
    have ⟨h1, h2⟩ := ih (by omega)
    have ⟨h3, h4⟩ := stepC_nd h1 (nth q i)
    rw [comT_succ p q i (by omega)]
    exact ⟨h3, by omega⟩
/-- the change of a key in the composed list -/
def comX (p q : List Chg) (k : Int) : Option Chg := match getC p k, getC q k with
  | o, none => o
  | none, some d => some d
  | some c, some d => if c.bef = d.aft then none else some (mkC k c.bef d.aft)
def okB (p : List Chg) (d : Chg) : Bool := match getC p d.key with
  | none => true
  | some c => decide (c.aft = d.bef)
def okC (p q : List Chg) : Bool := decide (∀ i, i < q.length → okB p (nth q i) = true)
def comK (p q : List Chg) : List Int := insAll (p.map Chg.key ++ q.map Chg.key)
def comO (p q : List Chg) : List Chg := (comK p q).flatMap fun k => (comX p q k).toList
def comE (p q : List Chg) : Int := if validC p && validC q then (if okC p q then (if 64 < (comO p q).length then 6 else 0) else 10) else 1
def comL (p q : List Chg) : List Chg := if comE p q ≠ 0 then [] else comO p q
theorem getC_key {l : List Chg} {k : Int} {c : Chg} (h : getC l k = some c) : c.key = k := by
  by_cases hk : k ∈ l.map Chg.key
  · obtain ⟨h1, h2, h3⟩ := getC_some hk
    rw [h1] at h
    cases h; exact h3
  · rw [getC_none hk] at h; cases h
theorem getC_take_succ {q : List Chg} {i : Nat} (hi : i < q.length) (k : Int) (hk : (nth q i).key ≠ k) : getC (q.take (i + 1)) k = getC (q.take i) k := by
  rw [List.take_succ_eq_append_getElem hi]
  rw [nth_eq q i hi] at hk
  generalize q.take i = l
  induction l with
  | nil => simp [getC, hk]
  | cons c r ih =>
    rw [List.cons_append, getC_cons, getC_cons, ih]
theorem getC_take_self {q : List Chg} (hq : validC q = true) {i : Nat} (hi : i < q.length) : getC (q.take (i + 1)) (nth q i).key = some (nth q i) := by
  have h := getC_take hq hi
  rw [List.take_succ_eq_append_getElem hi]
  rw [nth_eq q i hi] at h ⊢
  generalize q.take i = l at h
  induction l with
  | nil => simp [getC]
  | cons c r ih =>
    rw [getC_cons] at h
    rw [List.cons_append, getC_cons]
    by_cases hc : c.key = q[i].key
    · rw [if_pos hc] at h; cases h
    · rw [if_neg hc] at h ⊢; exact ih h
theorem comT_look {p q : List Chg} (hp : validC p = true) (hq : validC q = true) (k : Int) : ∀ i, i ≤ q.length → lookC (comT p (q.take i)) k = comX p (q.take i) k := by
  intro i
  induction i with
  | zero =>
    intro _
    rw [List.take_zero]
    show lookC (chT p) k = comX p [] k
    rw [chT_look]
    unfold comX
    have : getC [] k = none := rfl
    rw [this]
  | succ i ih =>
    intro hi
    have ih := ih (by omega)
    have hnd := (comT_nd hp q i (by omega)).1
    rw [comT_succ p q i (by omega)]
    by_cases hk : (nth q i).key = k
    · subst hk
      have h1 := getC_take hq (i := i) (by omega)
      have h2 := getC_take_self hq (i := i) (by omega)
      unfold comX at ih ⊢
      rw [h1] at ih
      rw [h2]
      unfold stepC
      rw [ih]
      cases getC p (nth q i).key with
      | none => simp only []; rw [lookC_put, if_pos rfl]
      | some o =>
        simp only []
        split
        · rw [lookC_del hnd, if_pos rfl]
        · rw [lookC_put, if_pos rfl]
    · have h1 := getC_take_succ (q := q) (i := i) (by omega) k hk
      have e : comX p (q.take (i + 1)) k = comX p (q.take i) k := by unfold comX; rw [h1]
      rw [e, ← ih]
      unfold stepC
      split
      · rw [lookC_put, if_neg hk]
      · split
        · rw [lookC_del hnd, if_neg hk]
        · rw [lookC_put, if_neg hk]
end Go.Proofs.Ytklkehlccjofoaa

-- P p_12.txt
open Go Go.AL Go.RowKit Go.Shelf
namespace Go.Proofs.Ytklkehlccjofoaa
set_option maxRecDepth 20000
def in29 (q : List Chg) (i : Nat) (es : List (List Int × Sum CD (List CD))) (o c : Chg) : St := ⟨101, [(38, .I i), (37, .I q.length), (36, .c (CL q)), (6, .own 24), (10, .ptr 10 0), (11, .ptr 11 0)], [(24, .map (.one .i64) es), (10, .box 51 [.c (.I c.key), .c (.I c.old), .c (.I c.new), .c (.B c.had), .c (.B c.has)]), (11, .box 51 [.I o.key, .I o.old, .I o.new, .B o.had, .B o.has])]⟩
def ou29 (q : List Chg) (i : Nat) (es : List (List Int × Sum CD (List CD))) (o c : Chg) : St := ⟨101, [(38, .I i), (37, .I q.length), (36, .c (CL q)), (6, .own 24)], [(24, .map (.one .i64) (mset es [c.key] (.inr [.I c.key, .I o.old, .I c.new, .B o.had, .B c.has])))]⟩
theorem h39 (c : Chg) : FnR Try.prog 39 [.agg [.I c.key, .I c.old, .I c.new, .B c.had, .B c.has]] [.agg [.I c.new, .B c.has]] := f39 c
theorem h40 (c : Chg) : FnR Try.prog 40 [.agg [.I c.key, .I c.old, .I c.new, .B c.had, .B c.has]] [.agg [.I c.old, .B c.had]] := f40 c
theorem h33 (k x y : Int) (a b : Bool) : FnR Try.prog 33 [.I k, .agg [.I x, .B a], .agg [.I y, .B b]] [.agg [.I k, .I x, .I y, .B a, .B b]] := f33 k ⟨x, a⟩ ⟨y, b⟩
set_option maxHeartbeats 16000000 in
theorem tree29 (q : List Chg) (i : Nat) (es : List (List Int × Sum CD (List CD))) (o c : Chg) : AW Try.prog c29_34 (cutQ (ou29 q i es o c)) (in29 q i es o c) := by
  unfold in29 ou29
  have g1 := h39 c
  have g2 := h40 o
  have g3 := h33 c.key o.old c.new o.had c.has
  (repeat' (first | refine NextAt.mk (fun hc => ?_) (fun pre n v post hc hkey => ?_) | refine Sni.mk (fun hc => ?_) ?_ | refine AW_seq ?_ | refine AW_block ?_ | ((first | refine AW_reg ?_ | refine AW_cond ?_ | refine AW_skip ?_ | refine AW_exit ?_ | refine AW_ret ?_ | refine AW_regD (by kernel_rfl) ?_ | refine AW_regX (by kernel_rfl) ?_ | refine CallAtG.t (Eq.refl true) ?_ | refine CallAtG.f (Eq.refl false) ?_ | refine CallAt.mk _ (g1 ..) (by first | (intro h; cases h; done) | (intro _; repeat' (first | exact List.forall_mem_nil _ | trivial | refine List.forall_mem_cons.2 ⟨?_, ?_⟩)) | (intro _; simp [RV.flatP, CD.flatP]; done)) ?_ | refine CallAtG.mk _ (fun _ => g1 ..) ?_ | refine CallDS.mk _ (by simp [RV.data]) (fun _ => g1 ..) (by first | (intro h; cases h; done) | (intro _; repeat' (first | exact List.forall_mem_nil _ | trivial | refine List.forall_mem_cons.2 ⟨?_, ?_⟩)) | (intro _; simp [RV.flatP, CD.flatP]; done)) ?_ | refine CallAt.mk _ (g2 ..) (by first | (intro h; cases h; done) | (intro _; repeat' (first | exact List.forall_mem_nil _ | trivial | refine List.forall_mem_cons.2 ⟨?_, ?_⟩)) | (intro _; simp [RV.flatP, CD.flatP]; done)) ?_ | refine CallAtG.mk _ (fun _ => g2 ..) ?_ | refine CallDS.mk _ (by simp [RV.data]) (fun _ => g2 ..) (by first | (intro h; cases h; done) | (intro _; repeat' (first | exact List.forall_mem_nil _ | trivial | refine List.forall_mem_cons.2 ⟨?_, ?_⟩)) | (intro _; simp [RV.flatP, CD.flatP]; done)) ?_ | refine CallAt.mk _ (g3 ..) (by first | (intro h; cases h; done) | (intro _; repeat' (first | exact List.forall_mem_nil _ | trivial | refine List.forall_mem_cons.2 ⟨?_, ?_⟩)) | (intro _; simp [RV.flatP, CD.flatP]; done)) ?_ | refine CallAtG.mk _ (fun _ => g3 ..) ?_ | refine CallDS.mk _ (by simp [RV.data]) (fun _ => g3 ..) (by first | (intro h; cases h; done) | (intro _; repeat' (first | exact List.forall_mem_nil _ | trivial | refine List.forall_mem_cons.2 ⟨?_, ?_⟩)) | (intro _; simp [RV.flatP, CD.flatP]; done)) ?_); try simp (maxSteps := 5000000) (disch := omega) only [go_sem, Nat.reduceLT, Nat.reduceAdd, Nat.reduceSub, Nat.reduceMul, Nat.reduceMod, Nat.reduceDiv, Nat.reduceBEq, Nat.reduceEqDiff, Nat.reduceLeDiff, reduceCtorEq, ↓reduceIte, beq_dec, Int.reduceToNat, Int.reduceLT, Int.reduceLE, Int.reduceAdd, Int.reduceSub, Int.reduceMul, Int.reduceEq, Int.reduceNeg, Int.reduceNe, Int.toNat_natCast, IntKind.signed, IntKind.bits, Int.reducePow, Nat.reducePow]) | refine And.intro (fun hc => (?_ : AW _ _ _ _)) (fun hc => (?_ : AW _ _ _ _)) | simp (maxSteps := 5000000) (disch := omega) only [go_sem, Nat.reduceLT, Nat.reduceAdd, Nat.reduceSub, Nat.reduceMul, Nat.reduceMod, Nat.reduceDiv, Nat.reduceBEq, Nat.reduceEqDiff, Nat.reduceLeDiff, reduceCtorEq, ↓reduceIte, beq_dec, Int.reduceToNat, Int.reduceLT, Int.reduceLE, Int.reduceAdd, Int.reduceSub, Int.reduceMul, Int.reduceEq, Int.reduceNeg, Int.reduceNe, Int.toNat_natCast, IntKind.signed, IntKind.bits, Int.reducePow, Nat.reducePow] | (refine And.intro ?_ ?_; focus (first | (intros; omega) | (intros; simp_all; done))) | refine And.intro (?_ : CallAt _ _ _ _ _ _ _ _) ?_ | refine And.intro (?_ : CallAt _ _ _ _ _ _ _ _ ∧ _) ?_ | refine And.intro (?_ : _ ∧ _) ?_ | fail))
theorem x29 (q : List Chg) (i : Nat) (es : List (List Int × Sum CD (List CD))) (o c : Chg) {Q : Exit → St → Prop} {σ : St} (h : σ.le (in29 q i es o c) ∧ Q .normal (ou29 q i es o c)) (hq : MonoQ Q := by repeat first | exact MonoQ.seq | refine MonoQ.block ?_) : AW Try.prog c29_34 Q σ :=
  AW_le _ h.1 (AW_mono (tree29 q i es o c) fun e σ' hl => by
    cases e with
    | normal => exact hq σ' _ hl h.2
    | _ => exact hl.elim)
theorem insAll_len {l : List Int} (h : l.Nodup) : (insAll l).length = l.length := Nat.le_antisymm insAll_nodup_len (nodup_len h fun x hx => (insAll_mem l x).2 hx)
theorem flat_filter (f : Int → Option Chg) (K : List Int) : K.flatMap (fun k => (f k).toList) = (K.filter fun k => (f k).isSome).map fun k => (f k).getD zC := by
  induction K with
  | nil => rfl
  | cons k r ih =>
    rw [List.flatMap_cons, ih, List.filter_cons]
    cases hf : f k with
    | none => rw [if_neg (by simp)]; rfl
    | some c => rw [if_pos (by simp), List.map_cons, hf]; rfl
theorem comX_mem {p q : List Chg} {k : Int} (h : (comX p q k).isSome = true) : k ∈ comK p q := by
  unfold comK
  rw [insAll_mem, List.mem_append]
  by_cases h1 : k ∈ p.map Chg.key
  · exact .inl h1
  · by_cases h2 : k ∈ q.map Chg.key
    · exact .inr h2
    · unfold comX at h
      rw [getC_none h1, getC_none h2] at h
      cases h
theorem comT_all {p q : List Chg} (hp : validC p = true) (hq : validC q = true) (k : Int) : lookC (comT p q) k = comX p q k := by
  have := comT_look hp hq k q.length (Nat.le_refl _)
  rwa [List.take_length] at this
theorem comT_nd' {p : List Chg} (hp : validC p = true) (q : List Chg) : ((comT p q).map Prod.fst).Nodup ∧ (comT p q).length ≤ p.length + q.length := by
  have := comT_nd hp q q.length (Nat.le_refl _)
  rwa [List.take_length] at this
theorem comO_eq {p q : List Chg} (hp : validC p = true) (hq : validC q = true) : comO p q = (insAll ((comT p q).map Prod.fst)).map fun k => (lookC (comT p q) k).getD zC := by
  have hf : comX p q = lookC (comT p q) := funext fun k => (comT_all hp hq k).symm
  have hK : insAll ((comT p q).map Prod.fst) = (comK p q).filter fun k => (lookC (comT p q) k).isSome := by
    refine pw_ext (insAll_pw _) ((insAll_pw _).sublist List.filter_sublist) fun x => ?_
    rw [insAll_mem, List.mem_filter, lookC_is]
    refine ⟨fun h => ⟨?_, h⟩, fun h => h.2⟩
    have h' := lookC_is.2 h
    rw [comT_all hp hq] at h'
    exact comX_mem h'
  rw [hK]
  unfold comO
  rw [hf]
  exact flat_filter _ _
theorem comO_len {p q : List Chg} (hp : validC p = true) (hq : validC q = true) : (comO p q).length = (comT p q).length := by
  rw [comO_eq hp hq, List.length_map, insAll_len (comT_nd' hp q).1, List.length_map]
def gotL (M : CTab) (K : List Int) : List Chg := K.map fun k => (lookC M k).getD zC
theorem gotL_succ (M : CTab) (K : List Int) (i : Nat) (h : i < K.length) : gotL M (K.take (i + 1)) = gotL M (K.take i) ++ [(lookC M (nth K i)).getD zC] := by
  rw [List.take_succ_eq_append_getElem h, nth_eq K i h]
  unfold gotL
  rw [List.map_append]; rfl
set_option maxHeartbeats 8000000 in
theorem f29 (p q : List Chg) : FnR Try.prog 29 [.c (CL p), .c (CL q)] [.own 51 5 ((comL p q).map Chg.cd), .c (.I (comE p q))] := by
  by_cases hv : validC p = true ∧ validC q = true
  · obtain ⟨hp, hqv⟩ := hv
    have hpl := validC_len hp
    have hql := validC_len hqv
    have hE : comE p q = if okC p q then (if 64 < (comO p q).length then 6 else 0) else 10 := by unfold comE; rw [if_pos (by simp [hp, hqv])]
    refine fn_walk code29 (by simp) ?_
    (repeat' (first | refine NextAt.mk (fun hc => ?_) (fun pre n v post hc hkey => ?_) | refine Sni.mk (fun hc => ?_) ?_ | refine AW_seq ?_ | refine AW_block ?_ | ((first | refine AW_reg ?_ | refine AW_cond ?_ | refine AW_skip ?_ | refine AW_exit ?_ | refine AW_ret ?_ | refine AW_regD (by kernel_rfl) ?_ | refine AW_regX (by kernel_rfl) ?_ | refine CallAtG.t (Eq.refl true) ?_ | refine CallAtG.f (Eq.refl false) ?_ | refine CallAt.mk _ (f25 ..) (by first | (intro h; cases h; done) | (intro _; repeat' (first | exact List.forall_mem_nil _ | trivial | refine List.forall_mem_cons.2 ⟨?_, ?_⟩)) | (intro _; simp [RV.flatP, CD.flatP, hp, hqv]; done)) ?_ | refine CallAtG.mk _ (fun _ => f25 ..) ?_ | refine CallDS.mk _ (by simp [RV.data]) (fun _ => f25 ..) (by first | (intro h; cases h; done) | (intro _; repeat' (first | exact List.forall_mem_nil _ | trivial | refine List.forall_mem_cons.2 ⟨?_, ?_⟩)) | (intro _; simp [RV.flatP, CD.flatP, hp, hqv]; done)) ?_); try simp (disch := omega) only [go_sem, Nat.reduceLT, Nat.reduceAdd, Nat.reduceSub, Nat.reduceMul, Nat.reduceMod, Nat.reduceDiv, Nat.reduceBEq, Nat.reduceEqDiff, Nat.reduceLeDiff, reduceCtorEq, ↓reduceIte, beq_dec, Int.reduceToNat, Int.reduceLT, Int.reduceLE, Int.reduceAdd, Int.reduceSub, Int.reduceMul, Int.reduceEq, Int.reduceNeg, Int.reduceNe, Int.toNat_natCast, IntKind.signed, IntKind.bits, Int.reducePow, Nat.reducePow, hp, hqv]) | refine And.intro (fun hc => (?_ : AW _ _ _ _)) (fun hc => (?_ : AW _ _ _ _)) | simp (disch := omega) only [go_sem, Nat.reduceLT, Nat.reduceAdd, Nat.reduceSub, Nat.reduceMul, Nat.reduceMod, Nat.reduceDiv, Nat.reduceBEq, Nat.reduceEqDiff, Nat.reduceLeDiff, reduceCtorEq, ↓reduceIte, beq_dec, Int.reduceToNat, Int.reduceLT, Int.reduceLE, Int.reduceAdd, Int.reduceSub, Int.reduceMul, Int.reduceEq, Int.reduceNeg, Int.reduceNe, Int.toNat_natCast, IntKind.signed, IntKind.bits, Int.reducePow, Nat.reducePow, hp, hqv] | (refine And.intro ?_ ?_; focus (first | (intros; omega) | (intros; simp_all; done))) | refine And.intro (?_ : CallAt _ _ _ _ _ _ _ _) ?_ | refine And.intro (?_ : CallAt _ _ _ _ _ _ _ _ ∧ _) ?_ | fail))
    refine AW_loopK [1, 6, 25, 26] [8, 27, 28, 29, 30, 31, 32, 33, 34, 35] (fun i : Nat => i ≤ p.length) (fun i => [(27, .I i)]) (fun i => [(24, .map (.one .i64) (chM (chT (p.take i))))]) (fun i => p.length - i) 0 (by omega) ?_ ?_
    · simp (disch := omega) only [go_sem, Nat.reduceLT, Nat.reduceAdd, Nat.reduceSub, Nat.reduceMul, Nat.reduceMod, Nat.reduceDiv, Nat.reduceBEq, Nat.reduceEqDiff, Nat.reduceLeDiff, reduceCtorEq, ↓reduceIte, beq_dec, Int.reduceToNat, Int.reduceLT, Int.reduceLE, Int.reduceAdd, Int.reduceSub, Int.reduceMul, Int.reduceEq, Int.reduceNeg, Int.reduceNe, Int.toNat_natCast, IntKind.signed, IntKind.bits, Int.reducePow, Nat.reducePow, Int.natCast_zero, List.take_zero, chT, List.map_nil, chM]
    · intro i hi
      (repeat' (first | refine NextAt.mk (fun hc => ?_) (fun pre n v post hc hkey => ?_) | refine Sni.mk (fun hc => ?_) ?_ | refine AW_seq ?_ | refine AW_block ?_ | ((first | refine AW_reg ?_ | refine AW_cond ?_ | refine AW_skip ?_ | refine AW_exit ?_ | refine AW_ret ?_ | refine AW_regD (by kernel_rfl) ?_ | refine AW_regX (by kernel_rfl) ?_ | refine CallAtG.t (Eq.refl true) ?_ | refine CallAtG.f (Eq.refl false) ?_); try simp (disch := omega) only [go_sem, Nat.reduceLT, Nat.reduceAdd, Nat.reduceSub, Nat.reduceMul, Nat.reduceMod, Nat.reduceDiv, Nat.reduceBEq, Nat.reduceEqDiff, Nat.reduceLeDiff, reduceCtorEq, ↓reduceIte, beq_dec, Int.reduceToNat, Int.reduceLT, Int.reduceLE, Int.reduceAdd, Int.reduceSub, Int.reduceMul, Int.reduceEq, Int.reduceNeg, Int.reduceNe, Int.toNat_natCast, IntKind.signed, IntKind.bits, Int.reducePow, Nat.reducePow, getD_map Chg.cd, Chg.cd, List.map_cons, List.map_nil]) | refine And.intro (fun hc => (?_ : AW _ _ _ _)) (fun hc => (?_ : AW _ _ _ _)) | simp (disch := omega) only [go_sem, Nat.reduceLT, Nat.reduceAdd, Nat.reduceSub, Nat.reduceMul, Nat.reduceMod, Nat.reduceDiv, Nat.reduceBEq, Nat.reduceEqDiff, Nat.reduceLeDiff, reduceCtorEq, ↓reduceIte, beq_dec, Int.reduceToNat, Int.reduceLT, Int.reduceLE, Int.reduceAdd, Int.reduceSub, Int.reduceMul, Int.reduceEq, Int.reduceNeg, Int.reduceNe, Int.toNat_natCast, IntKind.signed, IntKind.bits, Int.reducePow, Nat.reducePow, getD_map Chg.cd, Chg.cd, List.map_cons, List.map_nil] | (refine And.intro ?_ ?_; focus (first | (intros; omega) | (intros; simp_all; done))) | refine And.intro (?_ : CallAt _ _ _ _ _ _ _ _) ?_ | refine And.intro (?_ : CallAt _ _ _ _ _ _ _ _ ∧ _) ?_ | fail))
      · refine .mk (i + 1) (by omega) (by omega) ?_
        have e := chM_put (nth p i).key (nth p i) (chT (p.take i))
        rw [chT_succ hp (by omega)] at e
        simp only [Chg.cd] at e
        simp (disch := omega) only [go_sem, Nat.reduceLT, Nat.reduceAdd, Nat.reduceSub, Nat.reduceMul, Nat.reduceMod, Nat.reduceDiv, Nat.reduceBEq, Nat.reduceEqDiff, Nat.reduceLeDiff, reduceCtorEq, ↓reduceIte, beq_dec, Int.reduceToNat, Int.reduceLT, Int.reduceLE, Int.reduceAdd, Int.reduceSub, Int.reduceMul, Int.reduceEq, Int.reduceNeg, Int.reduceNe, Int.toNat_natCast, IntKind.signed, IntKind.bits, Int.reducePow, Nat.reducePow, Int.natCast_add, Int.natCast_one, e]
      · have hil : i = p.length := by omega
        rw [hil, List.take_length]
        refine AW_loopK [6, 36, 37] [4, 5, 10, 11, 12, 38, 39, 40, 41, 42, 43, 44, 45, 46, 47, 48, 49, 50, 51, 52, 53, 54, 55, 56, 57, 58, 59, 60, 61, 62, 63, 64, 65, 66, 67, 68, 69, 70, 71, 72, 73, 74, 75, 76, 77, 78, 79, 80, 81] (fun i : Nat => i ≤ q.length ∧ ∀ j, j < i → okB p (nth q j) = true) (fun i => [(38, .I i)]) (fun i => [(24, .map (.one .i64) (chM (comT p (q.take i))))]) (fun i => q.length - i) 0 ⟨by omega, by omega⟩ ?_ ?_
        · simp (disch := omega) only [go_sem, Nat.reduceLT, Nat.reduceAdd, Nat.reduceSub, Nat.reduceMul, Nat.reduceMod, Nat.reduceDiv, Nat.reduceBEq, Nat.reduceEqDiff, Nat.reduceLeDiff, reduceCtorEq, ↓reduceIte, beq_dec, Int.reduceToNat, Int.reduceLT, Int.reduceLE, Int.reduceAdd, Int.reduceSub, Int.reduceMul, Int.reduceEq, Int.reduceNeg, Int.reduceNe, Int.toNat_natCast, IntKind.signed, IntKind.bits, Int.reducePow, Nat.reducePow, Int.natCast_zero, List.take_zero, comT, List.foldl_nil]
        · rintro i ⟨hi, hb⟩
          have hlk := comT_look hp hqv (nth q i).key i hi
          have hgn := fun h : i < q.length => getC_take hqv h
          have e1 := chM_look (comT p (q.take i)) (nth q i).key
          have e2 := chM_is (comT p (q.take i)) (nth q i).key
          have e3 := chM_put (nth q i).key (nth q i) (comT p (q.take i))
          have e4 := chM_del (nth q i).key (comT p (q.take i))
          simp only [Chg.cd] at e3
          have g39 := f39 (nth q i)
          have g40 := f40 (nth q i)
          have g33 := fun a b => f33 (nth q i).key a b
          simp only [Sd.av, Chg.av, Chg.aft, Chg.bef, Sd.cd, Chg.cd, List.map_cons, List.map_nil] at g39 g40
          by_cases hlt : (i : Int) < (q.length : Int)
          · have hcX : comX p (q.take i) (nth q i).key = getC p (nth q i).key := by
              unfold comX
              rw [hgn (by omega)]
            rw [hcX] at hlk
            cases hL : lookC (comT p (q.take i)) (nth q i).key with
            | none =>
              rw [hL] at e1 e2 hlk
              simp only [Option.getD_none, Option.isSome_none] at e1 e2
              (repeat' (first | refine NextAt.mk (fun hc => ?_) (fun pre n v post hc hkey => ?_) | refine Sni.mk (fun hc => ?_) ?_ | refine AW_seq ?_ | refine AW_block ?_ | ((first | refine AW_reg ?_ | refine AW_cond ?_ | refine AW_skip ?_ | refine AW_exit ?_ | refine AW_ret ?_ | refine AW_regD (by kernel_rfl) ?_ | refine AW_regX (by kernel_rfl) ?_ | refine CallAtG.t (Eq.refl true) ?_ | refine CallAtG.f (Eq.refl false) ?_); try simp (disch := omega) only [go_sem, Nat.reduceLT, Nat.reduceAdd, Nat.reduceSub, Nat.reduceMul, Nat.reduceMod, Nat.reduceDiv, Nat.reduceBEq, Nat.reduceEqDiff, Nat.reduceLeDiff, reduceCtorEq, ↓reduceIte, beq_dec, Int.reduceToNat, Int.reduceLT, Int.reduceLE, Int.reduceAdd, Int.reduceSub, Int.reduceMul, Int.reduceEq, Int.reduceNeg, Int.reduceNe, Int.toNat_natCast, IntKind.signed, IntKind.bits, Int.reducePow, Nat.reducePow, getD_map Chg.cd, Chg.cd, List.map_cons, List.map_nil, e1, e2, Chg.av, zC, hlt, decide_true]) | refine And.intro (fun hc => (?_ : AW _ _ _ _)) (fun hc => (?_ : AW _ _ _ _)) | simp (disch := omega) only [go_sem, Nat.reduceLT, Nat.reduceAdd, Nat.reduceSub, Nat.reduceMul, Nat.reduceMod, Nat.reduceDiv, Nat.reduceBEq, Nat.reduceEqDiff, Nat.reduceLeDiff, reduceCtorEq, ↓reduceIte, beq_dec, Int.reduceToNat, Int.reduceLT, Int.reduceLE, Int.reduceAdd, Int.reduceSub, Int.reduceMul, Int.reduceEq, Int.reduceNeg, Int.reduceNe, Int.toNat_natCast, IntKind.signed, IntKind.bits, Int.reducePow, Nat.reducePow, getD_map Chg.cd, Chg.cd, List.map_cons, List.map_nil, e1, e2, Chg.av, zC, hlt, decide_true] | (refine And.intro ?_ ?_; focus (first | (intros; omega) | (intros; simp_all; done))) | refine And.intro (?_ : CallAt _ _ _ _ _ _ _ _) ?_ | refine And.intro (?_ : CallAt _ _ _ _ _ _ _ _ ∧ _) ?_ | fail))
              refine .mk (i + 1) ⟨by omega, step_lt hb (by unfold okB; rw [← hlk])⟩ (by omega) ?_
              rw [comT_succ p q i (by omega)]
              unfold stepC
              rw [hL]
              simp (disch := omega) only [go_sem, Nat.reduceLT, Nat.reduceAdd, Nat.reduceSub, Nat.reduceMul, Nat.reduceMod, Nat.reduceDiv, Nat.reduceBEq, Nat.reduceEqDiff, Nat.reduceLeDiff, reduceCtorEq, ↓reduceIte, beq_dec, Int.reduceToNat, Int.reduceLT, Int.reduceLE, Int.reduceAdd, Int.reduceSub, Int.reduceMul, Int.reduceEq, Int.reduceNeg, Int.reduceNe, Int.toNat_natCast, IntKind.signed, IntKind.bits, Int.reducePow, Nat.reducePow, Int.natCast_add, Int.natCast_one, e3]
            | some o =>
              rw [hL] at e1 e2 hlk
              simp only [Option.getD_some, Option.isSome_some] at e1 e2
              have h39 := f39 o
              have h40 := f40 o
              simp only [Sd.av, Chg.av, Chg.aft, Chg.bef, Sd.cd, Chg.cd, List.map_cons, List.map_nil] at h39 h40
              have g33 := f33 (nth q i).key ⟨o.old, o.had⟩ ⟨(nth q i).new, (nth q i).has⟩
              have e5 := chM_put (nth q i).key (mkC (nth q i).key o.bef (nth q i).aft) (comT p (q.take i))
              simp only [Chg.cd, mkC, Chg.bef, Chg.aft] at e5
              simp only [Sd.av, Chg.cd, mkC] at g33
              have tx := @x29 q i (chM (comT p (q.take i))) o (nth q i)
              (repeat' (first | (with_reducible refine tx ?_; try simp (disch := omega) only [go_sem, Nat.reduceLT, Nat.reduceAdd, Nat.reduceSub, Nat.reduceMul, Nat.reduceMod, Nat.reduceDiv, Nat.reduceBEq, Nat.reduceEqDiff, Nat.reduceLeDiff, reduceCtorEq, ↓reduceIte, beq_dec, Int.reduceToNat, Int.reduceLT, Int.reduceLE, Int.reduceAdd, Int.reduceSub, Int.reduceMul, Int.reduceEq, Int.reduceNeg, Int.reduceNe, Int.toNat_natCast, IntKind.signed, IntKind.bits, Int.reducePow, Nat.reducePow, getD_map Chg.cd, Chg.cd, in29, ou29, St.le, St.le1, St.le2, List.map_cons, List.map_nil, e1, e2, e5, mkC, Chg.bef, Chg.aft, Chg.av, hlt, decide_true]) | refine NextAt.mk (fun hc => ?_) (fun pre n v post hc hkey => ?_) | refine Sni.mk (fun hc => ?_) ?_ | refine AW_seq ?_ | refine AW_block ?_ | ((first | refine AW_reg ?_ | refine AW_cond ?_ | refine AW_skip ?_ | refine AW_exit ?_ | refine AW_ret ?_ | refine AW_regD (by kernel_rfl) ?_ | refine AW_regX (by kernel_rfl) ?_ | refine CallAtG.t (Eq.refl true) ?_ | refine CallAtG.f (Eq.refl false) ?_ | refine CallAt.mk _ (g39 ..) (by first | (intro h; cases h; done) | (intro _; repeat' (first | exact List.forall_mem_nil _ | trivial | refine List.forall_mem_cons.2 ⟨?_, ?_⟩)) | (intro _; simp [RV.flatP, CD.flatP, getD_map Chg.cd, Chg.cd, in29, ou29, St.le, St.le1, St.le2, List.map_cons, List.map_nil, e1, e2, e5, mkC, Chg.bef, Chg.aft, Chg.av, hlt, decide_true]; done)) ?_ | refine CallAtG.mk _ (fun _ => g39 ..) ?_ | refine CallDS.mk _ (by simp [RV.data]) (fun _ => g39 ..) (by first | (intro h; cases h; done) | (intro _; repeat' (first | exact List.forall_mem_nil _ | trivial | refine List.forall_mem_cons.2 ⟨?_, ?_⟩)) | (intro _; simp [RV.flatP, CD.flatP, getD_map Chg.cd, Chg.cd, in29, ou29, St.le, St.le1, St.le2, List.map_cons, List.map_nil, e1, e2, e5, mkC, Chg.bef, Chg.aft, Chg.av, hlt, decide_true]; done)) ?_ | refine CallAt.mk _ (g40 ..) (by first | (intro h; cases h; done) | (intro _; repeat' (first | exact List.forall_mem_nil _ | trivial | refine List.forall_mem_cons.2 ⟨?_, ?_⟩)) | (intro _; simp [RV.flatP, CD.flatP, getD_map Chg.cd, Chg.cd, in29, ou29, St.le, St.le1, St.le2, List.map_cons, List.map_nil, e1, e2, e5, mkC, Chg.bef, Chg.aft, Chg.av, hlt, decide_true]; done)) ?_ | refine CallAtG.mk _ (fun _ => g40 ..) ?_ | refine CallDS.mk _ (by simp [RV.data]) (fun _ => g40 ..) (by first | (intro h; cases h; done) | (intro _; repeat' (first | exact List.forall_mem_nil _ | trivial | refine List.forall_mem_cons.2 ⟨?_, ?_⟩)) | (intro _; simp [RV.flatP, CD.flatP, getD_map Chg.cd, Chg.cd, in29, ou29, St.le, St.le1, St.le2, List.map_cons, List.map_nil, e1, e2, e5, mkC, Chg.bef, Chg.aft, Chg.av, hlt, decide_true]; done)) ?_ | refine CallAt.mk _ (h39 ..) (by first | (intro h; cases h; done) | (intro _; repeat' (first | exact List.forall_mem_nil _ | trivial | refine List.forall_mem_cons.2 ⟨?_, ?_⟩)) | (intro _; simp [RV.flatP, CD.flatP, getD_map Chg.cd, Chg.cd, in29, ou29, St.le, St.le1, St.le2, List.map_cons, List.map_nil, e1, e2, e5, mkC, Chg.bef, Chg.aft, Chg.av, hlt, decide_true]; done)) ?_ | refine CallAtG.mk _ (fun _ => h39 ..) ?_ | refine CallDS.mk _ (by simp [RV.data]) (fun _ => h39 ..) (by first | (intro h; cases h; done) | (intro _; repeat' (first | exact List.forall_mem_nil _ | trivial | refine List.forall_mem_cons.2 ⟨?_, ?_⟩)) | (intro _; simp [RV.flatP, CD.flatP, getD_map Chg.cd, Chg.cd, in29, ou29, St.le, St.le1, St.le2, List.map_cons, List.map_nil, e1, e2, e5, mkC, Chg.bef, Chg.aft, Chg.av, hlt, decide_true]; done)) ?_ | refine CallAt.mk _ (h40 ..) (by first | (intro h; cases h; done) | (intro _; repeat' (first | exact List.forall_mem_nil _ | trivial | refine List.forall_mem_cons.2 ⟨?_, ?_⟩)) | (intro _; simp [RV.flatP, CD.flatP, getD_map Chg.cd, Chg.cd, in29, ou29, St.le, St.le1, St.le2, List.map_cons, List.map_nil, e1, e2, e5, mkC, Chg.bef, Chg.aft, Chg.av, hlt, decide_true]; done)) ?_ | refine CallAtG.mk _ (fun _ => h40 ..) ?_ | refine CallDS.mk _ (by simp [RV.data]) (fun _ => h40 ..) (by first | (intro h; cases h; done) | (intro _; repeat' (first | exact List.forall_mem_nil _ | trivial | refine List.forall_mem_cons.2 ⟨?_, ?_⟩)) | (intro _; simp [RV.flatP, CD.flatP, getD_map Chg.cd, Chg.cd, in29, ou29, St.le, St.le1, St.le2, List.map_cons, List.map_nil, e1, e2, e5, mkC, Chg.bef, Chg.aft, Chg.av, hlt, decide_true]; done)) ?_ | refine CallAt.mk _ (g33 ..) (by first | (intro h; cases h; done) | (intro _; repeat' (first | exact List.forall_mem_nil _ | trivial | refine List.forall_mem_cons.2 ⟨?_, ?_⟩)) | (intro _; simp [RV.flatP, CD.flatP, getD_map Chg.cd, Chg.cd, in29, ou29, St.le, St.le1, St.le2, List.map_cons, List.map_nil, e1, e2, e5, mkC, Chg.bef, Chg.aft, Chg.av, hlt, decide_true]; done)) ?_ | refine CallAtG.mk _ (fun _ => g33 ..) ?_ | refine CallDS.mk _ (by simp [RV.data]) (fun _ => g33 ..) (by first | (intro h; cases h; done) | (intro _; repeat' (first | exact List.forall_mem_nil _ | trivial | refine List.forall_mem_cons.2 ⟨?_, ?_⟩)) | (intro _; simp [RV.flatP, CD.flatP, getD_map Chg.cd, Chg.cd, in29, ou29, St.le, St.le1, St.le2, List.map_cons, List.map_nil, e1, e2, e5, mkC, Chg.bef, Chg.aft, Chg.av, hlt, decide_true]; done)) ?_); try simp (disch := omega) only [go_sem, Nat.reduceLT, Nat.reduceAdd, Nat.reduceSub, Nat.reduceMul, Nat.reduceMod, Nat.reduceDiv, Nat.reduceBEq, Nat.reduceEqDiff, Nat.reduceLeDiff, reduceCtorEq, ↓reduceIte, beq_dec, Int.reduceToNat, Int.reduceLT, Int.reduceLE, Int.reduceAdd, Int.reduceSub, Int.reduceMul, Int.reduceEq, Int.reduceNeg, Int.reduceNe, Int.toNat_natCast, IntKind.signed, IntKind.bits, Int.reducePow, Nat.reducePow, getD_map Chg.cd, Chg.cd, in29, ou29, St.le, St.le1, St.le2, List.map_cons, List.map_nil, e1, e2, e5, mkC, Chg.bef, Chg.aft, Chg.av, hlt, decide_true]) | refine And.intro (fun hc => (?_ : AW _ _ _ _)) (fun hc => (?_ : AW _ _ _ _)) | simp (disch := omega) only [go_sem, Nat.reduceLT, Nat.reduceAdd, Nat.reduceSub, Nat.reduceMul, Nat.reduceMod, Nat.reduceDiv, Nat.reduceBEq, Nat.reduceEqDiff, Nat.reduceLeDiff, reduceCtorEq, ↓reduceIte, beq_dec, Int.reduceToNat, Int.reduceLT, Int.reduceLE, Int.reduceAdd, Int.reduceSub, Int.reduceMul, Int.reduceEq, Int.reduceNeg, Int.reduceNe, Int.toNat_natCast, IntKind.signed, IntKind.bits, Int.reducePow, Nat.reducePow, getD_map Chg.cd, Chg.cd, in29, ou29, St.le, St.le1, St.le2, List.map_cons, List.map_nil, e1, e2, e5, mkC, Chg.bef, Chg.aft, Chg.av, hlt, decide_true] | (refine And.intro ?_ ?_; focus (first | (intros; omega) | (intros; simp_all; done))) | refine And.intro (?_ : CallAt _ _ _ _ _ _ _ _) ?_ | refine And.intro (?_ : CallAt _ _ _ _ _ _ _ _ ∧ _) ?_ | refine And.intro (?_ : _ ∧ _) ?_ | fail))
              all_goals try omega
              · have hn : okC p q = false := by
                  unfold okC
                  rw [decide_eq_false_iff_not]
                  intro h
                  have hi' := h i (by omega)
                  unfold okB at hi'
                  rw [← hlk] at hi'
                  have hi'' := (sd_eq o.aft (nth q i).bef).1 (of_decide_eq_true hi')
                  rcases hc with hc | hc
                  · exact hc hi''.1
                  · have h2 : (o.has == (nth q i).had) = true := hi''.2
                    rw [h2] at hc; cases hc
                have he : comE p q = 10 := by rw [hE, hn]; rfl
                have hL : comL p q = [] := by unfold comL; rw [he]; rfl
                rw [hL, he]
                exact ⟨rfl, rfl⟩
              · have hok : okB p (nth q i) = true := by
                  unfold okB; rw [← hlk]
                  refine decide_eq_true ((sd_eq o.aft (nth q i).bef).2 (by assumption))
                have hba : o.bef = (nth q i).aft := (sd_eq o.bef (nth q i).aft).2 (by assumption)
                refine .mk (i + 1) ⟨by omega, step_lt hb hok⟩ (by omega) ?_
                rw [comT_succ p q i (by omega)]
                unfold stepC
                rw [hL]
                simp only [hba, if_true]
                simp (disch := omega) only [go_sem, Nat.reduceLT, Nat.reduceAdd, Nat.reduceSub, Nat.reduceMul, Nat.reduceMod, Nat.reduceDiv, Nat.reduceBEq, Nat.reduceEqDiff, Nat.reduceLeDiff, reduceCtorEq, ↓reduceIte, beq_dec, Int.reduceToNat, Int.reduceLT, Int.reduceLE, Int.reduceAdd, Int.reduceSub, Int.reduceMul, Int.reduceEq, Int.reduceNeg, Int.reduceNe, Int.toNat_natCast, IntKind.signed, IntKind.bits, Int.reducePow, Nat.reducePow, Int.natCast_add, Int.natCast_one, e4]
              · have hok : okB p (nth q i) = true := by
                  unfold okB; rw [← hlk]
                  refine decide_eq_true ((sd_eq o.aft (nth q i).bef).2 (by assumption))
                have hba : ¬ o.bef = (nth q i).aft := (sd_ne o.bef (nth q i).aft).2 (by assumption)
                refine .mk (i + 1) ⟨by omega, step_lt hb hok⟩ (by omega) ?_
                rw [comT_succ p q i (by omega)]
                unfold stepC
                rw [hL]
                simp only [hba, if_false]
                simp (disch := omega) only [go_sem, Nat.reduceLT, Nat.reduceAdd, Nat.reduceSub, Nat.reduceMul, Nat.reduceMod, Nat.reduceDiv, Nat.reduceBEq, Nat.reduceEqDiff, Nat.reduceLeDiff, reduceCtorEq, ↓reduceIte, beq_dec, Int.reduceToNat, Int.reduceLT, Int.reduceLE, Int.reduceAdd, Int.reduceSub, Int.reduceMul, Int.reduceEq, Int.reduceNeg, Int.reduceNe, Int.toNat_natCast, IntKind.signed, IntKind.bits, Int.reducePow, Nat.reducePow, Int.natCast_add, Int.natCast_one, mkC, Chg.bef, Chg.aft]
          · have hil : i = q.length := by omega
            (repeat' (first | refine NextAt.mk (fun hc => ?_) (fun pre n v post hc hkey => ?_) | refine Sni.mk (fun hc => ?_) ?_ | refine AW_seq ?_ | refine AW_block ?_ | ((first | refine AW_reg ?_ | refine AW_cond ?_ | refine AW_skip ?_ | refine AW_exit ?_ | refine AW_ret ?_ | refine AW_regD (by kernel_rfl) ?_ | refine AW_regX (by kernel_rfl) ?_ | refine CallAtG.t (Eq.refl true) ?_ | refine CallAtG.f (Eq.refl false) ?_); try simp (disch := omega) only [go_sem, Nat.reduceLT, Nat.reduceAdd, Nat.reduceSub, Nat.reduceMul, Nat.reduceMod, Nat.reduceDiv, Nat.reduceBEq, Nat.reduceEqDiff, Nat.reduceLeDiff, reduceCtorEq, ↓reduceIte, beq_dec, Int.reduceToNat, Int.reduceLT, Int.reduceLE, Int.reduceAdd, Int.reduceSub, Int.reduceMul, Int.reduceEq, Int.reduceNeg, Int.reduceNe, Int.toNat_natCast, IntKind.signed, IntKind.bits, Int.reducePow, Nat.reducePow, hlt, decide_false]) | refine And.intro (fun hc => (?_ : AW _ _ _ _)) (fun hc => (?_ : AW _ _ _ _)) | simp (disch := omega) only [go_sem, Nat.reduceLT, Nat.reduceAdd, Nat.reduceSub, Nat.reduceMul, Nat.reduceMod, Nat.reduceDiv, Nat.reduceBEq, Nat.reduceEqDiff, Nat.reduceLeDiff, reduceCtorEq, ↓reduceIte, beq_dec, Int.reduceToNat, Int.reduceLT, Int.reduceLE, Int.reduceAdd, Int.reduceSub, Int.reduceMul, Int.reduceEq, Int.reduceNeg, Int.reduceNe, Int.toNat_natCast, IntKind.signed, IntKind.bits, Int.reducePow, Nat.reducePow, hlt, decide_false] | (refine And.intro ?_ ?_; focus (first | (intros; omega) | (intros; simp_all; done))) | refine And.intro (?_ : CallAt _ _ _ _ _ _ _ _) ?_ | refine And.intro (?_ : CallAt _ _ _ _ _ _ _ _ ∧ _) ?_ | fail))
            have hok : okC p q = true := by
              unfold okC
              rw [decide_eq_true_eq]
              exact fun j hj => hb j (by omega)
            rw [hok, if_pos rfl] at hE
            rw [hil, List.take_length]
            obtain ⟨hnd, hml⟩ := comT_nd' hp q
            have hOl := comO_len hp hqv
            have hOe := comO_eq hp hqv
            refine ⟨by rw [chM_len]; simp only [maxLen]; omega, ?_⟩
            (repeat' (first | refine NextAt.mk (fun hc => ?_) (fun pre n v post hc hkey => ?_) | refine Sni.mk (fun hc => ?_) ?_ | refine AW_seq ?_ | refine AW_block ?_ | ((first | refine AW_reg ?_ | refine AW_cond ?_ | refine AW_skip ?_ | refine AW_exit ?_ | refine AW_ret ?_ | refine AW_regD (by kernel_rfl) ?_ | refine AW_regX (by kernel_rfl) ?_ | refine CallAtG.t (Eq.refl true) ?_ | refine CallAtG.f (Eq.refl false) ?_); try simp (disch := omega) only [go_sem, Nat.reduceLT, Nat.reduceAdd, Nat.reduceSub, Nat.reduceMul, Nat.reduceMod, Nat.reduceDiv, Nat.reduceBEq, Nat.reduceEqDiff, Nat.reduceLeDiff, reduceCtorEq, ↓reduceIte, beq_dec, Int.reduceToNat, Int.reduceLT, Int.reduceLE, Int.reduceAdd, Int.reduceSub, Int.reduceMul, Int.reduceEq, Int.reduceNeg, Int.reduceNe, Int.toNat_natCast, IntKind.signed, IntKind.bits, Int.reducePow, Nat.reducePow, chM_len]) | refine And.intro (fun hc => (?_ : AW _ _ _ _)) (fun hc => (?_ : AW _ _ _ _)) | simp (disch := omega) only [go_sem, Nat.reduceLT, Nat.reduceAdd, Nat.reduceSub, Nat.reduceMul, Nat.reduceMod, Nat.reduceDiv, Nat.reduceBEq, Nat.reduceEqDiff, Nat.reduceLeDiff, reduceCtorEq, ↓reduceIte, beq_dec, Int.reduceToNat, Int.reduceLT, Int.reduceLE, Int.reduceAdd, Int.reduceSub, Int.reduceMul, Int.reduceEq, Int.reduceNeg, Int.reduceNe, Int.toNat_natCast, IntKind.signed, IntKind.bits, Int.reducePow, Nat.reducePow, chM_len] | (refine And.intro ?_ ?_; focus (first | (intros; omega) | (intros; simp_all; done))) | refine And.intro (?_ : CallAt _ _ _ _ _ _ _ _) ?_ | refine And.intro (?_ : CallAt _ _ _ _ _ _ _ _ ∧ _) ?_ | fail))
            · have he : comE p q = 6 := by rw [hE, if_pos (by omega)]
              have hL : comL p q = [] := by unfold comL; rw [he]; rfl
              rw [hL, he]
              exact ⟨rfl, rfl⟩
            · have he : comE p q = 0 := by rw [hE, if_neg (by omega)]
              have hL : comL p q = comO p q := by unfold comL; rw [he]; rfl
              rw [hL, he, hOe]
              generalize comT p q = M at *
              have g := s53 86 (chM M) (chM_nd hnd) (by rw [chM_len]; omega)
              rw [sortK_eq (l := M.map Prod.fst) (by rw [chM_keys]; exact hnd) (by rw [chM_keys]; exact fun x => Iff.rfl)] at g
              have hKl : (insAll (M.map Prod.fst)).length ≤ 1000 := Nat.le_trans insAll_nodup_len (by rw [List.length_map]; omega)
              have hKl' : (insAll (M.map Prod.fst)).length ≤ 2 ^ 63 - 1 := by omega
              refine CallAt.frz [24] ?_
              simp (disch := omega) only [go_sem, Nat.reduceLT, Nat.reduceAdd, Nat.reduceSub, Nat.reduceMul, Nat.reduceMod, Nat.reduceDiv, Nat.reduceBEq, Nat.reduceEqDiff, Nat.reduceLeDiff, reduceCtorEq, ↓reduceIte, beq_dec, Int.reduceToNat, Int.reduceLT, Int.reduceLE, Int.reduceAdd, Int.reduceSub, Int.reduceMul, Int.reduceEq, Int.reduceNeg, Int.reduceNe, Int.toNat_natCast, IntKind.signed, IntKind.bits, Int.reducePow, Nat.reducePow]
              refine CallAt.fb _ _ _ (k48 (chM M)) (by rfl) (one_mp _ _) ?_
              (repeat' (first | refine NextAt.mk (fun hc => ?_) (fun pre n v post hc hkey => ?_) | refine Sni.mk (fun hc => ?_) ?_ | refine AW_seq ?_ | refine AW_block ?_ | ((first | refine AW_reg ?_ | refine AW_cond ?_ | refine AW_skip ?_ | refine AW_exit ?_ | refine AW_ret ?_ | refine AW_regD (by kernel_rfl) ?_ | refine AW_regX (by kernel_rfl) ?_ | refine CallAt.mkW (g ..) (by rfl) (by simp (disch := omega) only [go_sem, Nat.reduceLT, Nat.reduceAdd, Nat.reduceSub, Nat.reduceMul, Nat.reduceMod, Nat.reduceDiv, Nat.reduceBEq, Nat.reduceEqDiff, Nat.reduceLeDiff, reduceCtorEq, ↓reduceIte, beq_dec, Int.reduceToNat, Int.reduceLT, Int.reduceLE, Int.reduceAdd, Int.reduceSub, Int.reduceMul, Int.reduceEq, Int.reduceNeg, Int.reduceNe, Int.toNat_natCast, IntKind.signed, IntKind.bits, Int.reducePow, Nat.reducePow, maxLen]) (by rfl) (by rfl) (by first | (intro h; cases h; done) | (intro _; simp [RV.flatP, CD.flatP, flatOb, AO.flatP, maxLen]; done)) ?_ | refine CallAtG.t (Eq.refl true) ?_ | refine CallAtG.f (Eq.refl false) ?_); try simp (disch := omega) only [go_sem, Nat.reduceLT, Nat.reduceAdd, Nat.reduceSub, Nat.reduceMul, Nat.reduceMod, Nat.reduceDiv, Nat.reduceBEq, Nat.reduceEqDiff, Nat.reduceLeDiff, reduceCtorEq, ↓reduceIte, beq_dec, Int.reduceToNat, Int.reduceLT, Int.reduceLE, Int.reduceAdd, Int.reduceSub, Int.reduceMul, Int.reduceEq, Int.reduceNeg, Int.reduceNe, Int.toNat_natCast, IntKind.signed, IntKind.bits, Int.reducePow, Nat.reducePow, maxLen]) | refine And.intro (fun hc => (?_ : AW _ _ _ _)) (fun hc => (?_ : AW _ _ _ _)) | simp (disch := omega) only [go_sem, Nat.reduceLT, Nat.reduceAdd, Nat.reduceSub, Nat.reduceMul, Nat.reduceMod, Nat.reduceDiv, Nat.reduceBEq, Nat.reduceEqDiff, Nat.reduceLeDiff, reduceCtorEq, ↓reduceIte, beq_dec, Int.reduceToNat, Int.reduceLT, Int.reduceLE, Int.reduceAdd, Int.reduceSub, Int.reduceMul, Int.reduceEq, Int.reduceNeg, Int.reduceNe, Int.toNat_natCast, IntKind.signed, IntKind.bits, Int.reducePow, Nat.reducePow, maxLen] | (refine And.intro ?_ ?_; focus (first | (intros; omega) | (intros; simp_all; done))) | refine And.intro (?_ : CallAt _ _ _ _ _ _ _ _) ?_ | refine And.intro (?_ : CallAt _ _ _ _ _ _ _ _ ∧ _) ?_ | fail))
              change AW _ _ (blockQ _ (seqQ _ _ (retQ _ [.own 51 5 ((gotL M (insAll (M.map Prod.fst))).map Chg.cd), _]))) _
              generalize insAll (M.map Prod.fst) = K at hKl hKl' ⊢
              refine AW_nil 13 900 51 5 (by rfl) ?_
              refine AW_loopK [6, 87, 88] [13, 15, 89, 90, 91, 92, 93, 94, 95, 96, 97, 98, 99] (fun i : Nat => i ≤ K.length) (fun i => [(13, .own 900), (89, .I i)]) (fun i => [(900, .arr 51 5 ((gotL M (K.take i)).map Chg.cd))]) (fun i => K.length - i) 0 (by omega) ?_ ?_
              · simp (disch := omega) only [go_sem, Nat.reduceLT, Nat.reduceAdd, Nat.reduceSub, Nat.reduceMul, Nat.reduceMod, Nat.reduceDiv, Nat.reduceBEq, Nat.reduceEqDiff, Nat.reduceLeDiff, reduceCtorEq, ↓reduceIte, beq_dec, Int.reduceToNat, Int.reduceLT, Int.reduceLE, Int.reduceAdd, Int.reduceSub, Int.reduceMul, Int.reduceEq, Int.reduceNeg, Int.reduceNe, Int.toNat_natCast, IntKind.signed, IntKind.bits, Int.reducePow, Nat.reducePow, Int.natCast_zero, List.take_zero, gotL, List.map_nil]
              · intro k hk
                have hb2 : (K.take k).length ≤ K.length := by simp; omega
                have hb3 : (gotL M (K.take k)).length = (K.take k).length := by simp [gotL]
                (repeat' (first | refine NextAt.mk (fun hc => ?_) (fun pre n v post hc hkey => ?_) | refine Sni.mk (fun hc => ?_) ?_ | refine AW_seq ?_ | refine AW_block ?_ | ((first | refine AW_reg ?_ | refine AW_cond ?_ | refine AW_skip ?_ | refine AW_exit ?_ | refine AW_ret ?_ | refine AW_regD (by kernel_rfl) ?_ | refine AW_regX (by kernel_rfl) ?_ | refine CallAtG.t (Eq.refl true) ?_ | refine CallAtG.f (Eq.refl false) ?_); try simp (disch := omega) only [go_sem, Nat.reduceLT, Nat.reduceAdd, Nat.reduceSub, Nat.reduceMul, Nat.reduceMod, Nat.reduceDiv, Nat.reduceBEq, Nat.reduceEqDiff, Nat.reduceLeDiff, reduceCtorEq, ↓reduceIte, beq_dec, Int.reduceToNat, Int.reduceLT, Int.reduceLE, Int.reduceAdd, Int.reduceSub, Int.reduceMul, Int.reduceEq, Int.reduceNeg, Int.reduceNe, Int.toNat_natCast, IntKind.signed, IntKind.bits, Int.reducePow, Nat.reducePow, getD_map (fun x : Int => [CD.I x]), chM_look, List.length_append, List.length_map, maxLen]) | refine And.intro (fun hc => (?_ : AW _ _ _ _)) (fun hc => (?_ : AW _ _ _ _)) | simp (disch := omega) only [go_sem, Nat.reduceLT, Nat.reduceAdd, Nat.reduceSub, Nat.reduceMul, Nat.reduceMod, Nat.reduceDiv, Nat.reduceBEq, Nat.reduceEqDiff, Nat.reduceLeDiff, reduceCtorEq, ↓reduceIte, beq_dec, Int.reduceToNat, Int.reduceLT, Int.reduceLE, Int.reduceAdd, Int.reduceSub, Int.reduceMul, Int.reduceEq, Int.reduceNeg, Int.reduceNe, Int.toNat_natCast, IntKind.signed, IntKind.bits, Int.reducePow, Nat.reducePow, getD_map (fun x : Int => [CD.I x]), chM_look, List.length_append, List.length_map, maxLen] | (refine And.intro ?_ ?_; focus (first | (intros; omega) | (intros; simp_all; done))) | refine And.intro (?_ : CallAt _ _ _ _ _ _ _ _) ?_ | refine And.intro (?_ : CallAt _ _ _ _ _ _ _ _ ∧ _) ?_ | fail))
                · refine .mk (k + 1) (by omega) (by omega) ?_
                  rw [gotL_succ M K k (by omega), List.map_append]
                  simp (disch := omega) only [go_sem, Nat.reduceLT, Nat.reduceAdd, Nat.reduceSub, Nat.reduceMul, Nat.reduceMod, Nat.reduceDiv, Nat.reduceBEq, Nat.reduceEqDiff, Nat.reduceLeDiff, reduceCtorEq, ↓reduceIte, beq_dec, Int.reduceToNat, Int.reduceLT, Int.reduceLE, Int.reduceAdd, Int.reduceSub, Int.reduceMul, Int.reduceEq, Int.reduceNeg, Int.reduceNe, Int.toNat_natCast, IntKind.signed, IntKind.bits, Int.reducePow, Nat.reducePow, Int.natCast_add, Int.natCast_one, Chg.cd, List.map_cons, List.map_nil]
                · have hke : k = K.length := by omega
                  rw [hke, List.take_length]
  · have hE : comE p q = 1 := by
      unfold comE
      rw [if_neg]
      simpa using hv
    have hL : comL p q = [] := by unfold comL; rw [hE]; rfl
    rw [hE, hL]
    refine fn_walk code29 (by simp) ?_
    (repeat' (first | refine NextAt.mk (fun hc => ?_) (fun pre n v post hc hkey => ?_) | refine Sni.mk (fun hc => ?_) ?_ | refine AW_seq ?_ | refine AW_block ?_ | ((first | refine AW_reg ?_ | refine AW_cond ?_ | refine AW_skip ?_ | refine AW_exit ?_ | refine AW_ret ?_ | refine AW_regD (by kernel_rfl) ?_ | refine AW_regX (by kernel_rfl) ?_ | refine CallAtG.t (Eq.refl true) ?_ | refine CallAtG.f (Eq.refl false) ?_ | refine CallAt.mk _ (f25 ..) (by first | (intro h; cases h; done) | (intro _; repeat' (first | exact List.forall_mem_nil _ | trivial | refine List.forall_mem_cons.2 ⟨?_, ?_⟩)) | (intro _; simp [RV.flatP, CD.flatP]; done)) ?_ | refine CallAtG.mk _ (fun _ => f25 ..) ?_ | refine CallDS.mk _ (by simp [RV.data]) (fun _ => f25 ..) (by first | (intro h; cases h; done) | (intro _; repeat' (first | exact List.forall_mem_nil _ | trivial | refine List.forall_mem_cons.2 ⟨?_, ?_⟩)) | (intro _; simp [RV.flatP, CD.flatP]; done)) ?_); try simp (disch := omega) only [go_sem, Nat.reduceLT, Nat.reduceAdd, Nat.reduceSub, Nat.reduceMul, Nat.reduceMod, Nat.reduceDiv, Nat.reduceBEq, Nat.reduceEqDiff, Nat.reduceLeDiff, reduceCtorEq, ↓reduceIte, beq_dec, Int.reduceToNat, Int.reduceLT, Int.reduceLE, Int.reduceAdd, Int.reduceSub, Int.reduceMul, Int.reduceEq, Int.reduceNeg, Int.reduceNe, Int.toNat_natCast, IntKind.signed, IntKind.bits, Int.reducePow, Nat.reducePow]) | refine And.intro (fun hc => (?_ : AW _ _ _ _)) (fun hc => (?_ : AW _ _ _ _)) | simp (disch := omega) only [go_sem, Nat.reduceLT, Nat.reduceAdd, Nat.reduceSub, Nat.reduceMul, Nat.reduceMod, Nat.reduceDiv, Nat.reduceBEq, Nat.reduceEqDiff, Nat.reduceLeDiff, reduceCtorEq, ↓reduceIte, beq_dec, Int.reduceToNat, Int.reduceLT, Int.reduceLE, Int.reduceAdd, Int.reduceSub, Int.reduceMul, Int.reduceEq, Int.reduceNeg, Int.reduceNe, Int.toNat_natCast, IntKind.signed, IntKind.bits, Int.reducePow, Nat.reducePow] | (refine And.intro ?_ ?_; focus (first | (intros; omega) | (intros; simp_all; done))) | refine And.intro (?_ : CallAt _ _ _ _ _ _ _ _) ?_ | refine And.intro (?_ : CallAt _ _ _ _ _ _ _ _ ∧ _) ?_ | fail))
    all_goals (exfalso; exact hv ⟨by simp_all, by simp_all⟩)
end Go.Proofs.Ytklkehlccjofoaa

