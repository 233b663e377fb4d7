/-
  Lemmas for the proof: no statement of its own.
-/
import Derived.Test.YtlomngideedobaaWalkD
set_option linter.unusedVariables false
set_option linter.unusedSimpArgs false
-- P p_14.txt
open Go Go.AL Go.RowKit
namespace Go.Proofs.Ytlomngideedobaa
set_option maxRecDepth 20000
/-! ### the numbers of the components -/
abbrev NF := Die → Option Int
def numS (g : List Lk) (p : Int) (f : NF) (d : Die) : NF := fun x => if (dst g d x).isSome then some p else f x
structure PSt where
  (f : NF) (p : Int) (o : List Int)
def pstep (g : List Lk) (s : PSt) (d : Die) : PSt := match s.f d with
  | some v => ⟨s.f, s.p, s.o ++ [v]⟩
  | none => ⟨numS g s.p s.f d, s.p + 1, s.o ++ [s.p]⟩
def pS (g : List Lk) (l : List Die) : PSt := l.foldl (pstep g) ⟨fun _ => none, 0, []⟩
def partsG (g : Gr) : List Int := (pS g.links (diesG g)).o
def pI (g : List Lk) (l : List Die) (i : Nat) : PSt := pS g (l.take i)
theorem pI_succ (g : List Lk) (l : List Die) (i : Nat) (h : i < l.length) : pI g l (i + 1) = pstep g (pI g l i) (nth l i) := by
  unfold pI pS
  rw [List.take_succ_eq_append_getElem h, List.foldl_append, nth_eq l i h]; rfl
/-- a map that says what the function says -/
def Says (es : List (List Int × Sum CD (List CD))) (f : NF) : Prop := ∀ x : Die, mlook es [x.side, x.num] = (f x).map fun v => .inl (.I v)
theorem mlook_mset (es : List (List Int × Sum CD (List CD))) (k x : List Int) (v : Sum CD (List CD)) : mlook (mset es k v) x = if x = k then some v else mlook es x := by
  induction es with
  | nil => simp only [mset, mlook]
  | cons e es ih =>
    obtain ⟨m, a⟩ := e
    unfold mset
    by_cases h : k = m
    · subst h
      rw [if_pos rfl]
      simp only [mlook]
      split <;> rfl
    · rw [if_neg h]
      simp only [mlook, ih]
      by_cases hx : x = m
      · subst hx; rw [if_pos rfl, if_pos rfl, if_neg (fun e => h e.symm)]
      · rw [if_neg hx, if_neg hx]
theorem Says.set {es : List (List Int × Sum CD (List CD))} {f : NF} (h : Says es f) (d : Die) (v : Int) : Says (mset es [d.side, d.num] (.inl (.I v))) (fun x => if x = d then some v else f x) := fun x => by
  rw [mlook_mset]
  show _ = Option.map _ (if x = d then some v else f x)
  by_cases e : x = d
  · subst e; simp
  · rw [if_neg (fun h' => e (die_ext.2 (by simpa using h'))), if_neg e]; exact h x
structure RL where
  (left : List (List Int × Sum CD (List CD))) (cur : Option (List Int × Sum CD (List CD))) (es : List (List Int × Sum CD (List CD)))
/-- the entries left are dies of M, and the others have their number -/
structure RInv (M : BM) (f : NF) (p : Int) (q : RL) : Prop where
  left : ∀ e ∈ q.left, ∃ x ∈ keysB M, e.1 = [x.side, x.num]
  nd : (q.left.map Prod.fst).Nodup
  says : Says q.es fun x => if x ∈ keysB M ∧ [x.side, x.num] ∉ q.left.map Prod.fst then some p else f x
theorem RInv.start {M : BM} (hn : (keysB M).Nodup) {f : NF} {p : Int} {es : List (List Int × Sum CD (List CD))} (h : Says es f) : RInv M f p ⟨mapB M, none, es⟩ := by
  have hk : (mapB M).map Prod.fst = (keysB M).map fun x => [x.side, x.num] := by unfold mapB keysB; rw [List.map_map, List.map_map]; rfl
  refine ⟨fun e he => ?_, ?_, fun x => ?_⟩
  · obtain ⟨q, hq, rfl⟩ := List.mem_map.1 he
    exact ⟨q.1, List.mem_map_of_mem hq, rfl⟩
  · show ((mapB M).map Prod.fst).Nodup
    rw [hk]
    exact nodup_map_inj (fun a b e => die_ext.2 (by simpa using e)) hn
  · rw [h x]
    show _ = Option.map _ (if x ∈ keysB M ∧ [x.side, x.num] ∉ (mapB M).map Prod.fst then _ else _)
    rw [hk, if_neg]
    rintro ⟨h1, h2⟩
    exact h2 (List.mem_map.2 ⟨x, h1, rfl⟩)
theorem RInv.next {M : BM} {f : NF} {p : Int} {q : RL} (h : RInv M f p q) {pre post : List (List Int × Sum CD (List CD))} {n : List Int} {v : Sum CD (List CD)} (hl : q.left = pre ++ (n, v) :: post) :
    ∃ x : Die, n = [x.side, x.num] ∧ RInv M f p ⟨pre ++ post, some (n, v), mset q.es [x.side, x.num] (.inl (.I p))⟩ := by
  obtain ⟨x, hx, e⟩ := h.left (n, v) (by rw [hl]; simp)
  simp only at e
  subst e
  have hnd := h.nd
  rw [hl, List.map_append, List.map_cons] at hnd
  have hnd2 := (List.perm_middle.nodup_iff).1 hnd
  rw [List.nodup_cons] at hnd2
  refine ⟨x, rfl, fun e he => h.left e ?_, ?_, fun y => ?_⟩
  · rw [hl]
    rcases List.mem_append.1 he with he | he
    · exact List.mem_append_left _ he
    · exact List.mem_append_right _ (List.mem_cons_of_mem _ he)
  · show ((pre ++ post).map Prod.fst).Nodup
    rw [List.map_append]; exact hnd2.2
  · rw [h.says.set x p y]
    congr 1
    show (if y = x then some p else if y ∈ keysB M ∧ [y.side, y.num] ∉ q.left.map Prod.fst then some p else f y) = (if y ∈ keysB M ∧ [y.side, y.num] ∉ (pre ++ post).map Prod.fst then some p else f y)
    by_cases e : y = x
    · subst e
      rw [if_pos rfl, if_pos]
      refine ⟨hx, ?_⟩
      rw [List.map_append]; exact hnd2.1
    · rw [if_neg e]
      have hk : [y.side, y.num] ∉ q.left.map Prod.fst ↔ [y.side, y.num] ∉ (pre ++ post).map Prod.fst := by
        rw [hl]
        simp only [List.map_append, List.map_cons, List.mem_append, List.mem_cons, not_or]
        exact ⟨fun h => ⟨h.1, h.2.2⟩, fun h => ⟨h.1, fun e' => e (die_ext.2 (by simpa using e')), h.2⟩⟩
      simp only [hk]
theorem RInv.done {M : BM} {f : NF} {p : Int} {q : RL} (h : RInv M f p q) (hl : q.left = []) : Says q.es fun x => if x ∈ keysB M then some p else f x := fun x => by
  rw [h.says x, hl]; simp
theorem says_num {g : List Lk} {d : Die} {p : Int} {f : NF} {es : List (List Int × Sum CD (List CD))} (h : Says es fun x => if x ∈ keysB (bfsA g d) then some p else f x) : Says es (numS g p f d) := fun x => by
  rw [h x]
  show Option.map _ (if x ∈ keysB (bfsA g d) then some p else f x) = _
  unfold numS dst
  by_cases hx : x ∈ keysB (bfsA g d)
  · have : (lkB (bfsA g d) x).isSome = true := by
      cases hl : lkB (bfsA g d) x with
      | some v => rfl
      | none => exact absurd hx (lkB_none.1 hl)
    rw [if_pos hx, if_pos this]
  · have : lkB (bfsA g d) x = none := lkB_none.2 hx
    rw [if_neg hx, this]; rfl
def partsE (g : Gr) : List Int := if validG g then partsG g else []
theorem pI_len (g : List Lk) (l : List Die) : ∀ i, i ≤ l.length → (pI g l i).o.length = i ∧ 0 ≤ (pI g l i).p ∧ (pI g l i).p ≤ i ∧ ∀ x v, (pI g l i).f x = some v → 0 ≤ v ∧ v ≤ i
  | 0, _ => by simp [pI, pS]
  | i + 1, h => by
    obtain ⟨a, b, c, d⟩ := pI_len g l i (by omega)
    rw [pI_succ g l i (by omega)]
    unfold pstep
    split
    · rename_i v hv
      have := d _ _ hv
      exact ⟨by simp [a], b, by simp only; omega, fun x w hw => by have := d x w hw; omega⟩
    · refine ⟨by simp [a], by simp only; omega, by simp only; omega, fun x w hw => ?_⟩
      simp only [numS] at hw
      split at hw
      · cases hw; omega
      · have := d x w hw; omega
structure PLs where
  (i : Nat) (es : List (List Int × Sum CD (List CD)))
set_option maxHeartbeats 4000000 in
theorem f19 (g : Gr) : FnR Try.prog 19 [g.av] [ORow (partsE g), .c (.I (errV g))] := by
  have g41 := f41 g
  cases hv : validG g with
  | false =>
    have e0 : errV g = 1 := by unfold errV; rw [hv]; rfl
    have e1 : partsE g = [] := by unfold partsE; rw [hv]; rfl
    rw [e0] at g41 ⊢
    rw [e1]
    refine fn_walk code19 (by simp) ?_
    (repeat' (first | refine NextAt.mk (fun hc => ?_) (fun pre n v post hc hkey => ?_) | refine Sni.mk (fun hc => ?_) ?_ | refine Both.mk ?_ ?_ | refine AW_seq ?_ | refine AW_block ?_ | ((first | refine AW_reg ?_ | refine AW_cond ?_ | refine AW_skip ?_ | refine AW_exit ?_ | refine AW_ret ?_ | refine AW_regD (by kernel_rfl) ?_ | refine AW_regX (by kernel_rfl) ?_ | refine CallAtG.t (Eq.refl true) ?_ | refine CallAtG.f (Eq.refl false) ?_ | refine CallAt.mk _ (g41 ..) (by first | (intro h; cases h; done) | (intro _; repeat' (first | exact List.forall_mem_nil _ | trivial | refine List.forall_mem_cons.2 ⟨?_, ?_⟩)) | (intro _; simp [RV.flatP, CD.flatP]; done)) ?_ | refine CallAtG.mk _ (fun _ => g41 ..) ?_ | refine CallDS.mk _ (by simp [RV.data]) (fun _ => g41 ..) (by first | (intro h; cases h; done) | (intro _; repeat' (first | exact List.forall_mem_nil _ | trivial | refine List.forall_mem_cons.2 ⟨?_, ?_⟩)) | (intro _; simp [RV.flatP, CD.flatP]; done)) ?_); try simp (disch := omega) only [go_sem, seval, reduceCtorEq, ↓reduceIte, beq_dec, Int.toNat_natCast, IntKind.signed, IntKind.bits]) | refine And.intro (fun hc => (?_ : AW _ _ _ _)) (fun hc => (?_ : AW _ _ _ _)) | simp (disch := omega) only [go_sem, seval, reduceCtorEq, ↓reduceIte, beq_dec, Int.toNat_natCast, IntKind.signed, IntKind.bits] | (refine And.intro ?_ ?_; focus (first | (intros; omega) | (intros; simp_all; done))) | refine And.intro (?_ : CallAt _ _ _ _ _ _ _ _) ?_ | refine And.intro (?_ : CallAt _ _ _ _ _ _ _ _ ∧ _) ?_ | refine And.intro (?_ : AW _ _ _ _) ?_ | fail))
  | true =>
    have e0 : errV g = 0 := by unfold errV; rw [hv]; rfl
    have e1 : partsE g = partsG g := by unfold partsE; rw [hv]; rfl
    have hlen := dies_len g
    have hsm := valid_small hv
    rw [dies_valid hv, e0] at g41
    rw [e0, e1]
    unfold partsG
    have g42 := fun d => f42 g d hsm.2.2
    generalize diesG g = l at *
    refine fn_walk code19 (by simp) ?_
    (repeat' (first | refine NextAt.mk (fun hc => ?_) (fun pre n v post hc hkey => ?_) | refine Sni.mk (fun hc => ?_) ?_ | refine Both.mk ?_ ?_ | refine AW_seq ?_ | refine AW_block ?_ | ((first | refine AW_reg ?_ | refine AW_cond ?_ | refine AW_skip ?_ | refine AW_exit ?_ | refine AW_ret ?_ | refine AW_regD (by kernel_rfl) ?_ | refine AW_regX (by kernel_rfl) ?_ | refine CallAtG.t (Eq.refl true) ?_ | refine CallAtG.f (Eq.refl false) ?_ | refine CallAt.mk _ (g41 ..) (by first | (intro h; cases h; done) | (intro _; repeat' (first | exact List.forall_mem_nil _ | trivial | refine List.forall_mem_cons.2 ⟨?_, ?_⟩)) | (intro _; simp [RV.flatP, CD.flatP, List.length_map]; done)) ?_ | refine CallAtG.mk _ (fun _ => g41 ..) ?_ | refine CallDS.mk _ (by simp [RV.data]) (fun _ => g41 ..) (by first | (intro h; cases h; done) | (intro _; repeat' (first | exact List.forall_mem_nil _ | trivial | refine List.forall_mem_cons.2 ⟨?_, ?_⟩)) | (intro _; simp [RV.flatP, CD.flatP, List.length_map]; done)) ?_); try simp (disch := omega) only [go_sem, seval, reduceCtorEq, ↓reduceIte, beq_dec, Int.toNat_natCast, IntKind.signed, IntKind.bits, List.length_map]) | refine And.intro (fun hc => (?_ : AW _ _ _ _)) (fun hc => (?_ : AW _ _ _ _)) | simp (disch := omega) only [go_sem, seval, reduceCtorEq, ↓reduceIte, beq_dec, Int.toNat_natCast, IntKind.signed, IntKind.bits, List.length_map] | (refine And.intro ?_ ?_; focus (first | (intros; omega) | (intros; simp_all; done))) | refine And.intro (?_ : CallAt _ _ _ _ _ _ _ _) ?_ | refine And.intro (?_ : CallAt _ _ _ _ _ _ _ _ ∧ _) ?_ | refine And.intro (?_ : AW _ _ _ _) ?_ | fail))
    refine AW_nil 7 900 3 1 (by rfl) ?_
    refine AW_loopK [1, 6, 23, 24] [7, 8, 10, 11, 12, 13, 25, 26, 27, 28, 29, 30, 31, 32, 33, 34, 35, 36, 37, 38, 39, 40, 41, 42, 43, 44, 45, 46, 47, 48, 49, 50, 51, 52, 53, 54, 55, 56] (fun q : PLs => q.i ≤ l.length ∧ Says q.es (pI g.links l q.i).f) (fun q => [(7, .own 900), (8, .I (pI g.links l q.i).p), (25, .I q.i), (6, .own 22)]) (fun q => [(22, .map KD q.es), (900, .arr 3 1 (iRow (pI g.links l q.i).o))]) (fun q => l.length - q.i) ⟨0, []⟩ ⟨by simp, fun x => rfl⟩ ?_ ?_
    · simp (disch := omega) only [go_sem, seval, reduceCtorEq, ↓reduceIte, beq_dec, Int.toNat_natCast, IntKind.signed, IntKind.bits, Int.natCast_zero, pI, pS, List.take_zero, List.foldl_nil, List.map_nil]
    · rintro ⟨i, es⟩ ⟨hi, hsay⟩
      simp only at hi hsay
      obtain ⟨hol, hp0, hpi, hfv⟩ := pI_len g.links l i hi
      rcases Nat.lt_or_ge i l.length with hil | hil
      · have hsuc := pI_succ g.links l i hil
        generalize pI g.links l i = q at *
        unfold pstep at hsuc
        cases hf : q.f (nth l i) with
        | some v =>
          have hlk := hsay (nth l i)
          have hvb := hfv _ _ hf
          rw [hf] at hlk hsuc
          simp only at hsuc
          (repeat' (first | refine NextAt.mk (fun hc => ?_) (fun pre n v post hc hkey => ?_) | refine Sni.mk (fun hc => ?_) ?_ | refine Both.mk ?_ ?_ | refine AW_seq ?_ | refine AW_block ?_ | ((first | refine AW_reg ?_ | refine AW_cond ?_ | refine AW_skip ?_ | refine AW_exit ?_ | refine AW_ret ?_ | refine AW_regD (by kernel_rfl) ?_ | refine AW_regX (by kernel_rfl) ?_ | refine CallAtG.t (Eq.refl true) ?_ | refine CallAtG.f (Eq.refl false) ?_ | refine CallAt.mk _ (g42 ..) (by first | (intro h; cases h; done) | (intro _; repeat' (first | exact List.forall_mem_nil _ | trivial | refine List.forall_mem_cons.2 ⟨?_, ?_⟩)) | (intro _; simp [RV.flatP, CD.flatP, getD_map Die.cd, Die.cd, List.map_cons, List.map_nil, hlk, lookAV, argAV, Option.map_some, Option.getD_some, Option.isSome_some, Bool.not_true, List.length_append, List.length_map, List.length_cons, List.length_nil, maxLen, hol, inK]; done)) ?_ | refine CallAtG.mk _ (fun _ => g42 ..) ?_ | refine CallDS.mk _ (by simp [RV.data]) (fun _ => g42 ..) (by first | (intro h; cases h; done) | (intro _; repeat' (first | exact List.forall_mem_nil _ | trivial | refine List.forall_mem_cons.2 ⟨?_, ?_⟩)) | (intro _; simp [RV.flatP, CD.flatP, getD_map Die.cd, Die.cd, List.map_cons, List.map_nil, hlk, lookAV, argAV, Option.map_some, Option.getD_some, Option.isSome_some, Bool.not_true, List.length_append, List.length_map, List.length_cons, List.length_nil, maxLen, hol, inK]; done)) ?_); try simp (disch := omega) only [go_sem, seval, reduceCtorEq, ↓reduceIte, beq_dec, Int.toNat_natCast, IntKind.signed, IntKind.bits, getD_map Die.cd, Die.cd, List.map_cons, List.map_nil, hlk, lookAV, argAV, Option.map_some, Option.getD_some, Option.isSome_some, Bool.not_true, List.length_append, List.length_map, List.length_cons, List.length_nil, maxLen, hol, inK]) | refine And.intro (fun hc => (?_ : AW _ _ _ _)) (fun hc => (?_ : AW _ _ _ _)) | simp (disch := omega) only [go_sem, seval, reduceCtorEq, ↓reduceIte, beq_dec, Int.toNat_natCast, IntKind.signed, IntKind.bits, getD_map Die.cd, Die.cd, List.map_cons, List.map_nil, hlk, lookAV, argAV, Option.map_some, Option.getD_some, Option.isSome_some, Bool.not_true, List.length_append, List.length_map, List.length_cons, List.length_nil, maxLen, hol, inK] | (refine And.intro ?_ ?_; focus (first | (intros; omega) | (intros; simp_all; done))) | refine And.intro (?_ : CallAt _ _ _ _ _ _ _ _) ?_ | refine And.intro (?_ : CallAt _ _ _ _ _ _ _ _ ∧ _) ?_ | refine And.intro (?_ : AW _ _ _ _) ?_ | fail))
          · refine .mk ⟨i + 1, es⟩ ⟨by simp only []; omega, by rw [hsuc]; exact hsay⟩ (by simp only []; omega) ?_
            simp only [hsuc, iRow_app]
            simp (disch := omega) only [go_sem, seval, reduceCtorEq, ↓reduceIte, beq_dec, Int.toNat_natCast, IntKind.signed, IntKind.bits, Int.natCast_add, Int.natCast_one]
          · omega
        | none =>
          have hlk := hsay (nth l i)
          rw [hf] at hlk hsuc
          simp only at hsuc
          have hbn := (bfsA_inv g.links (nth l i)).nd
          (repeat' (first | refine NextAt.mk (fun hc => ?_) (fun pre n v post hc hkey => ?_) | refine Sni.mk (fun hc => ?_) ?_ | refine Both.mk ?_ ?_ | refine AW_seq ?_ | refine AW_block ?_ | ((first | refine AW_reg ?_ | refine AW_cond ?_ | refine AW_skip ?_ | refine AW_exit ?_ | refine AW_ret ?_ | refine AW_regD (by kernel_rfl) ?_ | refine AW_regX (by kernel_rfl) ?_ | refine CallAtG.t (Eq.refl true) ?_ | refine CallAtG.f (Eq.refl false) ?_ | refine CallAt.mk _ (g42 ..) (by first | (intro h; cases h; done) | (intro _; repeat' (first | exact List.forall_mem_nil _ | trivial | refine List.forall_mem_cons.2 ⟨?_, ?_⟩)) | (intro _; simp [RV.flatP, CD.flatP, getD_map Die.cd, Die.cd, List.map_cons, List.map_nil, hlk, lookAV, argAV, Option.map_none, Option.getD_none, Option.isSome_none, Bool.not_false, List.length_append, List.length_map, List.length_cons, List.length_nil, maxLen, hol, inK]; done)) ?_ | refine CallAtG.mk _ (fun _ => g42 ..) ?_ | refine CallDS.mk _ (by simp [RV.data]) (fun _ => g42 ..) (by first | (intro h; cases h; done) | (intro _; repeat' (first | exact List.forall_mem_nil _ | trivial | refine List.forall_mem_cons.2 ⟨?_, ?_⟩)) | (intro _; simp [RV.flatP, CD.flatP, getD_map Die.cd, Die.cd, List.map_cons, List.map_nil, hlk, lookAV, argAV, Option.map_none, Option.getD_none, Option.isSome_none, Bool.not_false, List.length_append, List.length_map, List.length_cons, List.length_nil, maxLen, hol, inK]; done)) ?_); try simp (disch := omega) only [go_sem, seval, reduceCtorEq, ↓reduceIte, beq_dec, Int.toNat_natCast, IntKind.signed, IntKind.bits, getD_map Die.cd, Die.cd, List.map_cons, List.map_nil, hlk, lookAV, argAV, Option.map_none, Option.getD_none, Option.isSome_none, Bool.not_false, List.length_append, List.length_map, List.length_cons, List.length_nil, maxLen, hol, inK]) | refine And.intro (fun hc => (?_ : AW _ _ _ _)) (fun hc => (?_ : AW _ _ _ _)) | simp (disch := omega) only [go_sem, seval, reduceCtorEq, ↓reduceIte, beq_dec, Int.toNat_natCast, IntKind.signed, IntKind.bits, getD_map Die.cd, Die.cd, List.map_cons, List.map_nil, hlk, lookAV, argAV, Option.map_none, Option.getD_none, Option.isSome_none, Bool.not_false, List.length_append, List.length_map, List.length_cons, List.length_nil, maxLen, hol, inK] | (refine And.intro ?_ ?_; focus (first | (intros; omega) | (intros; simp_all; done))) | refine And.intro (?_ : CallAt _ _ _ _ _ _ _ _) ?_ | refine And.intro (?_ : CallAt _ _ _ _ _ _ _ _ ∧ _) ?_ | refine And.intro (?_ : AW _ _ _ _) ?_ | fail))
          · refine AW_loopK [1, 6, 7, 8, 10, 23, 24, 25, 40] [13, 41, 42, 43, 44, 45, 46, 47] (fun r : RL => RInv (bfsA g.links (nth l i)) q.f q.p r) (fun r => []) (fun r => [(22, .map KD r.es), (40, .iter KD r.left r.cur)]) (fun r => r.left.length) ⟨mapB (bfsA g.links (nth l i)), none, es⟩ (RInv.start hbn hsay) ?_ ?_
            · simp (disch := omega) only [go_sem, seval, reduceCtorEq, ↓reduceIte, beq_dec, Int.toNat_natCast, IntKind.signed, IntKind.bits]
            · rintro ⟨left, cur, es2⟩ hr
              (repeat' (first | refine NextAt.mk (fun hc => ?_) (fun pre n v post hc hkey => ?_) | refine Sni.mk (fun hc => ?_) ?_ | refine Both.mk ?_ ?_ | refine AW_seq ?_ | refine AW_block ?_ | ((first | refine AW_reg ?_ | refine AW_cond ?_ | refine AW_skip ?_ | refine AW_exit ?_ | refine AW_ret ?_ | refine AW_regD (by kernel_rfl) ?_ | refine AW_regX (by kernel_rfl) ?_ | refine CallAtG.t (Eq.refl true) ?_ | refine CallAtG.f (Eq.refl false) ?_); try simp (disch := omega) only [go_sem, seval, reduceCtorEq, ↓reduceIte, beq_dec, Int.toNat_natCast, IntKind.signed, IntKind.bits]) | refine And.intro (fun hc => (?_ : AW _ _ _ _)) (fun hc => (?_ : AW _ _ _ _)) | simp (disch := omega) only [go_sem, seval, reduceCtorEq, ↓reduceIte, beq_dec, Int.toNat_natCast, IntKind.signed, IntKind.bits] | (refine And.intro ?_ ?_; focus (first | (intros; omega) | (intros; simp_all; done))) | refine And.intro (?_ : CallAt _ _ _ _ _ _ _ _) ?_ | refine And.intro (?_ : CallAt _ _ _ _ _ _ _ _ ∧ _) ?_ | refine And.intro (?_ : AW _ _ _ _) ?_ | fail))
              · have hsn := says_num (hr.done hc)
                have hd0 : (numS g.links q.p q.f (nth l i)) (nth l i) = some q.p := by unfold numS; rw [dst_self]; rfl
                have hlk2 := hsn (nth l i)
                rw [hd0] at hlk2
                simp only at hlk2
                (repeat' (first | refine NextAt.mk (fun hc => ?_) (fun pre n v post hc hkey => ?_) | refine Sni.mk (fun hc => ?_) ?_ | refine Both.mk ?_ ?_ | refine AW_seq ?_ | refine AW_block ?_ | ((first | refine AW_reg ?_ | refine AW_cond ?_ | refine AW_skip ?_ | refine AW_exit ?_ | refine AW_ret ?_ | refine AW_regD (by kernel_rfl) ?_ | refine AW_regX (by kernel_rfl) ?_ | refine CallAtG.t (Eq.refl true) ?_ | refine CallAtG.f (Eq.refl false) ?_); try simp (disch := omega) only [go_sem, seval, reduceCtorEq, ↓reduceIte, beq_dec, Int.toNat_natCast, IntKind.signed, IntKind.bits, hlk2, lookAV, argAV, Option.map_some, Option.getD_some, List.length_append, List.length_map, List.length_cons, List.length_nil, maxLen, hol, inK]) | refine And.intro (fun hc => (?_ : AW _ _ _ _)) (fun hc => (?_ : AW _ _ _ _)) | simp (disch := omega) only [go_sem, seval, reduceCtorEq, ↓reduceIte, beq_dec, Int.toNat_natCast, IntKind.signed, IntKind.bits, hlk2, lookAV, argAV, Option.map_some, Option.getD_some, List.length_append, List.length_map, List.length_cons, List.length_nil, maxLen, hol, inK] | (refine And.intro ?_ ?_; focus (first | (intros; omega) | (intros; simp_all; done))) | refine And.intro (?_ : CallAt _ _ _ _ _ _ _ _) ?_ | refine And.intro (?_ : CallAt _ _ _ _ _ _ _ _ ∧ _) ?_ | refine And.intro (?_ : AW _ _ _ _) ?_ | fail))
                refine .mk ⟨i + 1, es2⟩ ⟨by simp only []; omega, by rw [hsuc]; exact hsn⟩ (by simp only []; omega) ?_
                simp only [hsuc, iRow_app]
                simp (disch := omega) only [go_sem, seval, reduceCtorEq, ↓reduceIte, beq_dec, Int.toNat_natCast, IntKind.signed, IntKind.bits, Int.natCast_add, Int.natCast_one]
              · obtain ⟨x, rfl, hnx⟩ := hr.next hc
                (repeat' (first | refine NextAt.mk (fun hc => ?_) (fun pre n v post hc hkey => ?_) | refine Sni.mk (fun hc => ?_) ?_ | refine Both.mk ?_ ?_ | refine AW_seq ?_ | refine AW_block ?_ | ((first | refine AW_reg ?_ | refine AW_cond ?_ | refine AW_skip ?_ | refine AW_exit ?_ | refine AW_ret ?_ | refine AW_regD (by kernel_rfl) ?_ | refine AW_regX (by kernel_rfl) ?_ | refine CallAtG.t (Eq.refl true) ?_ | refine CallAtG.f (Eq.refl false) ?_); try simp (disch := omega) only [go_sem, seval, reduceCtorEq, ↓reduceIte, beq_dec, Int.toNat_natCast, IntKind.signed, IntKind.bits, List.zip_cons_cons, List.zip_nil_right, List.zip_nil_left, List.map_cons, List.map_nil]) | refine And.intro (fun hc => (?_ : AW _ _ _ _)) (fun hc => (?_ : AW _ _ _ _)) | simp (disch := omega) only [go_sem, seval, reduceCtorEq, ↓reduceIte, beq_dec, Int.toNat_natCast, IntKind.signed, IntKind.bits, List.zip_cons_cons, List.zip_nil_right, List.zip_nil_left, List.map_cons, List.map_nil] | (refine And.intro ?_ ?_; focus (first | (intros; omega) | (intros; simp_all; done))) | refine And.intro (?_ : CallAt _ _ _ _ _ _ _ _) ?_ | refine And.intro (?_ : CallAt _ _ _ _ _ _ _ _ ∧ _) ?_ | refine And.intro (?_ : AW _ _ _ _) ?_ | fail))
                refine .mk _ hnx (by simp [hc]) ?_
                simp (disch := omega) only [go_sem, seval, reduceCtorEq, ↓reduceIte, beq_dec, Int.toNat_natCast, IntKind.signed, IntKind.bits]
          · omega
      · have hie : i = l.length := by omega
        subst hie
        have hpe : pI g.links l l.length = pS g.links l := by unfold pI; rw [List.take_length]
        rw [hpe]
        (repeat' (first | refine NextAt.mk (fun hc => ?_) (fun pre n v post hc hkey => ?_) | refine Sni.mk (fun hc => ?_) ?_ | refine Both.mk ?_ ?_ | refine AW_seq ?_ | refine AW_block ?_ | ((first | refine AW_reg ?_ | refine AW_cond ?_ | refine AW_skip ?_ | refine AW_exit ?_ | refine AW_ret ?_ | refine AW_regD (by kernel_rfl) ?_ | refine AW_regX (by kernel_rfl) ?_ | refine CallAtG.t (Eq.refl true) ?_ | refine CallAtG.f (Eq.refl false) ?_); try simp (disch := omega) only [go_sem, seval, reduceCtorEq, ↓reduceIte, beq_dec, Int.toNat_natCast, IntKind.signed, IntKind.bits]) | refine And.intro (fun hc => (?_ : AW _ _ _ _)) (fun hc => (?_ : AW _ _ _ _)) | simp (disch := omega) only [go_sem, seval, reduceCtorEq, ↓reduceIte, beq_dec, Int.toNat_natCast, IntKind.signed, IntKind.bits] | (refine And.intro ?_ ?_; focus (first | (intros; omega) | (intros; simp_all; done))) | refine And.intro (?_ : CallAt _ _ _ _ _ _ _ _) ?_ | refine And.intro (?_ : CallAt _ _ _ _ _ _ _ _ ∧ _) ?_ | refine And.intro (?_ : AW _ _ _ _) ?_ | fail))
        omega
end Go.Proofs.Ytlomngideedobaa

-- P p_14.txt
open Go Go.AL Go.RowKit
namespace Go.Proofs.Ytlomngideedobaa
set_option maxRecDepth 20000
theorem holdret {Q : Exit → St → Prop} {σ : St} (h : Hold (AW Try.prog .ret Q σ)) : AW Try.prog .ret Q σ := h.out
def fourG : Gr := ⟨[1, 3, 9], [2, 4, 9], [⟨3, 1, 4⟩, ⟨5, 3, 4⟩, ⟨7, 1, 2⟩, ⟨8, 9, 9⟩]⟩
theorem f34 : FnR Try.prog 34 [] [.agg [Row fourG.obv, Row fourG.rev, LL fourG.links]] := by
  refine fn_walk code34 (by simp) ?_
  (repeat' (first | (with_reducible refine holdret ?_; try simp (disch := omega) only [go_sem, seval, reduceCtorEq, ↓reduceIte, beq_dec, Int.toNat_natCast, IntKind.signed, IntKind.bits, List.map_cons, List.map_nil]) | refine NextAt.mk (fun hc => ?_) (fun pre n v post hc hkey => ?_) | refine Sni.mk (fun hc => ?_) ?_ | refine Both.mk ?_ ?_ | refine AW_seq ?_ | refine AW_block ?_ | ((first | refine AW_reg ?_ | refine AW_cond ?_ | refine AW_skip ?_ | refine AW_exit ?_ | refine AW_ret ?_ | refine AW_regD (by kernel_rfl) ?_ | refine AW_regX (by kernel_rfl) ?_ | refine CallAtG.t (Eq.refl true) ?_ | refine CallAtG.f (Eq.refl false) ?_); try simp (disch := omega) only [go_sem, seval, reduceCtorEq, ↓reduceIte, beq_dec, Int.toNat_natCast, IntKind.signed, IntKind.bits, List.map_cons, List.map_nil]) | refine And.intro (fun hc => (?_ : AW _ _ _ _)) (fun hc => (?_ : AW _ _ _ _)) | simp (disch := omega) only [go_sem, seval, reduceCtorEq, ↓reduceIte, beq_dec, Int.toNat_natCast, IntKind.signed, IntKind.bits, List.map_cons, List.map_nil] | (refine And.intro ?_ ?_; focus (first | (intros; omega) | (intros; simp_all; done))) | refine And.intro (?_ : CallAt _ _ _ _ _ _ _ _) ?_ | refine And.intro (?_ : CallAt _ _ _ _ _ _ _ _ ∧ _) ?_ | refine And.intro (?_ : AW _ _ _ _) ?_ | fail))
  refine ⟨AW_frz [1, 2, 7] ?_⟩
  (repeat' (first | refine NextAt.mk (fun hc => ?_) (fun pre n v post hc hkey => ?_) | refine Sni.mk (fun hc => ?_) ?_ | refine Both.mk ?_ ?_ | refine AW_seq ?_ | refine AW_block ?_ | ((first | refine AW_reg ?_ | refine AW_cond ?_ | refine AW_skip ?_ | refine AW_exit ?_ | refine AW_ret ?_ | refine AW_regD (by kernel_rfl) ?_ | refine AW_regX (by kernel_rfl) ?_ | refine CallAtG.t (Eq.refl true) ?_ | refine CallAtG.f (Eq.refl false) ?_); try simp (disch := omega) only [go_sem, seval, reduceCtorEq, ↓reduceIte, beq_dec, Int.toNat_natCast, IntKind.signed, IntKind.bits]) | refine And.intro (fun hc => (?_ : AW _ _ _ _)) (fun hc => (?_ : AW _ _ _ _)) | simp (disch := omega) only [go_sem, seval, reduceCtorEq, ↓reduceIte, beq_dec, Int.toNat_natCast, IntKind.signed, IntKind.bits] | (refine And.intro ?_ ?_; focus (first | (intros; omega) | (intros; simp_all; done))) | refine And.intro (?_ : CallAt _ _ _ _ _ _ _ _) ?_ | refine And.intro (?_ : CallAt _ _ _ _ _ _ _ _ ∧ _) ?_ | refine And.intro (?_ : AW _ _ _ _) ?_ | fail))
  rfl
theorem f10 : FnR Try.prog 10 [] [.c (.B true)] := by
  have g19 := f19 fourG
  have g13 := f13 fourG ⟨0, 3⟩ ⟨1, 2⟩
  have g1 := f16 [0, 0, 1, 0, 0, 1] [0, 0, 1, 0, 0, 1]
  have g2 := f16 [5, 3, 7] [5, 3, 7]
  have e1 : partsE fourG = [0, 0, 1, 0, 0, 1] := by decide +kernel
  have e2 : errV fourG = 0 := by decide +kernel
  have e3 : pathG fourG ⟨0, 3⟩ ⟨1, 2⟩ = [5, 3, 7] := by decide +kernel
  have e4 : awayE fourG ⟨1, 2⟩ ⟨0, 3⟩ = 0 := by decide +kernel
  rw [e1, e2] at g19
  rw [e3, e4] at g13
  simp only [List.map_cons, List.map_nil] at g19 g13 g1 g2
  have g34 := f34
  generalize hG : fourG = G at g19 g13 g34
  refine fn_walk code10 (by simp) ?_
  (repeat' (first | refine NextAt.mk (fun hc => ?_) (fun pre n v post hc hkey => ?_) | refine Sni.mk (fun hc => ?_) ?_ | refine Both.mk ?_ ?_ | refine AW_seq ?_ | refine AW_block ?_ | ((first | refine AW_reg ?_ | refine AW_cond ?_ | refine AW_skip ?_ | refine AW_exit ?_ | refine AW_ret ?_ | refine AW_regD (by kernel_rfl) ?_ | refine AW_regX (by kernel_rfl) ?_ | refine CallAtG.t (Eq.refl true) ?_ | refine CallAtG.f (Eq.refl false) ?_ | refine CallAt.mk _ (g34 ..) (by first | (intro h; cases h; done) | (intro _; repeat' (first | exact List.forall_mem_nil _ | trivial | refine List.forall_mem_cons.2 ⟨?_, ?_⟩)) | (intro _; simp [RV.flatP, CD.flatP, List.map_cons, List.map_nil]; done)) ?_ | refine CallAtG.mk _ (fun _ => g34 ..) ?_ | refine CallDS.mk _ (by simp [RV.data]) (fun _ => g34 ..) (by first | (intro h; cases h; done) | (intro _; repeat' (first | exact List.forall_mem_nil _ | trivial | refine List.forall_mem_cons.2 ⟨?_, ?_⟩)) | (intro _; simp [RV.flatP, CD.flatP, List.map_cons, List.map_nil]; done)) ?_ | refine CallAt.mk _ (g19 ..) (by first | (intro h; cases h; done) | (intro _; repeat' (first | exact List.forall_mem_nil _ | trivial | refine List.forall_mem_cons.2 ⟨?_, ?_⟩)) | (intro _; simp [RV.flatP, CD.flatP, List.map_cons, List.map_nil]; done)) ?_ | refine CallAtG.mk _ (fun _ => g19 ..) ?_ | refine CallDS.mk _ (by simp [RV.data]) (fun _ => g19 ..) (by first | (intro h; cases h; done) | (intro _; repeat' (first | exact List.forall_mem_nil _ | trivial | refine List.forall_mem_cons.2 ⟨?_, ?_⟩)) | (intro _; simp [RV.flatP, CD.flatP, List.map_cons, List.map_nil]; done)) ?_ | refine CallAt.mk _ (g13 ..) (by first | (intro h; cases h; done) | (intro _; repeat' (first | exact List.forall_mem_nil _ | trivial | refine List.forall_mem_cons.2 ⟨?_, ?_⟩)) | (intro _; simp [RV.flatP, CD.flatP, List.map_cons, List.map_nil]; done)) ?_ | refine CallAtG.mk _ (fun _ => g13 ..) ?_ | refine CallDS.mk _ (by simp [RV.data]) (fun _ => g13 ..) (by first | (intro h; cases h; done) | (intro _; repeat' (first | exact List.forall_mem_nil _ | trivial | refine List.forall_mem_cons.2 ⟨?_, ?_⟩)) | (intro _; simp [RV.flatP, CD.flatP, List.map_cons, List.map_nil]; done)) ?_ | refine CallAt.mk _ (g1 ..) (by first | (intro h; cases h; done) | (intro _; repeat' (first | exact List.forall_mem_nil _ | trivial | refine List.forall_mem_cons.2 ⟨?_, ?_⟩)) | (intro _; simp [RV.flatP, CD.flatP, List.map_cons, List.map_nil]; done)) ?_ | refine CallAtG.mk _ (fun _ => g1 ..) ?_ | refine CallDS.mk _ (by simp [RV.data]) (fun _ => g1 ..) (by first | (intro h; cases h; done) | (intro _; repeat' (first | exact List.forall_mem_nil _ | trivial | refine List.forall_mem_cons.2 ⟨?_, ?_⟩)) | (intro _; simp [RV.flatP, CD.flatP, List.map_cons, List.map_nil]; done)) ?_ | refine CallAt.mk _ (g2 ..) (by first | (intro h; cases h; done) | (intro _; repeat' (first | exact List.forall_mem_nil _ | trivial | refine List.forall_mem_cons.2 ⟨?_, ?_⟩)) | (intro _; simp [RV.flatP, CD.flatP, List.map_cons, List.map_nil]; done)) ?_ | refine CallAtG.mk _ (fun _ => g2 ..) ?_ | refine CallDS.mk _ (by simp [RV.data]) (fun _ => g2 ..) (by first | (intro h; cases h; done) | (intro _; repeat' (first | exact List.forall_mem_nil _ | trivial | refine List.forall_mem_cons.2 ⟨?_, ?_⟩)) | (intro _; simp [RV.flatP, CD.flatP, List.map_cons, List.map_nil]; done)) ?_); try simp (disch := omega) only [go_sem, seval, reduceCtorEq, ↓reduceIte, beq_dec, Int.toNat_natCast, IntKind.signed, IntKind.bits, List.map_cons, List.map_nil]) | refine And.intro (fun hc => (?_ : AW _ _ _ _)) (fun hc => (?_ : AW _ _ _ _)) | simp (disch := omega) only [go_sem, seval, reduceCtorEq, ↓reduceIte, beq_dec, Int.toNat_natCast, IntKind.signed, IntKind.bits, List.map_cons, List.map_nil] | (refine And.intro ?_ ?_; focus (first | (intros; omega) | (intros; simp_all; done))) | refine And.intro (?_ : CallAt _ _ _ _ _ _ _ _) ?_ | refine And.intro (?_ : CallAt _ _ _ _ _ _ _ _ ∧ _) ?_ | refine And.intro (?_ : AW _ _ _ _) ?_ | fail))
end Go.Proofs.Ytlomngideedobaa

-- P p_14.txt
open Go Go.AL Go.RowKit
namespace Go.Proofs.Ytlomngideedobaa
set_option maxRecDepth 20000
end Go.Proofs.Ytlomngideedobaa

