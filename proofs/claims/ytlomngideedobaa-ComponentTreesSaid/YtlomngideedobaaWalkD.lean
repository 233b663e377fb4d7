/-
  Lemmas for the proof: no statement of its own.
-/
import Derived.Test.YtlomngideedobaaWalkC
set_option linter.unusedVariables false
set_option linter.unusedSimpArgs false
-- P p_14.txt
open Go Go.AL Go.RowKit
namespace Go.Proofs.Ytlomngideedobaa
set_option maxRecDepth 20000
theorem argAV_get (o : Option Int) : argAV ((o.map fun v => (Sum.inl (CD.I v) : Sum CD (List CD))).getD (.inl (.sc (.int .i64 0)))) = .I (o.getD 0) := by cases o <;> rfl
def awayE (g : Gr) (a b : Die) : Int := if validG g then (if a ∈ diesG g ∧ b ∈ diesG g ∧ (dst g.links a b).isSome then 0 else 7) else 1
def awayM (g : Gr) (a b : Die) : CD := if awayE g a b = 0 then .mp KD (mapB (bfsA g.links a)) else .mn
theorem dies_valid {g : Gr} (h : validG g = true) : diesV g = diesG g := by unfold diesV; rw [h]; rfl
theorem f35 (g : Gr) (a b : Die) : FnR Try.prog 35 [g.av, a.av, b.av] [.c (awayM g a b), .c (.I (awayE g a b))] := by
  have g32 := f32 g
  have ga := f56 g a
  have gb := f56 g b
  cases hv : validG g with
  | false =>
    rw [hv] at g32
    have e : awayE g a b = 1 := by unfold awayE; rw [hv]; rfl
    have em : awayM g a b = .mn := by unfold awayM; rw [e]; rfl
    rw [e, em]
    refine fn_walk code35 (by simp) ?_
    (repeat' (first | refine NextAt.mk (fun hc => ?_) (fun pre n v post hc hkey => ?_) | refine Sni.mk (fun hc => ?_) ?_ | refine Both.mk ?_ ?_ | refine AW_seq ?_ | refine AW_block ?_ | ((first | refine AW_reg ?_ | refine AW_cond ?_ | refine AW_skip ?_ | refine AW_exit ?_ | refine AW_ret ?_ | refine AW_regD (by kernel_rfl) ?_ | refine AW_regX (by kernel_rfl) ?_ | refine CallAtG.t (Eq.refl true) ?_ | refine CallAtG.f (Eq.refl false) ?_ | refine CallAt.mk _ (g32 ..) (by first | (intro h; cases h; done) | (intro _; repeat' (first | exact List.forall_mem_nil _ | trivial | refine List.forall_mem_cons.2 ⟨?_, ?_⟩)) | (intro _; simp [RV.flatP, CD.flatP]; done)) ?_ | refine CallAtG.mk _ (fun _ => g32 ..) ?_ | refine CallDS.mk _ (by simp [RV.data]) (fun _ => g32 ..) (by first | (intro h; cases h; done) | (intro _; repeat' (first | exact List.forall_mem_nil _ | trivial | refine List.forall_mem_cons.2 ⟨?_, ?_⟩)) | (intro _; simp [RV.flatP, CD.flatP]; done)) ?_); try simp (disch := omega) only [go_sem, seval, reduceCtorEq, ↓reduceIte, beq_dec, Int.toNat_natCast, IntKind.signed, IntKind.bits]) | refine And.intro (fun hc => (?_ : AW _ _ _ _)) (fun hc => (?_ : AW _ _ _ _)) | simp (disch := omega) only [go_sem, seval, reduceCtorEq, ↓reduceIte, beq_dec, Int.toNat_natCast, IntKind.signed, IntKind.bits] | (refine And.intro ?_ ?_; focus (first | (intros; omega) | (intros; simp_all; done))) | refine And.intro (?_ : CallAt _ _ _ _ _ _ _ _) ?_ | refine And.intro (?_ : CallAt _ _ _ _ _ _ _ _ ∧ _) ?_ | refine And.intro (?_ : AW _ _ _ _) ?_ | fail))
  | true =>
    rw [hv] at g32
    rw [dies_valid hv] at ga gb
    have g42 := f42 g a (valid_small hv).2.2
    have hlk := mlook_mapB (bfsA g.links a)
    refine fn_walk code35 (by simp) ?_
    (repeat' (first | refine NextAt.mk (fun hc => ?_) (fun pre n v post hc hkey => ?_) | refine Sni.mk (fun hc => ?_) ?_ | refine Both.mk ?_ ?_ | refine AW_seq ?_ | refine AW_block ?_ | ((first | refine AW_reg ?_ | refine AW_cond ?_ | refine AW_skip ?_ | refine AW_exit ?_ | refine AW_ret ?_ | refine AW_regD (by kernel_rfl) ?_ | refine AW_regX (by kernel_rfl) ?_ | refine CallAtG.t (Eq.refl true) ?_ | refine CallAtG.f (Eq.refl false) ?_ | refine CallAt.mk _ (g32 ..) (by first | (intro h; cases h; done) | (intro _; repeat' (first | exact List.forall_mem_nil _ | trivial | refine List.forall_mem_cons.2 ⟨?_, ?_⟩)) | (intro _; simp [RV.flatP, CD.flatP, hlk, lookAV, argAV_get, isSome_map]; done)) ?_ | refine CallAtG.mk _ (fun _ => g32 ..) ?_ | refine CallDS.mk _ (by simp [RV.data]) (fun _ => g32 ..) (by first | (intro h; cases h; done) | (intro _; repeat' (first | exact List.forall_mem_nil _ | trivial | refine List.forall_mem_cons.2 ⟨?_, ?_⟩)) | (intro _; simp [RV.flatP, CD.flatP, hlk, lookAV, argAV_get, isSome_map]; done)) ?_ | refine CallAt.mk _ (ga ..) (by first | (intro h; cases h; done) | (intro _; repeat' (first | exact List.forall_mem_nil _ | trivial | refine List.forall_mem_cons.2 ⟨?_, ?_⟩)) | (intro _; simp [RV.flatP, CD.flatP, hlk, lookAV, argAV_get, isSome_map]; done)) ?_ | refine CallAtG.mk _ (fun _ => ga ..) ?_ | refine CallDS.mk _ (by simp [RV.data]) (fun _ => ga ..) (by first | (intro h; cases h; done) | (intro _; repeat' (first | exact List.forall_mem_nil _ | trivial | refine List.forall_mem_cons.2 ⟨?_, ?_⟩)) | (intro _; simp [RV.flatP, CD.flatP, hlk, lookAV, argAV_get, isSome_map]; done)) ?_ | refine CallAt.mk _ (gb ..) (by first | (intro h; cases h; done) | (intro _; repeat' (first | exact List.forall_mem_nil _ | trivial | refine List.forall_mem_cons.2 ⟨?_, ?_⟩)) | (intro _; simp [RV.flatP, CD.flatP, hlk, lookAV, argAV_get, isSome_map]; done)) ?_ | refine CallAtG.mk _ (fun _ => gb ..) ?_ | refine CallDS.mk _ (by simp [RV.data]) (fun _ => gb ..) (by first | (intro h; cases h; done) | (intro _; repeat' (first | exact List.forall_mem_nil _ | trivial | refine List.forall_mem_cons.2 ⟨?_, ?_⟩)) | (intro _; simp [RV.flatP, CD.flatP, hlk, lookAV, argAV_get, isSome_map]; done)) ?_ | refine CallAt.mk _ (g42 ..) (by first | (intro h; cases h; done) | (intro _; repeat' (first | exact List.forall_mem_nil _ | trivial | refine List.forall_mem_cons.2 ⟨?_, ?_⟩)) | (intro _; simp [RV.flatP, CD.flatP, hlk, lookAV, argAV_get, isSome_map]; done)) ?_ | refine CallAtG.mk _ (fun _ => g42 ..) ?_ | refine CallDS.mk _ (by simp [RV.data]) (fun _ => g42 ..) (by first | (intro h; cases h; done) | (intro _; repeat' (first | exact List.forall_mem_nil _ | trivial | refine List.forall_mem_cons.2 ⟨?_, ?_⟩)) | (intro _; simp [RV.flatP, CD.flatP, hlk, lookAV, argAV_get, isSome_map]; done)) ?_); try simp (disch := omega) only [go_sem, seval, reduceCtorEq, ↓reduceIte, beq_dec, Int.toNat_natCast, IntKind.signed, IntKind.bits, hlk, lookAV, argAV_get, isSome_map]) | refine And.intro (fun hc => (?_ : AW _ _ _ _)) (fun hc => (?_ : AW _ _ _ _)) | simp (disch := omega) only [go_sem, seval, reduceCtorEq, ↓reduceIte, beq_dec, Int.toNat_natCast, IntKind.signed, IntKind.bits, hlk, lookAV, argAV_get, isSome_map] | (refine And.intro ?_ ?_; focus (first | (intros; omega) | (intros; simp_all; done))) | refine And.intro (?_ : CallAt _ _ _ _ _ _ _ _) ?_ | refine And.intro (?_ : CallAt _ _ _ _ _ _ _ _ ∧ _) ?_ | refine And.intro (?_ : AW _ _ _ _) ?_ | fail))
    · have e : awayE g a b = 7 := by unfold awayE; rw [hv, if_pos rfl, if_neg (fun h => by rcases hc with hc | hc; exact hc h.1; exact hc h.2.1)]
      have em : awayM g a b = .mn := by unfold awayM; rw [e]; rfl
      rw [e, em]; exact ⟨rfl, rfl⟩
    · have e : awayE g a b = 7 := by unfold awayE; rw [hv, if_pos rfl, if_neg (fun h => by have := h.2.2; unfold dst at this; rw [hc] at this; cases this)]
      have em : awayM g a b = .mn := by unfold awayM; rw [e]; rfl
      rw [e, em]; exact ⟨rfl, rfl⟩
    · rename_i hc2
      have e : awayE g a b = 0 := by unfold awayE; rw [hv, if_pos rfl, if_pos ⟨hc2.1, hc2.2, hc⟩]
      have em : awayM g a b = .mp KD (mapB (bfsA g.links a)) := by unfold awayM; rw [e]; rfl
      rw [e, em]; exact ⟨rfl, rfl⟩
theorem f17 (g : Gr) (a b : Die) : FnR Try.prog 17 [g.av, a.av, b.av] [.c (.B (decide (awayE g a b = 0)))] := by
  have g35 := f35 g a b
  refine fn_walk code17 (by simp) ?_
  (repeat' (first | refine NextAt.mk (fun hc => ?_) (fun pre n v post hc hkey => ?_) | refine Sni.mk (fun hc => ?_) ?_ | refine Both.mk ?_ ?_ | refine AW_seq ?_ | refine AW_block ?_ | ((first | refine AW_reg ?_ | refine AW_cond ?_ | refine AW_skip ?_ | refine AW_exit ?_ | refine AW_ret ?_ | refine AW_regD (by kernel_rfl) ?_ | refine AW_regX (by kernel_rfl) ?_ | refine CallAtG.t (Eq.refl true) ?_ | refine CallAtG.f (Eq.refl false) ?_ | refine CallAt.mk _ (g35 ..) (by first | (intro h; cases h; done) | (intro _; repeat' (first | exact List.forall_mem_nil _ | trivial | refine List.forall_mem_cons.2 ⟨?_, ?_⟩)) | (intro _; simp [RV.flatP, CD.flatP]; done)) ?_ | refine CallAtG.mk _ (fun _ => g35 ..) ?_ | refine CallDS.mk _ (by simp [RV.data]) (fun _ => g35 ..) (by first | (intro h; cases h; done) | (intro _; repeat' (first | exact List.forall_mem_nil _ | trivial | refine List.forall_mem_cons.2 ⟨?_, ?_⟩)) | (intro _; simp [RV.flatP, CD.flatP]; done)) ?_); try simp (disch := omega) only [go_sem, seval, reduceCtorEq, ↓reduceIte, beq_dec, Int.toNat_natCast, IntKind.signed, IntKind.bits]) | refine And.intro (fun hc => (?_ : AW _ _ _ _)) (fun hc => (?_ : AW _ _ _ _)) | simp (disch := omega) only [go_sem, seval, reduceCtorEq, ↓reduceIte, beq_dec, Int.toNat_natCast, IntKind.signed, IntKind.bits] | (refine And.intro ?_ ?_; focus (first | (intros; omega) | (intros; simp_all; done))) | refine And.intro (?_ : CallAt _ _ _ _ _ _ _ _) ?_ | refine And.intro (?_ : CallAt _ _ _ _ _ _ _ _ ∧ _) ?_ | refine And.intro (?_ : AW _ _ _ _) ?_ | fail))
end Go.Proofs.Ytlomngideedobaa

-- P p_14.txt
open Go Go.AL Go.RowKit
namespace Go.Proofs.Ytlomngideedobaa
set_option maxRecDepth 20000
/-! ### the first of the shortest paths -/
def mat (g : List Lk) (b x : Die) (l : Lk) : Option (Int × Die) := match across l x with
  | some y => if (dst g b y).getD 0 = (dst g b x).getD 0 - 1 then some (l.id, y) else none
  | none => none
def stp (g : List Lk) (b x : Die) : Option (Int × Die) := g.findSome? (mat g b x)
def pth (g : List Lk) (b a : Die) : Nat → Die × List Int
  | 0 => (a, [])
  | j + 1 => match stp g b (pth g b a j).1 with
    | some (i, y) => (y, (pth g b a j).2 ++ [i])
    | none => pth g b a j
theorem stp_at {g : List Lk} {b x : Die} {i : Nat} {r : Int × Die} (hi : i < g.length) (h : mat g b x (nth g i) = some r) (hb : ∀ j, j < i → mat g b x (nth g j) = none) : stp g b x = some r := by
  unfold stp
  have key : ∀ (l : List Lk) (i : Nat), i < l.length → mat g b x (nth l i) = some r → (∀ j, j < i → mat g b x (nth l j) = none) → l.findSome? (mat g b x) = some r := by
    intro l
    induction l with
    | nil => intro i hi; simp at hi
    | cons k l ih =>
      intro i hi h hb
      cases i with
      | zero => have h : mat g b x k = some r := h; rw [List.findSome?_cons, h]
      | succ i =>
        have h0 : mat g b x k = none := hb 0 (by omega)
        rw [List.findSome?_cons, h0]
        exact ih i (by simpa using hi) (by simpa [nth] using h) fun j hj => by have := hb (j + 1) (by omega); simpa [nth] using this
  exact key g i hi h hb
theorem stp_none {g : List Lk} {b x : Die} {r : Int × Die} (h : ∀ j, j < g.length → mat g b x (nth g j) = none) (hs : stp g b x = some r) : False := by
  have : stp g b x = none := by
    unfold stp
    rw [List.findSome?_eq_none_iff]
    exact all_nth h
  rw [this] at hs; cases hs
theorem mat_some {g : List Lk} {b x y : Die} {i : Int} {l : Lk} (h : mat g b x l = some (i, y)) : l.id = i ∧ across l x = some y ∧ (dst g b y).getD 0 = (dst g b x).getD 0 - 1 := by
  unfold mat at h
  split at h
  · rename_i y' hy
    split at h
    · rename_i he; simp at h; obtain ⟨rfl, rfl⟩ := h; exact ⟨rfl, hy, he⟩
    · cases h
  · cases h
theorem stp_some {g : List Lk} {b x : Die} {n : Int} (hd : dst g b x = some n) (hn : 0 < n) : ∃ i y, stp g b x = some (i, y) ∧ dst g b y = some (n - 1) := by
  obtain ⟨y, ⟨l, hl, hy⟩, he⟩ := dst_near hd hn
  have hm : mat g b x l = some (l.id, y) := by unfold mat; rw [hy]; simp only; rw [if_pos (by rw [he, hd]; rfl)]
  cases hs : stp g b x with
  | none =>
    unfold stp at hs
    rw [List.findSome?_eq_none_iff] at hs
    have := hs l hl; rw [hm] at this; cases this
  | some r =>
    obtain ⟨i, z⟩ := r
    refine ⟨i, z, rfl, ?_⟩
    unfold stp at hs
    obtain ⟨k, hk, hkm⟩ := List.exists_of_findSome?_eq_some hs
    obtain ⟨_, h2, h3⟩ := mat_some hkm
    obtain ⟨m, hm', _, _⟩ := dst_adj hd ⟨k, hk, h2⟩
    rw [hd, hm'] at h3
    simp at h3
    rw [hm', h3]
theorem pth_dst {g : List Lk} {b a : Die} {n : Nat} (hd : dst g b a = some (n : Int)) : ∀ j, j ≤ n → dst g b (pth g b a j).1 = some ((n : Int) - j)
  | 0, _ => by show dst g b a = _; rw [hd]; simp
  | j + 1, hj => by
    have ih := pth_dst hd j (by omega)
    obtain ⟨i, y, h1, h2⟩ := stp_some ih (by omega)
    unfold pth; rw [h1]
    simp only
    rw [h2]; congr 1; omega
theorem pth_succ {g : List Lk} {b a : Die} {j : Nat} {i : Int} {y : Die} (h : stp g b (pth g b a j).1 = some (i, y)) : pth g b a (j + 1) = (y, (pth g b a j).2 ++ [i]) := by
  show (match stp g b (pth g b a j).1 with | some (i, y) => (y, (pth g b a j).2 ++ [i]) | none => pth g b a j) = _
  rw [h]
theorem pth_len (g : List Lk) (b a : Die) : ∀ j, (pth g b a j).2.length ≤ j
  | 0 => Nat.le_refl _
  | j + 1 => by
    have ih := pth_len g b a j
    unfold pth
    split
    · simp; omega
    · omega
def pathG (g : Gr) (a b : Die) : List Int := if awayE g b a = 0 then (pth g.links b a ((dst g.links b a).getD 0).toNat).2 else []
theorem valid_ends {g : Gr} (h : validG g = true) : Ends (diesG g) g.links := by
  obtain ⟨_, _, _, hl, _⟩ := (validG_iff g).1 h
  refine all_nth (p := fun k : Lk => k.o ∈ diesG g ∧ k.r ∈ diesG g) fun i hi => ?_
  obtain ⟨_, _, _, h1, h2⟩ := hl i hi
  unfold diesG Lk.o Lk.r
  exact ⟨List.mem_append_left _ (List.mem_map_of_mem h1), List.mem_append_right _ (List.mem_map_of_mem h2)⟩
theorem awayE_zero {g : Gr} {a b : Die} (h : awayE g a b = 0) : validG g = true ∧ a ∈ diesG g ∧ b ∈ diesG g ∧ ∃ n : Nat, dst g.links a b = some (n : Int) := by
  unfold awayE at h
  split at h
  · rename_i hv
    split at h
    · rename_i hc
      obtain ⟨h1, h2, h3⟩ := hc
      cases hd : dst g.links a b with
      | none => rw [hd] at h3; cases h3
      | some n =>
        have := (dst_some.1 hd).1
        exact ⟨hv, h1, h2, n.toNat, by congr 1; omega⟩
    · omega
  · omega
theorem dies_len (g : Gr) : (diesG g).length = g.obv.length + g.rev.length := by unfold diesG; simp
theorem iRow_app (l : List Int) (x : Int) : iRow (l ++ [x]) = iRow l ++ [[CD.I x]] := by unfold iRow; rw [List.map_append]; rfl
set_option maxHeartbeats 4000000 in
theorem f13 (g : Gr) (a b : Die) : FnR Try.prog 13 [g.av, a.av, b.av] [ORow (pathG g a b), .c (.I (awayE g b a))] := by
  have g35 := f35 g b a
  by_cases he : awayE g b a = 0
  · have em : awayM g b a = .mp KD (mapB (bfsA g.links b)) := by unfold awayM; rw [if_pos he]
    obtain ⟨hv, hb, ha, n, hn⟩ := awayE_zero he
    have hpe : pathG g a b = (pth g.links b a n).2 := by unfold pathG; rw [if_pos he, hn]; rfl
    have hnl : n < (diesG g).length := by have := dst_lt (valid_ends hv) hb hn; omega
    have hlen := dies_len g
    have hsm := valid_small hv
    have hlk : ∀ d : Die, mlook (mapB (bfsA g.links b)) [d.side, d.num] = (dst g.links b d).map fun v => .inl (.I v) := mlook_mapB (bfsA g.links b)
    rw [em, he] at g35
    rw [he, hpe]
    refine fn_walk code13 (by simp) ?_
    (repeat' (first | refine NextAt.mk (fun hc => ?_) (fun pre n v post hc hkey => ?_) | refine Sni.mk (fun hc => ?_) ?_ | refine Both.mk ?_ ?_ | refine AW_seq ?_ | refine AW_block ?_ | ((first | refine AW_reg ?_ | refine AW_cond ?_ | refine AW_skip ?_ | refine AW_exit ?_ | refine AW_ret ?_ | refine AW_regD (by kernel_rfl) ?_ | refine AW_regX (by kernel_rfl) ?_ | refine CallAtG.t (Eq.refl true) ?_ | refine CallAtG.f (Eq.refl false) ?_ | refine CallAt.mk _ (g35 ..) (by first | (intro h; cases h; done) | (intro _; repeat' (first | exact List.forall_mem_nil _ | trivial | refine List.forall_mem_cons.2 ⟨?_, ?_⟩)) | (intro _; simp [RV.flatP, CD.flatP]; done)) ?_ | refine CallAtG.mk _ (fun _ => g35 ..) ?_ | refine CallDS.mk _ (by simp [RV.data]) (fun _ => g35 ..) (by first | (intro h; cases h; done) | (intro _; repeat' (first | exact List.forall_mem_nil _ | trivial | refine List.forall_mem_cons.2 ⟨?_, ?_⟩)) | (intro _; simp [RV.flatP, CD.flatP]; done)) ?_); try simp (disch := omega) only [go_sem, seval, reduceCtorEq, ↓reduceIte, beq_dec, Int.toNat_natCast, IntKind.signed, IntKind.bits]) | refine And.intro (fun hc => (?_ : AW _ _ _ _)) (fun hc => (?_ : AW _ _ _ _)) | simp (disch := omega) only [go_sem, seval, reduceCtorEq, ↓reduceIte, beq_dec, Int.toNat_natCast, IntKind.signed, IntKind.bits] | (refine And.intro ?_ ?_; focus (first | (intros; omega) | (intros; simp_all; done))) | refine And.intro (?_ : CallAt _ _ _ _ _ _ _ _) ?_ | refine And.intro (?_ : CallAt _ _ _ _ _ _ _ _ ∧ _) ?_ | refine And.intro (?_ : AW _ _ _ _) ?_ | fail))
    refine AW_nil 10 900 3 1 (by rfl) ?_
    refine AW_loopK [3, 5, 8] [10, 11, 13, 14, 15, 27, 28, 29, 30, 31, 32, 33, 34, 35, 36, 37, 38, 39, 40, 41, 42, 43, 44, 45, 46, 47, 48, 49, 50, 51, 52, 53, 54, 55, 56, 57, 58, 59, 60, 61] (fun j : Nat => j ≤ n) (fun j => [(10, .own 900), (11, .ptr 11 0)]) (fun j => [(11, .box 27 [.I (pth g.links b a j).1.side, .I (pth g.links b a j).1.num]), (900, .arr 3 1 (iRow (pth g.links b a j).2))]) (fun j => n - j) 0 (by omega) ?_ ?_
    · simp (disch := omega) only [go_sem, seval, reduceCtorEq, ↓reduceIte, beq_dec, Int.toNat_natCast, IntKind.signed, IntKind.bits, pth, List.map_nil]
    · intro j hj
      have hdj := pth_dst hn j hj
      have hpl := pth_len g.links b a j
      (repeat' (first | refine NextAt.mk (fun hc => ?_) (fun pre n v post hc hkey => ?_) | refine Sni.mk (fun hc => ?_) ?_ | refine Both.mk ?_ ?_ | refine AW_seq ?_ | refine AW_block ?_ | ((first | refine AW_reg ?_ | refine AW_cond ?_ | refine AW_skip ?_ | refine AW_exit ?_ | refine AW_ret ?_ | refine AW_regD (by kernel_rfl) ?_ | refine AW_regX (by kernel_rfl) ?_ | refine CallAtG.t (Eq.refl true) ?_ | refine CallAtG.f (Eq.refl false) ?_); try simp (disch := omega) only [go_sem, seval, reduceCtorEq, ↓reduceIte, beq_dec, Int.toNat_natCast, IntKind.signed, IntKind.bits]) | refine And.intro (fun hc => (?_ : AW _ _ _ _)) (fun hc => (?_ : AW _ _ _ _)) | simp (disch := omega) only [go_sem, seval, reduceCtorEq, ↓reduceIte, beq_dec, Int.toNat_natCast, IntKind.signed, IntKind.bits] | (refine And.intro ?_ ?_; focus (first | (intros; omega) | (intros; simp_all; done))) | refine And.intro (?_ : CallAt _ _ _ _ _ _ _ _) ?_ | refine And.intro (?_ : CallAt _ _ _ _ _ _ _ _ ∧ _) ?_ | refine And.intro (?_ : AW _ _ _ _) ?_ | fail))
      · obtain ⟨x, hx⟩ : ∃ x, x = (pth g.links b a j).1 := ⟨_, rfl⟩
        have hsu := fun (q : Int) (y : Die) (h : stp g.links b x = some (q, y)) => pth_succ (g := g.links) (b := b) (a := a) (j := j) (by rw [← hx]; exact h)
        rw [← hx] at hc hdj
        have hjn : j < n := by
          rcases Nat.lt_or_ge j n with h | h
          · exact h
          · rw [show (n : Int) - j = 0 by omega] at hdj
            have := die_ext.1 (dst_zero hdj)
            rcases hc with hc | hc
            · exact absurd this.1 hc
            · exact absurd this.2 hc
        obtain ⟨qi, qy, hst, _⟩ := stp_some hdj (by omega)
        rw [← hx]
        generalize (pth g.links b a j).2 = out at *
        clear hx
        have hdx : (dst g.links b x).getD 0 = (n : Int) - j := by rw [hdj]; rfl
        refine AW_loopK [3, 5, 8, 11, 31, 32] [10, 13, 14, 15, 33, 34, 35, 36, 37, 38, 39, 40, 41, 42, 43, 44, 45, 46, 47, 48, 49, 50, 51, 52, 53, 54, 55, 56, 57, 58, 59, 60] (fun i : Nat => i ≤ g.links.length ∧ ∀ k, k < i → mat g.links b x (nth g.links k) = none) (fun i => [(10, .own 900), (11, .ptr 11 0), (33, .I i)]) (fun _ => [(11, .box 27 [.I x.side, .I x.num]), (900, .arr 3 1 (iRow out))]) (fun i => g.links.length - i) 0 ⟨by omega, by omega⟩ ?_ ?_
        · simp (disch := omega) only [go_sem, seval, reduceCtorEq, ↓reduceIte, beq_dec, Int.toNat_natCast, IntKind.signed, IntKind.bits, Int.natCast_zero]
        · rintro i ⟨hi, hbm⟩
          have g36 := f36 (nth g.links i) x
          cases hac : across (nth g.links i) x with
          | none =>
            have hm : mat g.links b x (nth g.links i) = none := by unfold mat; rw [hac]
            rw [hac, show (none : Option Die).isSome = false from rfl] at g36
            (repeat' (first | refine NextAt.mk (fun hc => ?_) (fun pre n v post hc hkey => ?_) | refine Sni.mk (fun hc => ?_) ?_ | refine Both.mk ?_ ?_ | refine AW_seq ?_ | refine AW_block ?_ | ((first | refine AW_reg ?_ | refine AW_cond ?_ | refine AW_skip ?_ | refine AW_exit ?_ | refine AW_ret ?_ | refine AW_regD (by kernel_rfl) ?_ | refine AW_regX (by kernel_rfl) ?_ | refine CallAtG.t (Eq.refl true) ?_ | refine CallAtG.f (Eq.refl false) ?_ | refine CallAt.mk _ (g36 ..) (by first | (intro h; cases h; done) | (intro _; repeat' (first | exact List.forall_mem_nil _ | trivial | refine List.forall_mem_cons.2 ⟨?_, ?_⟩)) | (intro _; simp [RV.flatP, CD.flatP, getD_map Lk.cd, Lk.cd, Die.cd, List.map_cons, List.map_nil, hlk, lookAV, argAV_get, hdx]; done)) ?_ | refine CallAtG.mk _ (fun _ => g36 ..) ?_ | refine CallDS.mk _ (by simp [RV.data]) (fun _ => g36 ..) (by first | (intro h; cases h; done) | (intro _; repeat' (first | exact List.forall_mem_nil _ | trivial | refine List.forall_mem_cons.2 ⟨?_, ?_⟩)) | (intro _; simp [RV.flatP, CD.flatP, getD_map Lk.cd, Lk.cd, Die.cd, List.map_cons, List.map_nil, hlk, lookAV, argAV_get, hdx]; done)) ?_); try simp (disch := omega) only [go_sem, seval, reduceCtorEq, ↓reduceIte, beq_dec, Int.toNat_natCast, IntKind.signed, IntKind.bits, getD_map Lk.cd, Lk.cd, Die.cd, List.map_cons, List.map_nil, hlk, lookAV, argAV_get, hdx]) | refine And.intro (fun hc => (?_ : AW _ _ _ _)) (fun hc => (?_ : AW _ _ _ _)) | simp (disch := omega) only [go_sem, seval, reduceCtorEq, ↓reduceIte, beq_dec, Int.toNat_natCast, IntKind.signed, IntKind.bits, getD_map Lk.cd, Lk.cd, Die.cd, List.map_cons, List.map_nil, hlk, lookAV, argAV_get, hdx] | (refine And.intro ?_ ?_; focus (first | (intros; omega) | (intros; simp_all; done))) | refine And.intro (?_ : CallAt _ _ _ _ _ _ _ _) ?_ | refine And.intro (?_ : CallAt _ _ _ _ _ _ _ _ ∧ _) ?_ | refine And.intro (?_ : AW _ _ _ _) ?_ | fail))
            · refine .mk (i + 1) ⟨by omega, step_lt hbm hm⟩ (by omega) ?_
              simp (disch := omega) only [go_sem, seval, reduceCtorEq, ↓reduceIte, beq_dec, Int.toNat_natCast, IntKind.signed, IntKind.bits, Int.natCast_add, Int.natCast_one]
            · exact absurd hst fun h => stp_none (fun k hk => hbm k (by omega)) h
          | some y =>
            have hay := acrD_eq hac
            rw [hac, hay, show (some y).isSome = true from rfl] at g36
            (repeat' (first | refine NextAt.mk (fun hc => ?_) (fun pre n v post hc hkey => ?_) | refine Sni.mk (fun hc => ?_) ?_ | refine Both.mk ?_ ?_ | refine AW_seq ?_ | refine AW_block ?_ | ((first | refine AW_reg ?_ | refine AW_cond ?_ | refine AW_skip ?_ | refine AW_exit ?_ | refine AW_ret ?_ | refine AW_regD (by kernel_rfl) ?_ | refine AW_regX (by kernel_rfl) ?_ | refine CallAtG.t (Eq.refl true) ?_ | refine CallAtG.f (Eq.refl false) ?_ | refine CallAt.mk _ (g36 ..) (by first | (intro h; cases h; done) | (intro _; repeat' (first | exact List.forall_mem_nil _ | trivial | refine List.forall_mem_cons.2 ⟨?_, ?_⟩)) | (intro _; simp [RV.flatP, CD.flatP, getD_map Lk.cd, Lk.cd, Die.cd, List.map_cons, List.map_nil, hlk, lookAV, argAV_get, Bool.true_and, hdx, List.length_append, List.length_map, maxLen]; done)) ?_ | refine CallAtG.mk _ (fun _ => g36 ..) ?_ | refine CallDS.mk _ (by simp [RV.data]) (fun _ => g36 ..) (by first | (intro h; cases h; done) | (intro _; repeat' (first | exact List.forall_mem_nil _ | trivial | refine List.forall_mem_cons.2 ⟨?_, ?_⟩)) | (intro _; simp [RV.flatP, CD.flatP, getD_map Lk.cd, Lk.cd, Die.cd, List.map_cons, List.map_nil, hlk, lookAV, argAV_get, Bool.true_and, hdx, List.length_append, List.length_map, maxLen]; done)) ?_); try simp (disch := omega) only [go_sem, seval, reduceCtorEq, ↓reduceIte, beq_dec, Int.toNat_natCast, IntKind.signed, IntKind.bits, getD_map Lk.cd, Lk.cd, Die.cd, List.map_cons, List.map_nil, hlk, lookAV, argAV_get, Bool.true_and, hdx, List.length_append, List.length_map, maxLen]) | refine And.intro (fun hc => (?_ : AW _ _ _ _)) (fun hc => (?_ : AW _ _ _ _)) | simp (disch := omega) only [go_sem, seval, reduceCtorEq, ↓reduceIte, beq_dec, Int.toNat_natCast, IntKind.signed, IntKind.bits, getD_map Lk.cd, Lk.cd, Die.cd, List.map_cons, List.map_nil, hlk, lookAV, argAV_get, Bool.true_and, hdx, List.length_append, List.length_map, maxLen] | (refine And.intro ?_ ?_; focus (first | (intros; omega) | (intros; simp_all; done))) | refine And.intro (?_ : CallAt _ _ _ _ _ _ _ _) ?_ | refine And.intro (?_ : CallAt _ _ _ _ _ _ _ _ ∧ _) ?_ | refine And.intro (?_ : AW _ _ _ _) ?_ | fail))
            all_goals first
              | (exact absurd hst fun h => stp_none (fun k hk => hbm k (by omega)) h)
              | (have hm : mat g.links b x (nth g.links i) = some ((nth g.links i).id, y) := by
                   unfold mat; rw [hac]; simp only; rw [if_pos (by rw [hdx]; assumption)]
                 refine .mk (j + 1) (by omega) (by omega) ?_
                 rw [hsu _ _ (stp_at (by omega) hm hbm)]
                 simp only [iRow_app]
                 simp (disch := omega) only [go_sem, seval, reduceCtorEq, ↓reduceIte, beq_dec, Int.toNat_natCast, IntKind.signed, IntKind.bits, Int.natCast_add, Int.natCast_one])
              | (have hm : mat g.links b x (nth g.links i) = none := by
                   unfold mat; rw [hac]; simp only; rw [if_neg (by rw [hdx]; assumption)]
                 refine .mk (i + 1) ⟨by omega, step_lt hbm hm⟩ (by omega) ?_
                 simp (disch := omega) only [go_sem, seval, reduceCtorEq, ↓reduceIte, beq_dec, Int.toNat_natCast, IntKind.signed, IntKind.bits, Int.natCast_add, Int.natCast_one])
              | trace_state
      · have hxb : (pth g.links b a j).1 = b := die_ext.2 hc
        rw [hxb, dst_self] at hdj
        have : j = n := by simp at hdj; omega
        rw [this]
  · have hpe : pathG g a b = [] := by unfold pathG; rw [if_neg he]
    rw [hpe]
    refine fn_walk code13 (by simp) ?_
    (repeat' (first | refine NextAt.mk (fun hc => ?_) (fun pre n v post hc hkey => ?_) | refine Sni.mk (fun hc => ?_) ?_ | refine Both.mk ?_ ?_ | refine AW_seq ?_ | refine AW_block ?_ | ((first | refine AW_reg ?_ | refine AW_cond ?_ | refine AW_skip ?_ | refine AW_exit ?_ | refine AW_ret ?_ | refine AW_regD (by kernel_rfl) ?_ | refine AW_regX (by kernel_rfl) ?_ | refine CallAtG.t (Eq.refl true) ?_ | refine CallAtG.f (Eq.refl false) ?_ | refine CallAt.mk _ (g35 ..) (by first | (intro h; cases h; done) | (intro _; repeat' (first | exact List.forall_mem_nil _ | trivial | refine List.forall_mem_cons.2 ⟨?_, ?_⟩)) | (intro _; simp [RV.flatP, CD.flatP]; done)) ?_ | refine CallAtG.mk _ (fun _ => g35 ..) ?_ | refine CallDS.mk _ (by simp [RV.data]) (fun _ => g35 ..) (by first | (intro h; cases h; done) | (intro _; repeat' (first | exact List.forall_mem_nil _ | trivial | refine List.forall_mem_cons.2 ⟨?_, ?_⟩)) | (intro _; simp [RV.flatP, CD.flatP]; done)) ?_); try simp (disch := omega) only [go_sem, seval, reduceCtorEq, ↓reduceIte, beq_dec, Int.toNat_natCast, IntKind.signed, IntKind.bits]) | refine And.intro (fun hc => (?_ : AW _ _ _ _)) (fun hc => (?_ : AW _ _ _ _)) | simp (disch := omega) only [go_sem, seval, reduceCtorEq, ↓reduceIte, beq_dec, Int.toNat_natCast, IntKind.signed, IntKind.bits] | (refine And.intro ?_ ?_; focus (first | (intros; omega) | (intros; simp_all; done))) | refine And.intro (?_ : CallAt _ _ _ _ _ _ _ _) ?_ | refine And.intro (?_ : CallAt _ _ _ _ _ _ _ _ ∧ _) ?_ | refine And.intro (?_ : AW _ _ _ _) ?_ | fail))
    exact absurd (by assumption) he
end Go.Proofs.Ytlomngideedobaa

-- P p_14.txt
open Go Go.AL Go.RowKit
namespace Go.Proofs.Ytlomngideedobaa
set_option maxRecDepth 20000
theorem nodup_map_inj {α β : Type} {f : α → β} (hf : ∀ a b, f a = f b → a = b) {l : List α} (h : l.Nodup) : (l.map f).Nodup := by
  rw [List.nodup_iff_pairwise_ne] at h ⊢
  rw [List.pairwise_map]
  exact h.imp fun hne e => hne (hf _ _ e)
theorem dies_nodup {g : Gr} (h : validG g = true) : (diesG g).Nodup := by
  obtain ⟨a, b, _⟩ := (validG_iff g).1 h
  unfold numV at a b
  simp only [Bool.and_eq_true] at a b
  unfold diesG
  rw [List.nodup_append]
  refine ⟨nodup_map_inj (fun x y e => by simpa using e) ((ascV_asc a.1).imp fun h e => by omega), nodup_map_inj (fun x y e => by simpa using e) ((ascV_asc b.1).imp fun h e => by omega), fun x hx y hy e => ?_⟩
  obtain ⟨n, _, rfl⟩ := List.mem_map.1 hx
  obtain ⟨m, _, rfl⟩ := List.mem_map.1 hy
  simp at e
end Go.Proofs.Ytlomngideedobaa

