/-
  Lemmas for the proof: no statement of its own.
-/
import Derived.Test.YtcimlelkeppoiaaWalkB
set_option linter.unusedVariables false
set_option linter.unusedSimpArgs false
open Go Go.AL
namespace Go.Proofs.Ytcimlelkeppoiaa
set_option maxRecDepth 20000
mutual
def mapN (g : Nat → Nat) : N → N
  | .nd l q ks => .nd (match ks with | [] => g l | _ :: _ => l) q (mapNs g ks)
def mapNs (g : Nat → Nat) : List N → List N
  | [] => []
  | k :: ks => mapN g k :: mapNs g ks
end
theorem mapNs_map (g : Nat → Nat) : ∀ ks : List N, mapNs g ks = ks.map (mapN g)
  | [] => rfl
  | k :: ks => by simp only [mapNs, List.map_cons]; rw [mapNs_map g ks]
theorem mapN_nd (g : Nat → Nat) (l : Nat) (q : Bool) (ks : List N) : mapN g (.nd l q ks) = .nd (match ks with | [] => g l | _ :: _ => l) q (ks.map (mapN g)) := by
  rw [← mapNs_map]; rfl
theorem mapN_cons (g : Nat → Nat) (l : Nat) (q : Bool) {ks : List N} (h : ks ≠ []) : mapN g (.nd l q ks) = .nd l q (ks.map (mapN g)) := by
  rw [mapN_nd]; cases ks with
  | nil => exact absurd rfl h
  | cons a b => rfl
theorem mapN_comp (g h : Nat → Nat) : ∀ v, mapN g (mapN h v) = mapN (fun i => g (h i)) v := by
  refine N.ind fun l q ks ih => ?_
  cases ks with
  | nil => rw [mapN_nd, mapN_nd, mapN_nd]; rfl
  | cons a b =>
    rw [mapN_cons h l q (by simp), mapN_cons _ l q (by simp), mapN_cons _ l q (by simp), List.map_map]
    congr 1
    exact List.map_congr_left fun k hk => ih k hk
section
variable (r : Nat → Bool) (g : Nat → Nat)
abbrev rg : Nat → Bool := fun i => r (g i)
theorem st_map : ∀ v, st r (mapN g v) = st (rg r g) v := by
  refine N.ind fun l q ks ih => ?_
  cases ks with
  | nil => rw [mapN_nd]; rfl
  | cons a b =>
    rw [mapN_cons g l q (by simp), st_nd, st_nd, List.map_map]
    have : (a :: b).map (st r ∘ mapN g) = (a :: b).map (st (rg r g)) := List.map_congr_left fun k hk => ih k hk
    rw [this]
    rfl
theorem fil_map (s : Nat) (ks : List N) : fil r s (ks.map (mapN g)) = (fil (rg r g) s ks).map (mapN g) := by
  unfold fil
  rw [List.filter_map]
  congr 1
  refine List.filter_congr fun k _ => ?_
  show (st r (mapN g k) == s) = _
  rw [st_map]
theorem grp_map (ks : List N) : grp (ks.map (mapN g)) = (grp ks).map (mapN g) := by
  match ks with
  | [] => rfl
  | [k] => rfl
  | a :: b :: c =>
    show some _ = some _
    rw [mapN_cons g 0 false (by simp)]; rfl
theorem lin1_map (ks : List N) : lin1 (ks.map (mapN g)) = (lin1 ks).map (mapN g) := by
  unfold lin1
  rw [List.length_map]
  split
  · exact grp_map g ks
  · rename_i h
    match ks, h with
    | a :: b, _ =>
      show some _ = some _
      rw [mapN_cons g 0 true (by simp)]
    | [], h => simp at h
theorem jn_map (a : List N) (o : Option N) : jn (a.map (mapN g)) (o.map (mapN g)) = (jn a o).map (mapN g) := by
  cases o <;> simp [jn]
abbrev zM (z : Z) : Z := (mapN g z.1, z.2.map (List.map (mapN g)))
theorem linA_map : ∀ (zs : List Z) (acc : List N) (last : Nat), linA r (acc.map (mapN g)) last (zs.map (zM g)) = (linA (rg r g) acc last zs).map (List.map (mapN g))
  | [], acc, last => rfl
  | (k, o) :: zs, acc, last => by
    simp only [List.map_cons, linA]
    rw [st_map]
    split
    · rfl
    · cases o with
      | none => rfl
      | some m =>
        simp only [Option.map_some]
        rw [← List.map_append]
        exact linA_map zs (acc ++ m) _
theorem linP_map (e f : Option N) (zs : List Z) : linP (e.map (mapN g)) (f.map (mapN g)) (zs.map (zM g)) = (linP e f zs).map (List.map (mapN g)) := by
  match zs with
  | [] =>
    show some _ = some _
    rw [show jn [] (e.map (mapN g)) = (jn [] e).map (mapN g) from jn_map g [] e, jn_map]
  | [(k, none)] => rfl
  | [(k, some m)] =>
    show some _ = some _
    rw [show jn [] (e.map (mapN g)) = (jn [] e).map (mapN g) from jn_map g [] e, ← List.map_append, jn_map]
  | (a, none) :: (b, none) :: c => rfl
  | (a, none) :: (b, some _) :: c => rfl
  | (a, some _) :: (b, none) :: c => rfl
  | (a, some _) :: (b, some _) :: c => rfl
theorem nth_map' (ks : List N) (i : Nat) (h : i < ks.length) : nth (ks.map (mapN g)) i = mapN g (nth ks i) := by
  rw [nth_eq _ i (by simpa using h), List.getElem_map, nth_eq ks i h]
theorem lin_map : ∀ v, lin r (mapN g v) = (lin (rg r g) v).map (List.map (mapN g)) := by
  refine N.ind fun l q ks ih => ?_
  cases hks : ks with
  | nil =>
    rw [mapN_nd]
    have h1 : lin r (.nd (g l) q []) = some [.nd (g l) q []] := by
      rw [lin_nd]; unfold linK
      rw [if_pos (by rw [st_nd]; simp only [List.map_nil, stK]; split <;> decide)]
    have h2 : lin (rg r g) (.nd l q []) = some [.nd l q []] := by
      rw [lin_nd]; unfold linK
      rw [if_pos (by rw [st_nd]; simp only [List.map_nil, stK]; split <;> decide)]
    show lin r (.nd (g l) q []) = _
    rw [h1, h2]
    show some _ = some [mapN g (.nd l q [])]
    rw [mapN_nd]; rfl
  | cons a b =>
    have hne : ks ≠ [] := by rw [hks]; simp
    rw [← hks]
    have hst := st_map r g (.nd l q ks)
    rw [mapN_cons g l q hne] at hst ⊢
    rw [lin_nd, lin_nd]
    unfold linK
    rw [hst]
    have hz : ((ks.map (mapN g)).map fun k => (k, lin r k)) = (ks.map fun k => (k, lin (rg r g) k)).map (zM g) := by
      rw [List.map_map, List.map_map]
      exact List.map_congr_left fun k hk => by show (mapN g k, lin r (mapN g k)) = _; rw [ih k hk]; rfl
    split
    · show some _ = some [mapN g (.nd l q ks)]
      rw [mapN_cons g l q hne]
    · rw [hz]
      cases q with
      | true =>
        simp only [cond_true]
        have hpos : 0 < ks.length := Nat.pos_of_ne_zero fun e => hne (List.eq_nil_of_length_eq_zero e)
        rw [List.length_map, nth_map' g ks 0 hpos, nth_map' g ks _ (by omega), st_map, st_map]
        split
        · rw [← List.map_reverse]; exact linA_map r g _ [] 0
        · exact linA_map r g _ [] 0
      | false =>
        simp only [cond_false]
        rw [fil_map, fil_map, grp_map, grp_map]
        have hf : ((ks.map fun k => (k, lin (rg r g) k)).map (zM g)).filter (fun z => st r z.1 == 1) = ((ks.map fun k => (k, lin (rg r g) k)).filter fun z => st (rg r g) z.1 == 1).map (zM g) := by
          rw [List.filter_map]
          congr 1
          refine List.filter_congr fun z _ => ?_
          show (st r (mapN g z.1) == 1) = _
          rw [st_map]
        rw [hf]
        exact linP_map g _ _ _
theorem wiA_map (f last : Nat) : ∀ (zs : List Z) (i : Nat) (acc : List N), wiA r f last i (acc.map (mapN g)) (zs.map (zM g)) = (wiA (rg r g) f last i acc zs).map (List.map (mapN g))
  | [], i, acc => rfl
  | (k, o) :: zs, i, acc => by
    simp only [List.map_cons, wiA]
    rw [st_map]
    split
    · rfl
    · have hm : (if i = f ∨ i = last then o.map (List.map (mapN g)) else some [mapN g k]) = (if i = f ∨ i = last then o else some [k]).map (List.map (mapN g)) := by split <;> rfl
      rw [hm]
      cases (if i = f ∨ i = last then o else some [k]) with
      | none => rfl
      | some m =>
        simp only [Option.map_some]
        have : acc.map (mapN g) ++ (if i = last then (m.map (mapN g)).reverse else m.map (mapN g)) = (acc ++ (if i = last then m.reverse else m)).map (mapN g) := by
          split <;> simp
        rw [this]
        exact wiA_map f last zs (i + 1) _
theorem cz_map (ks : List N) : ∀ i, i ≤ ks.length → cz r (ks.map (mapN g)) i = cz (rg r g) ks i
  | 0, _ => rfl
  | i + 1, h => by
    simp only [cz]
    rw [cz_map ks i (by omega), nth_map' g ks i (by omega), st_map]
theorem lz_map (ks : List N) : ∀ i, i ≤ ks.length → lz r (ks.map (mapN g)) i = lz (rg r g) ks i
  | 0, _ => rfl
  | i + 1, h => by
    simp only [lz]
    rw [lz_map ks i (by omega), nth_map' g ks i (by omega), st_map]
theorem fz_map (ks : List N) : fz r (ks.map (mapN g)) = fz (rg r g) ks := by
  unfold fz
  rw [List.findIdx_map]
  congr 1
  funext k
  show (st r (mapN g k) != 0) = _
  rw [st_map]
theorem finR_map (e L : List N) : finR (e.map (mapN g)) (L.map (mapN g)) = (finR e L).map (mapN g) := by
  unfold finR
  rw [lin1_map]
  cases lin1 L with
  | none => rfl
  | some k =>
    simp only [Option.map_some, Option.bind_some]
    rw [show e.map (mapN g) ++ [mapN g k] = (e ++ [k]).map (mapN g) by simp, grp_map]
theorem redP_map (e : List N) (F : Option N) (zs : List Z) : redP (e.map (mapN g)) (F.map (mapN g)) (zs.map (zM g)) = (redP e F zs).map (mapN g) := by
  match zs with
  | [] =>
    show finR _ _ = _
    rw [show jn [] (F.map (mapN g)) = (jn [] F).map (mapN g) from jn_map g [] F, finR_map]; rfl
  | [(k, o)] =>
    cases o with
    | none => rfl
    | some m =>
      show finR _ _ = _
      rw [jn_map, finR_map]; rfl
  | [(k, o), (k', o')] =>
    cases o with
    | none => rfl
    | some m =>
      cases o' with
      | none => rfl
      | some m' =>
        show finR _ (jn _ _ ++ _) = _
        rw [jn_map, ← List.map_reverse, ← List.map_append, finR_map]; rfl
  | a :: b :: c :: d => rfl
theorem red_map : ∀ v, red r (mapN g v) = (red (rg r g) v).map (mapN g) := by
  refine N.ind fun l q ks ih => ?_
  cases hks : ks with
  | nil =>
    have hst := st_map r g (.nd l q [])
    rw [mapN_nd] at hst ⊢
    show red r (.nd (g l) q []) = _
    rw [red_nd, red_nd]
    unfold redK
    have hst' : st r (.nd (g l) q []) = st (rg r g) (.nd l q []) := hst
    rw [hst']
    split
    · show some _ = some (mapN g _)
      rw [mapN_nd]; rfl
    · rw [if_neg (by simp [cz]), if_neg (by simp [cz])]
      cases q <;> rfl
  | cons a b =>
    have hne : ks ≠ [] := by rw [hks]; simp
    rw [← hks]
    have hst := st_map r g (.nd l q ks)
    rw [mapN_cons g l q hne] at hst ⊢
    rw [red_nd, red_nd]
    unfold redK
    rw [hst, List.length_map, cz_map r g ks _ (Nat.le_refl _), lz_map r g ks _ (Nat.le_refl _), fz_map]
    have hz : ((ks.map (mapN g)).map fun k => (k, lin r k)) = (ks.map fun k => (k, lin (rg r g) k)).map (zM g) := by
      rw [List.map_map, List.map_map]
      exact List.map_congr_left fun k hk => by show (mapN g k, lin r (mapN g k)) = _; rw [lin_map]; rfl
    split
    · show some _ = some (mapN g _)
      rw [mapN_cons g l q hne]
    · split
      · rename_i hc
        have ht := (lz_ok (r := rg r g) (ks := ks) (i := ks.length) (by omega)).1
        generalize lz (rg r g) ks ks.length = t at *
        have h1 : ((ks.map (mapN g)).map (red r)).getD t none = (((ks.map (red (rg r g))).getD t none)).map (mapN g) := by
          rw [List.getD_eq_getElem?_getD, List.getD_eq_getElem?_getD, List.getElem?_eq_getElem (by simpa using ht), List.getElem?_eq_getElem (by simpa using ht)]
          simp only [List.getElem_map, Option.getD_some]
          exact ih _ (List.getElem_mem ht)
        rw [h1]
        cases (ks.map (red (rg r g))).getD t none with
        | none => rfl
        | some k' =>
          show some _ = some (mapN g _)
          rw [mapN_cons g 0 q (by simpa using hne), List.map_set]
      · rw [hz]
        cases q with
        | true =>
          simp only [cond_true]
          have hw := wiA_map r g (fz (rg r g) ks) (lz (rg r g) ks ks.length) (ks.map fun k => (k, lin (rg r g) k)) 0 []
          simp only [List.map_nil] at hw
          rw [hw]
          cases wiA (rg r g) (fz (rg r g) ks) (lz (rg r g) ks ks.length) 0 [] (ks.map fun k => (k, lin (rg r g) k)) with
          | none => rfl
          | some out =>
            show lin1 _ = _
            rw [lin1_map]; rfl
        | false =>
          simp only [cond_false]
          rw [fil_map, fil_map, fil_map, grp_map]
          have hz1 : (((fil (rg r g) 1 ks).map (mapN g)).map fun k => (k, lin r k)) = ((fil (rg r g) 1 ks).map fun k => (k, lin (rg r g) k)).map (zM g) := by
            rw [List.map_map, List.map_map]
            exact List.map_congr_left fun k hk => by show (mapN g k, lin r (mapN g k)) = _; rw [lin_map]; rfl
          rw [hz1]
          exact redP_map g _ _ _
end
end Go.Proofs.Ytcimlelkeppoiaa

open Go Go.AL
namespace Go.Proofs.Ytcimlelkeppoiaa
set_option maxRecDepth 100000
def insA {α : Type} (a : α) : List α → List (List α)
  | [] => [[a]]
  | b :: l => (a :: b :: l) :: (insA a l).map (b :: ·)
def prms {α : Type} : List α → List (List α)
  | [] => [[]]
  | a :: l => (prms l).flatMap (insA a)
def cat : List (List (List Nat)) → List (List Nat)
  | [] => [[]]
  | A :: B => A.flatMap fun a => (cat B).map (a ++ ·)
def frK (l : Nat) (q : Bool) : List (List (List Nat)) → List (List Nat)
  | [] => [[l]]
  | F :: Fs => bif q then cat (F :: Fs) ++ cat (F :: Fs).reverse else (prms (F :: Fs)).flatMap cat
mutual
def frs : N → List (List Nat)
  | .nd l q ks => frK l q (frss ks)
def frss : List N → List (List (List Nat))
  | [] => []
  | k :: ks => frs k :: frss ks
end
theorem insA_map {α β : Type} (f : α → β) (a : α) : ∀ l : List α, insA (f a) (l.map f) = (insA a l).map (List.map f)
  | [] => rfl
  | b :: l => by
    simp only [List.map_cons, insA]
    rw [insA_map f a l, List.map_map, List.map_map]; rfl
theorem prms_map {α β : Type} (f : α → β) : ∀ l : List α, prms (l.map f) = (prms l).map (List.map f)
  | [] => rfl
  | a :: l => by
    simp only [List.map_cons, prms]
    rw [prms_map f l, List.flatMap_map, List.map_flatMap]
    congr 1
    funext x
    exact insA_map f a x
theorem cat_map (g : Nat → Nat) : ∀ F : List (List (List Nat)), cat (F.map (List.map (List.map g))) = (cat F).map (List.map g)
  | [] => rfl
  | A :: B => by
    simp only [List.map_cons, cat]
    rw [cat_map g B, List.flatMap_map, List.map_flatMap]
    congr 1
    funext a
    rw [List.map_map, List.map_map]
    refine List.map_congr_left fun x _ => ?_
    simp
theorem frss_map : ∀ ks : List N, frss ks = ks.map frs
  | [] => rfl
  | k :: ks => by simp only [frss, List.map_cons]; rw [frss_map ks]
theorem frs_nd (l : Nat) (q : Bool) (ks : List N) : frs (.nd l q ks) = frK l q (ks.map frs) := by
  rw [← frss_map]; rfl
theorem frs_map (g : Nat → Nat) : ∀ v, frs (mapN g v) = (frs v).map (List.map g) := by
  refine N.ind fun l q ks ih => ?_
  cases hks : ks with
  | nil => rw [mapN_nd, frs_nd, frs_nd]; rfl
  | cons a b =>
    have hne : ks ≠ [] := by rw [hks]; simp
    rw [← hks, mapN_cons g l q hne, frs_nd, frs_nd, List.map_map]
    have : ks.map (frs ∘ mapN g) = (ks.map frs).map (List.map (List.map g)) := by
      rw [List.map_map]
      exact List.map_congr_left fun k hk => ih k hk
    rw [this]
    have hne2 : ks.map frs ≠ [] := by simpa using hne
    generalize ks.map frs = F at *
    cases F with
    | nil => exact absurd rfl hne2
    | cons A B =>
      cases q with
      | true =>
        show cat ((A :: B).map (List.map (List.map g))) ++ cat ((A :: B).map (List.map (List.map g))).reverse = (cat (A :: B) ++ cat (A :: B).reverse).map (List.map g)
        rw [← List.map_reverse, cat_map, cat_map, ← List.map_append]
      | false =>
        show (prms ((A :: B).map (List.map (List.map g)))).flatMap cat = ((prms (A :: B)).flatMap cat).map (List.map g)
        rw [prms_map, List.flatMap_map, List.map_flatMap]
        congr 1
        funext x
        exact cat_map g x
def cB : List Bool → Bool
  | [] => true
  | b :: bs => bif b then cB bs else bs.all fun x => !x
def cA : List Bool → Bool
  | [] => true
  | b :: bs => bif b then cB bs else cA bs
def con (f : Nat → Bool) (o : List Nat) : Bool := cA (o.map f)
mutual
def beqN : N → N → Bool
  | .nd l q ks, .nd l' q' ks' => Nat.beq l l' && (q == q') && beqNs ks ks'
def beqNs : List N → List N → Bool
  | [], [] => true
  | k :: ks, k' :: ks' => beqN k k' && beqNs ks ks'
  | _, _ => false
end
mutual
theorem beqN_eq : ∀ {a b : N}, beqN a b = true → a = b
  | .nd l q ks, .nd l' q' ks', h => by
    simp only [beqN, Bool.and_eq_true, beq_iff_eq] at h
    obtain ⟨⟨h1, h2⟩, h3⟩ := h
    have h1' := Nat.eq_of_beq_eq_true h1
    have := beqNs_eq h3
    subst h1'; subst h2; subst this; rfl
theorem beqNs_eq : ∀ {a b : List N}, beqNs a b = true → a = b
  | [], [], _ => rfl
  | k :: ks, k' :: ks', h => by
    simp only [beqNs, Bool.and_eq_true] at h
    rw [beqN_eq h.1, beqNs_eq h.2]
  | [], _ :: _, h => by simp [beqNs] at h
  | _ :: _, [], h => by simp [beqNs] at h
end
mutual
def lf : N → List Nat
  | .nd l _ ks => lfK l (lfs ks) ks
def lfs : List N → List Nat
  | [] => []
  | k :: ks => lf k ++ lfs ks
def lfK (l : Nat) (x : List Nat) : List N → List Nat
  | [] => [l]
  | _ :: _ => x
end
abbrev a0 : N := .nd 0 false []
abbrev a1 : N := .nd 1 false []
abbrev a2 : N := .nd 2 false []
abbrev a3 : N := .nd 3 false []
abbrev a4 : N := .nd 4 false []
abbrev P (ks : List N) : N := .nd 0 false ks
abbrev Q (ks : List N) : N := .nd 0 true ks
def sh1 : List N := [a0]
def sh2 : List N := [P [a0, a1]]
def sh3 : List N := [P [a0, a1, a2], P [a0, P [a1, a2]], Q [a0, a1, a2]]
def sh4 : List N := [P [a0, a1, a2, a3], P [a0, a1, P [a2, a3]], P [a0, P [a1, a2, a3]], P [P [a0, a1], P [a2, a3]], P [a0, Q [a1, a2, a3]], Q [a0, a1, P [a2, a3]], P [a0, P [a1, P [a2, a3]]], Q [P [a0, a1], a2, a3], Q [a0, P [a1, a2], a3], Q [a0, a1, a2, a3]]
def sh5 : List N := [P [a0, a1, a2, a3, a4], P [a0, a1, a2, P [a3, a4]], P [a0, a1, P [a2, a3, a4]], P [a0, P [a1, a2, a3, a4]], P [a0, P [a1, a2], P [a3, a4]], P [a0, a1, Q [a2, a3, a4]], P [P [a0, a1], P [a2, a3, a4]], P [a0, Q [a1, a2, P [a3, a4]]], P [a0, a1, P [a2, P [a3, a4]]], Q [a0, a1, P [a2, a3, a4]], P [a0, P [a1, a2, P [a3, a4]]], P [P [a0, a1, a2], P [a3, a4]], P [a0, Q [P [a1, a2], a3, a4]], Q [P [a0, a1], a2, P [a3, a4]], P [a0, Q [a1, P [a2, a3], a4]], Q [a0, P [a1, a2], P [a3, a4]], P [a0, P [a1, P [a2, a3, a4]]], Q [P [a0, a1, a2], a3, a4], Q [P [a0, a1], P [a2, a3], a4], Q [a0, P [a1, a2, a3], a4], P [P [a0, a1], Q [a2, a3, a4]], P [a0, Q [a1, a2, a3, a4]], P [P [a0, a1], P [a2, P [a3, a4]]], Q [a0, a1, a2, a3, a4], Q [a0, a1, P [a2, P [a3, a4]]], P [a0, P [P [a1, a2], P [a3, a4]]], P [Q [a0, a1, a2], P [a3, a4]], Q [a0, a1, a2, P [a3, a4]], P [a0, P [a1, Q [a2, a3, a4]]], Q [a0, a1, P [a2, a3], a4], Q [P [a0, a1], a2, a3, a4], P [P [a0, P [a1, a2]], P [a3, a4]], P [a0, P [a1, P [a2, P [a3, a4]]]], Q [P [a0, P [a1, a2]], a3, a4], Q [a0, P [a1, P [a2, a3]], a4], Q [a0, P [a1, a2], a3, a4], Q [a0, a1, Q [a2, a3, a4]], Q [Q [a0, a1, a2], a3, a4], Q [a0, Q [a1, a2, a3], a4]]
def shp : Nat → List N
  | 1 => sh1
  | 2 => sh2
  | 3 => sh3
  | 4 => sh4
  | 5 => sh5
  | _ => []
def bls : Nat → List (List Bool)
  | 0 => [[]]
  | n + 1 => (bls n).flatMap fun l => [true :: l, false :: l]
abbrev pr (bl : List Bool) : Nat → Bool := fun i => bl.getD i false
def memN (o : Nat) : List Nat → Bool
  | [] => false
  | x :: l => bif Nat.beq o x then true else memN o l
def anyS (T' : N) (p : List Nat) : List N → Bool
  | [] => false
  | s :: l => bif beqN T' (mapN (fun i => p.getD i 99) s) then true else anyS T' p l
def enc : List Nat → Nat
  | [] => 0
  | a :: l => Nat.add (Nat.mul 5 (enc l)) a
def msk : List (List Nat) → Nat
  | [] => 0
  | o :: l => Nat.lor (msk l) (Nat.shiftLeft 1 (enc o))
def mskC (bl : List Bool) : List (List Nat) → Nat
  | [] => 0
  | o :: l => bif con (pr bl) o then Nat.lor (mskC bl l) (Nat.shiftLeft 1 (enc o)) else mskC bl l
def chkP (n : Nat) (F : List (List Nat)) (bl : List Bool) (T' : N) (p : List Nat) (F' : List (List Nat)) : Bool :=
  Nat.beq p.length n && ((List.range n).all fun i => memN i p) && (p.all fun i => Nat.ble (Nat.succ i) n) && anyS T' p (shp n) && Nat.beq (msk F') (mskC bl F)
def chk1 (n : Nat) (s : N) (F : List (List Nat)) (bl : List Bool) : Bool := match red (pr bl) s with
  | none => F.all fun o => !con (pr bl) o
  | some T' => chkP n F bl T' (lf T') (frs T')
def chkS (n : Nat) (s : N) : Bool := (bls n).all fun bl => !(bl.any id) || (!(Nat.beq (st (pr bl) s) 0) && chk1 n s (frs s) bl)
mutual
def smB : N → Bool
  | .nd l _ ks => Nat.ble l 9 && Nat.ble ks.length 100 && smBs ks
def smBs : List N → Bool
  | [] => true
  | k :: ks => smB k && smBs ks
end
def okQ (n : Nat) (o : List Nat) : Bool := Nat.beq o.length n && o.all fun i => Nat.ble (Nat.succ i) n
def okS (n : Nat) (s : N) : Bool := Nat.ble (sz s) 100 && smB s && !(frs s).isEmpty && (frs s).all (okQ n)
theorem oks_1 : (shp 1).all (okS 1) = true := by decide +kernel
theorem oks_2 : (shp 2).all (okS 2) = true := by decide +kernel
theorem oks_3 : (shp 3).all (okS 3) = true := by decide +kernel
theorem oks_4 : (shp 4).all (okS 4) = true := by decide +kernel
theorem oks_5 : (shp 5).all (okS 5) = true := by decide +kernel
theorem chk_1 : (shp 1).all (chkS 1) = true := by decide +kernel
theorem chk_2 : (shp 2).all (chkS 2) = true := by decide +kernel
theorem chk_3 : (shp 3).all (chkS 3) = true := by decide +kernel
theorem chk_4 : (shp 4).all (chkS 4) = true := by decide +kernel
end Go.Proofs.Ytcimlelkeppoiaa

