/-
  Lemmas for the proof: no statement of its own.
-/
import Derived.Test.YthpnplebcmijnaaWalkE
import Derived.Test.YthpnplebcmijnaaWalkC
import Derived.Test.YthpnplebcmijnaaWalkG
import Derived.Test.YthpnplebcmijnaaCodeB
set_option linter.unusedVariables false
set_option linter.unusedSimpArgs false
-- P p_w.txt
open Go Go.AL Go.RowKit Go.Shelf
namespace Go.Proofs.Ythpnplebcmijnaa
set_option maxRecDepth 20000
/-! ### the plain law: composed changes lead where both lists lead -/
theorem comX_diff (a b c : List (Int × Int)) (k : Int) : comX (diffO a b) (diffO b c) k = if atR a k ≠ atR c k then some (mkC k (atR a k) (atR c k)) else none := by
  have h1 := getC_diff (atR a) (atR b) (K := K2 a b) (insAll_pw _) k
  have h2 := getC_diff (atR b) (atR c) (K := K2 b c) (insAll_pw _) k
  have n1 : ∀ {x y : List (Int × Int)}, k ∉ K2 x y → atR x k = atR y k := fun {x y} hk => by
    rw [K2_mem, not_or] at hk
    rw [atR_no hk.1, atR_no hk.2]
  have e1 : getC (diffO a b) k = if atR a k ≠ atR b k then some (mkC k (atR a k) (atR b k)) else none := by
    unfold diffO
    rw [h1]
    by_cases hk : k ∈ K2 a b
    · simp only [hk, true_and]
    · simp only [hk, false_and, if_false, n1 hk, ne_eq, not_true_eq_false]
  have e2 : getC (diffO b c) k = if atR b k ≠ atR c k then some (mkC k (atR b k) (atR c k)) else none := by
    unfold diffO
    rw [h2]
    by_cases hk : k ∈ K2 b c
    · simp only [hk, true_and]
    · simp only [hk, false_and, if_false, n1 hk, ne_eq, not_true_eq_false]
  unfold comX
  rw [e1, e2]
  generalize atR a k = x
  generalize atR b k = y
  generalize atR c k = z
  by_cases hxy : x = y
  · subst hxy
    rw [if_neg (by simp)]
    by_cases hyz : x = z
    · subst hyz
      rw [if_neg (by simp)]
    · rw [if_pos hyz]
  · rw [if_pos hxy]
    by_cases hyz : y = z
    · subst hyz
      rw [if_neg (by simp), if_pos hxy]
    · rw [if_pos hyz]
      show (if x = z then none else some (mkC k x z)) = if x ≠ z then some (mkC k x z) else none
      by_cases hxz : x = z
      · rw [if_pos hxz, if_neg (by simp [hxz])]
      · rw [if_neg hxz, if_pos hxz]
theorem comO_diff (a b c : List (Int × Int)) : comO (diffO a b) (diffO b c) = diffO a c := by
  have hf : (fun k => (comX (diffO a b) (diffO b c) k).toList) = fun k => if atR a k = atR c k then [] else [mkC k (atR a k) (atR c k)] := funext fun k => by
    rw [comX_diff]
    by_cases h : atR a k = atR c k
    · rw [if_neg (by simp [h]), if_pos h]; rfl
    · rw [if_pos h, if_neg h]; rfl
  unfold comO
  rw [hf]
  have e : ∀ K : List Int, (K.flatMap fun k => if atR a k = atR c k then [] else [mkC k (atR a k) (atR c k)]) = diffP (atR a) (atR c) K := fun K => rfl
  rw [e]
  unfold diffO
  -- both lists: the same changes, by key
  have hfil : ∀ K : List Int, diffP (atR a) (atR c) K = (K.filter fun k => decide (atR a k ≠ atR c k)).map fun k => mkC k (atR a k) (atR c k) := by
    intro K
    induction K with
    | nil => rfl
    | cons k r ih =>
      rw [diffP_cons, ih, List.filter_cons]
      by_cases h : atR a k = atR c k
      · rw [if_pos h, if_neg (by simp [h])]; rfl
      · rw [if_neg h, if_pos (by simp [h])]; rfl
  rw [hfil, hfil]
  congr 1
  refine pw_ext ((insAll_pw _).sublist List.filter_sublist) ((insAll_pw _).sublist List.filter_sublist) fun x => ?_
  rw [List.mem_filter, List.mem_filter, K2_mem]
  unfold comK
  rw [insAll_mem, List.mem_append]
  refine ⟨fun h => ⟨?_, h.2⟩, fun h => ⟨?_, h.2⟩⟩
  · have hne : atR a x ≠ atR c x := of_decide_eq_true h.2
    refine Classical.byContradiction fun hn => hne ?_
    rw [not_or] at hn
    rw [atR_no hn.1, atR_no hn.2]
  · have hne : atR a x ≠ atR c x := of_decide_eq_true h.2
    have hs : (comX (diffO a b) (diffO b c) x).isSome = true := by rw [comX_diff, if_pos hne]; rfl
    refine Classical.byContradiction fun hn => ?_
    rw [not_or] at hn
    have hn : x ∉ (diffO a b).map Chg.key ∧ x ∉ (diffO b c).map Chg.key := hn
    unfold comX at hs
    rw [getC_none hn.1, getC_none hn.2] at hs
    cases hs
theorem okC_diff {a b c : List (Int × Int)} : okC (diffO a b) (diffO b c) = true := by
  unfold okC
  rw [decide_eq_true_eq]
  intro i hi
  have hm := nth_mem (diffO b c) i hi
  generalize nth (diffO b c) i = d at hm
  have hd : d.bef = atR b d.key := by
    unfold diffO at hm
    rw [diffP_mem] at hm
    exact congrArg Chg.bef hm.2.2
  unfold okB
  split
  · rfl
  · rename_i e he
    refine decide_eq_true ?_
    rw [hd]
    unfold diffO at he
    rw [getC_diff _ _ (K := K2 a b) (insAll_pw _)] at he
    split at he
    · cases he; rfl
    · cases he
theorem com_diff {a b c : List (Int × Int)} (h1 : diffE a b = 0) (h2 : diffE b c = 0) : comE (diffL a b) (diffL b c) = diffE a c ∧ comL (diffL a b) (diffL b c) = diffL a c := by
  obtain ⟨ha, hb, hl, hL⟩ := diffL_ok h1
  obtain ⟨_, hc, hl', hL'⟩ := diffL_ok h2
  have he : comE (diffL a b) (diffL b c) = diffE a c := by
    rw [hL, hL']
    unfold comE diffE
    rw [if_pos (show (validC (diffO a b) && validC (diffO b c)) = true by simp [diffO_valid hl, diffO_valid hl']), if_pos okC_diff, comO_diff, if_pos (show (validE a && validE c) = true by simp [ha, hc])]
  refine ⟨he, ?_⟩
  unfold comL diffL
  rw [show comE (if diffE a b ≠ 0 then [] else diffO a b) (if diffE b c ≠ 0 then [] else diffO b c) = diffE a c from he]
  rw [if_neg (show ¬ diffE a b ≠ 0 from fun h => h h1), if_neg (show ¬ diffE b c ≠ 0 from fun h => h h2), comO_diff]
/-- a composed list is a list of changes -/
theorem comO_valid {p q : List Chg} (hp : validC p = true) (hq : validC q = true) (hl : (comO p q).length ≤ 64) : validC (comO p q) = true := by
  have hkey : ∀ (k : Int) (c : Chg), comX p q k = some c → c.key = k := by
    intro k c h
    unfold comX at h
    split at h
    · exact getC_key h
    · rename_i d h1 h2
      cases h
      exact getC_key h2
    · split at h
      · cases h
      · cases h; rfl
  have hpw : ∀ {K : List Int}, K.Pairwise (· < ·) → ((K.flatMap fun k => (comX p q k).toList).map Chg.key).Pairwise (· < ·) := by
    intro K hK
    induction K with
    | nil => simp
    | cons k r ih =>
      rw [List.pairwise_cons] at hK
      rw [List.flatMap_cons, List.map_append, List.pairwise_append]
      refine ⟨by cases comX p q k <;> simp, ih hK.2, fun x hx y hy => ?_⟩
      obtain ⟨c, hc, rfl⟩ := List.mem_map.1 hy
      obtain ⟨k', hk', hc'⟩ := List.mem_flatMap.1 hc
      rw [Option.mem_toList] at hc'
      obtain ⟨d, hd, rfl⟩ := List.mem_map.1 hx
      rw [Option.mem_toList] at hd
      rw [hkey _ _ hc', hkey _ _ hd]
      exact hK.1 _ hk'
  have hin : ∀ {l : List Chg} {k : Int} {c : Chg}, validC l = true → getC l k = some c → chgOk c = true := by
    intro l k c hl h
    by_cases hk : k ∈ l.map Chg.key
    · obtain ⟨h1, h2, _⟩ := getC_some hk
      rw [h1] at h
      cases h
      exact validC_ok hl h2
    · rw [getC_none hk] at h; cases h
  refine validC_of (hpw (insAll_pw _)) hl fun c hc => ?_
  obtain ⟨k, _, hc⟩ := List.mem_flatMap.1 hc
  rw [Option.mem_toList] at hc
  have hc : comX p q k = some c := hc
  unfold comX at hc
  split at hc
  · exact hin hp hc
  · rename_i d h1 h2
    cases hc
    exact hin hq h2
  · rename_i c' d h1 h2
    split at hc
    · cases hc
    · rename_i hne
      cases hc
      have o1 := (chgOk_iff _).1 (hin hp h1)
      have o2 := (chgOk_iff _).1 (hin hq h2)
      refine chgOk_mk hne (fun hf => ?_) (fun hf => ?_)
      · have hf : c'.had = false := hf
        rcases o1.1.2 with h | h
        · rw [hf] at h; cases h
        · unfold Chg.bef; rw [h, hf]
      · have hf : d.has = false := hf
        rcases o2.2 with h | h
        · rw [hf] at h; cases h
        · unfold Chg.aft; rw [h, hf]
theorem comL_valid {p q : List Chg} (h : comE p q = 0) : validC (comL p q) = true := by
  have hL : comL p q = comO p q := by unfold comL; rw [h]; rfl
  rw [hL]
  unfold comE at h
  by_cases hv : (validC p && validC q) = true
  · rw [if_pos hv] at h
    rw [Bool.and_eq_true] at hv
    by_cases ho : okC p q = true
    · rw [if_pos ho] at h
      by_cases hl : 64 < (comO p q).length
      · rw [if_pos hl] at h; cases h
      · exact comO_valid hv.1 hv.2 (by omega)
    · rw [if_neg ho] at h; cases h
  · rw [if_neg hv] at h; cases h
end Go.Proofs.Ythpnplebcmijnaa

-- P p_w.txt
open Go Go.AL Go.RowKit Go.Shelf
namespace Go.Proofs.Ythpnplebcmijnaa
set_option maxRecDepth 20000
/-! ### the plain law of WholeOpinions -/
theorem K3_comm (x a b : List (Int × Int)) : K3 x b a = K3 x a b := pw_ext (insAll_pw _) (insAll_pw _) fun k => by
  rw [K3_mem, K3_mem]
  constructor
  · rintro (h | h | h)
    · exact .inl h
    · exact .inr (.inr h)
    · exact .inr (.inl h)
  · rintro (h | h | h)
    · exact .inl h
    · exact .inr (.inr h)
    · exact .inr (.inl h)
theorem pick_comm {x y z : Sd} (h : clash x y z = false) : pickS x z y = pickS x y z := by
  by_cases h1 : y = z
  · rw [h1]
  · by_cases h2 : z = x
    · rw [(pick2 h2).1]
      by_cases h3 : y = x
      · exact absurd (h3.trans h2.symm) h1
      · exact (pick3 (fun e => h1 e.symm) h3 h2).1
    · by_cases h3 : y = x
      · rw [(pick3 h1 h2 h3).1]
        exact (pick2 h3).1
      · rw [(pick4 h1 h2 h3).2] at h; cases h
theorem clash_comm {x y z : Sd} (h : clash x y z = false) : clash x z y = false := by
  by_cases h1 : y = z
  · subst h1; exact h
  · by_cases h2 : z = x
    · by_cases h3 : y = x
      · exact absurd (h3.trans h2.symm) h1
      · exact (pick3 (fun e => h1 e.symm) h3 h2).2
    · by_cases h3 : y = x
      · exact (pick2 h3).2
      · rw [(pick4 h1 h2 h3).2] at h; cases h
theorem merE_ok {x a b : List (Int × Int)} (h : merE x a b = 0) : validE x = true ∧ validE a = true ∧ validE b = true ∧ (merO x a b).length ≤ 64 ∧ merL x a b = merO x a b ∧ confL x a b = confO x a b := by
  have hL : merL x a b = merO x a b := by unfold merL; rw [h]; rfl
  have hC : confL x a b = confO x a b := by unfold confL; rw [h]; rfl
  unfold merE at h
  by_cases hv : (validE x && validE a && validE b) = true
  · rw [if_pos hv] at h
    rw [Bool.and_eq_true, Bool.and_eq_true] at hv
    by_cases hl : 64 < (merO x a b).length ∨ 64 < (confO x a b).length
    · rw [if_pos hl] at h; cases h
    · exact ⟨hv.1.1, hv.1.2, hv.2, by omega, hL, hC⟩
  · rw [if_neg hv] at h; cases h
theorem conf_none {x a b : List (Int × Int)} (h : confO x a b = []) (k : Int) : clash (atR x k) (atR a k) (atR b k) = false := by
  by_cases hk : k ∈ K3 x a b
  · unfold confO confP at h
    rw [List.filter_eq_nil_iff] at h
    simpa using h k hk
  · rw [K3_mem, not_or, not_or] at hk
    rw [atR_no hk.1, atR_no hk.2.1, atR_no hk.2.2]
    rfl
theorem pick_zero {x y z : Sd} (hx : x.is = false → x = ⟨0, false⟩) (hy : y.is = false → y = ⟨0, false⟩) (hz : z.is = false → z = ⟨0, false⟩) (h : (pickS x y z).is = false) : pickS x y z = ⟨0, false⟩ := by
  unfold pickS at h ⊢
  split
  · rename_i h'; rw [if_pos h'] at h; exact hy h
  · rename_i h'; rw [if_neg h'] at h
    split
    · rename_i h'; rw [if_pos h'] at h; exact hz h
    · rename_i h'; rw [if_neg h'] at h; exact hx h
theorem atR_mer (x a b : List (Int × Int)) (k : Int) : atR (merO x a b) k = pickS (atR x k) (atR a k) (atR b k) := by
  rw [merO_eq, atR_listR _ (K := K3 x a b) (insAll_pw _) fun k h => pick_zero (atR_zero x k) (atR_zero a k) (atR_zero b k) h]
  split
  · rfl
  · rename_i hk
    rw [K3_mem, not_or, not_or] at hk
    rw [atR_no hk.1, atR_no hk.2.1, atR_no hk.2.2]
    rfl
theorem mer_pw (x a b : List (Int × Int)) : (merO x a b).Pairwise KLt := by
  rw [merO_eq]; exact listR_pw _ (insAll_pw _)
theorem mer_key {x a b : List (Int × Int)} {k : Int} (h : k ∈ (merO x a b).map Prod.fst) : k ∈ K3 x a b := by
  obtain ⟨p, hp, rfl⟩ := List.mem_map.1 h
  rw [merO_eq, listR_mem] at hp
  exact hp.1
theorem mer_swap {x a b : List (Int × Int)} (h : merE x a b = 0) (hc : confL x a b = []) : merE x b a = 0 ∧ merL x b a = merL x a b ∧ confL x b a = [] := by
  obtain ⟨hx, ha, hb, hl, hL, hC⟩ := merE_ok h
  rw [hC] at hc
  have hm : merO x b a = merO x a b := by
    rw [merO_eq, merO_eq, K3_comm]
    exact listR_cong fun k _ => pick_comm (conf_none hc k)
  have hc' : confO x b a = [] := by
    unfold confO confP
    rw [List.filter_eq_nil_iff]
    intro k _
    rw [clash_comm (conf_none hc k)]; simp
  have he : merE x b a = 0 := by
    unfold merE
    rw [if_pos (show (validE x && validE b && validE a) = true by simp [hx, ha, hb]), hm, hc', if_neg (by simp; omega)]
  refine ⟨he, ?_, ?_⟩
  · unfold merL
    rw [if_neg (fun e => e he), if_neg (fun e => e h), hm]
  · unfold confL
    rw [if_neg (fun e => e he), hc']
theorem diff_small {x y : List (Int × Int)} {K : List Int} (hx : ∀ k ∈ x.map Prod.fst, k ∈ K) (hy : ∀ k ∈ y.map Prod.fst, k ∈ K) : (diffO x y).length ≤ K.length := by
  refine Nat.le_trans (diffP_len _ _ (K2 x y)) (nodup_len ?_ fun k hk => ?_)
  · rw [List.nodup_iff_pairwise_ne]
    exact (insAll_pw (x.map Prod.fst ++ y.map Prod.fst)).imp fun h => by omega
  · rw [K2_mem] at hk
    rcases hk with h | h
    · exact hx k h
    · exact hy k h
theorem diffE_zero {x y : List (Int × Int)} (hx : validE x = true) (hy : validE y = true) (hl : (diffO x y).length ≤ 64) : diffE x y = 0 ∧ diffL x y = diffO x y := by
  have he : diffE x y = 0 := by
    unfold diffE
    rw [if_pos (show (validE x && validE y) = true by simp [hx, hy]), if_neg (by omega)]
  refine ⟨he, ?_⟩
  unfold diffL
  rw [if_neg (fun e => e he)]
/-- all that WholeOpinions looks at -/
theorem whole {x a b : List (Int × Int)} (h : merE x a b = 0) (hc : confL x a b = []) (hx : x.length ≤ 20) (ha : a.length ≤ 20) (hb : b.length ≤ 20) :
    let m := merL x a b
    diffE a m = 0 ∧ appE a (diffL a m) = 0 ∧ appL a (diffL a m) = m ∧ diffE x m = 0 ∧ appE x (diffL x m) = 0 ∧ appL x (diffL x m) = m ∧
    invE (diffL x m) = 0 ∧ appE m (invL (diffL x m)) = 0 ∧ appL m (invL (diffL x m)) = x ∧ (∀ c ∈ diffL a m, c ∈ diffO x b) := by
  obtain ⟨vx, va, vb, hl, hL, hC⟩ := merE_ok h
  rw [hC] at hc
  have hK := K3_len x a b
  have vm : validE (merO x a b) = true := validE_of (mer_pw x a b) hl
  have l1 : (diffO a (merO x a b)).length ≤ 64 := Nat.le_trans (diff_small (K := K3 x a b) (fun k hk => (K3_mem _ _ _ _).2 (.inr (.inl hk))) fun k hk => mer_key hk) (by omega)
  have l2 : (diffO x (merO x a b)).length ≤ 64 := Nat.le_trans (diff_small (K := K3 x a b) (fun k hk => (K3_mem _ _ _ _).2 (.inl hk)) fun k hk => mer_key hk) (by omega)
  have l3 : (diffO (merO x a b) x).length ≤ 64 := by rw [← diffO_inv, List.length_map]; exact l2
  obtain ⟨d1, d2⟩ := diffE_zero va vm l1
  obtain ⟨d3, d4⟩ := diffE_zero vx vm l2
  show diffE a (merL x a b) = 0 ∧ _
  rw [hL, d2, d4]
  obtain ⟨p1, p2⟩ := lead va vm l1
  obtain ⟨p3, p4⟩ := lead vx vm l2
  obtain ⟨p5, p6⟩ := inv_lead l2
  obtain ⟨p7, p8⟩ := lead vm vx l3
  refine ⟨d1, p1, p2, d3, p3, p4, p5, by rw [p6]; exact p7, by rw [p6]; exact p8, fun c hcm => ?_⟩
  unfold diffO at hcm ⊢
  rw [diffP_mem] at hcm ⊢
  obtain ⟨_, hne, he⟩ := hcm
  rw [atR_mer] at hne he
  have hcl := conf_none hc c.key
  have key : atR a c.key = atR x c.key ∧ pickS (atR x c.key) (atR a c.key) (atR b c.key) = atR b c.key := by
    generalize atR x c.key = sx at *
    generalize atR a c.key = sa at *
    generalize atR b c.key = sb at *
    by_cases h1 : sa = sb
    · exact absurd (pick1 h1).1.symm hne
    · by_cases h2 : sb = sx
      · exact absurd (pick2 h2).1.symm hne
      · by_cases h3 : sa = sx
        · exact ⟨h3, (pick3 h1 h2 h3).1⟩
        · rw [(pick4 h1 h2 h3).2] at hcl; cases hcl
  rw [key.2, key.1] at hne he
  refine ⟨?_, hne, he⟩
  refine Classical.byContradiction fun hk => ?_
  have hk : c.key ∉ K2 x b := hk
  rw [K2_mem, not_or] at hk
  rw [atR_no hk.1, atR_no hk.2] at hne
  exact hne rfl
end Go.Proofs.Ythpnplebcmijnaa

-- P p_w.txt
open Go Go.AL Go.RowKit Go.Shelf
namespace Go.Proofs.Ythpnplebcmijnaa
set_option maxRecDepth 20000
theorem f4w : FnR Try.prog 4 [] [.c (.B true)] := by
  have g13 := f13 [(1, 5)] [(1, 6), (2, 7)]
  have e1 : diffE [(1, 5)] [(1, 6), (2, 7)] = 0 := by decide +kernel
  have e2 : diffL [(1, 5)] [(1, 6), (2, 7)] = [⟨1, 5, 6, true, true⟩, ⟨2, 0, 7, false, true⟩] := by decide +kernel
  have g27 := f27 [(1, 5)] [⟨1, 5, 6, true, true⟩, ⟨2, 0, 7, false, true⟩]
  have e3 : appE [(1, 5)] [⟨1, 5, 6, true, true⟩, ⟨2, 0, 7, false, true⟩] = 0 := by decide +kernel
  have e4 : appL [(1, 5)] [⟨1, 5, 6, true, true⟩, ⟨2, 0, 7, false, true⟩] = [(1, 6), (2, 7)] := by decide +kernel
  have gs := f16s [(1, 6), (2, 7)]
  rw [e1, e2] at g13
  rw [e3, e4] at g27
  simp only [List.map_cons, List.map_nil, cdE, Chg.cd] at g13 g27 gs
  refine fn_walk code4 (by simp) ?_
  (repeat' (first | refine NextAt.mk (fun hc => ?_) (fun pre n v post hc hkey => ?_) | refine Sni.mk (fun hc => ?_) ?_ | refine AW_seq ?_ | refine AW_block ?_ | ((first | refine AW_reg ?_ | refine AW_cond ?_ | refine AW_skip ?_ | refine AW_exit ?_ | refine AW_ret ?_ | refine AW_regD (by kernel_rfl) ?_ | refine AW_regX (by kernel_rfl) ?_ | refine CallAtG.t (Eq.refl true) ?_ | refine CallAtG.f (Eq.refl false) ?_ | refine CallAt.mk _ (g13 ..) (by first | (intro h; cases h; done) | (intro _; repeat' (first | exact List.forall_mem_nil _ | trivial | refine List.forall_mem_cons.2 ⟨?_, ?_⟩)) | (intro _; simp [RV.flatP, CD.flatP]; done)) ?_ | refine CallAtG.mk _ (fun _ => g13 ..) ?_ | refine CallDS.mk _ (by simp [RV.data]) (fun _ => g13 ..) (by first | (intro h; cases h; done) | (intro _; repeat' (first | exact List.forall_mem_nil _ | trivial | refine List.forall_mem_cons.2 ⟨?_, ?_⟩)) | (intro _; simp [RV.flatP, CD.flatP]; done)) ?_ | refine CallAt.mk _ (g27 ..) (by first | (intro h; cases h; done) | (intro _; repeat' (first | exact List.forall_mem_nil _ | trivial | refine List.forall_mem_cons.2 ⟨?_, ?_⟩)) | (intro _; simp [RV.flatP, CD.flatP]; done)) ?_ | refine CallAtG.mk _ (fun _ => g27 ..) ?_ | refine CallDS.mk _ (by simp [RV.data]) (fun _ => g27 ..) (by first | (intro h; cases h; done) | (intro _; repeat' (first | exact List.forall_mem_nil _ | trivial | refine List.forall_mem_cons.2 ⟨?_, ?_⟩)) | (intro _; simp [RV.flatP, CD.flatP]; done)) ?_ | refine CallAt.mk _ (gs ..) (by first | (intro h; cases h; done) | (intro _; repeat' (first | exact List.forall_mem_nil _ | trivial | refine List.forall_mem_cons.2 ⟨?_, ?_⟩)) | (intro _; simp [RV.flatP, CD.flatP]; done)) ?_ | refine CallAtG.mk _ (fun _ => gs ..) ?_ | refine CallDS.mk _ (by simp [RV.data]) (fun _ => gs ..) (by first | (intro h; cases h; done) | (intro _; repeat' (first | exact List.forall_mem_nil _ | trivial | refine List.forall_mem_cons.2 ⟨?_, ?_⟩)) | (intro _; simp [RV.flatP, CD.flatP]; done)) ?_); try simp (disch := omega) only [go_sem, Nat.reduceLT, Nat.reduceAdd, Nat.reduceSub, Nat.reduceMul, Nat.reduceMod, Nat.reduceDiv, Nat.reduceBEq, Nat.reduceEqDiff, Nat.reduceLeDiff, reduceCtorEq, ↓reduceIte, beq_dec, Int.reduceToNat, Int.reduceLT, Int.reduceLE, Int.reduceAdd, Int.reduceSub, Int.reduceMul, Int.reduceEq, Int.reduceNeg, Int.reduceNe, Int.toNat_natCast, IntKind.signed, IntKind.bits, Int.reducePow, Nat.reducePow]) | refine And.intro (fun hc => (?_ : AW _ _ _ _)) (fun hc => (?_ : AW _ _ _ _)) | simp (disch := omega) only [go_sem, Nat.reduceLT, Nat.reduceAdd, Nat.reduceSub, Nat.reduceMul, Nat.reduceMod, Nat.reduceDiv, Nat.reduceBEq, Nat.reduceEqDiff, Nat.reduceLeDiff, reduceCtorEq, ↓reduceIte, beq_dec, Int.reduceToNat, Int.reduceLT, Int.reduceLE, Int.reduceAdd, Int.reduceSub, Int.reduceMul, Int.reduceEq, Int.reduceNeg, Int.reduceNe, Int.toNat_natCast, IntKind.signed, IntKind.bits, Int.reducePow, Nat.reducePow] | (refine And.intro ?_ ?_; focus (first | (intros; omega) | (intros; simp_all; done))) | refine And.intro (?_ : CallAt _ _ _ _ _ _ _ _) ?_ | refine And.intro (?_ : CallAt _ _ _ _ _ _ _ _ ∧ _) ?_ | fail))
  all_goals rfl
theorem chg_dec (s t : Chg) : (decide (s.key = t.key) && (decide (s.old = t.old) && (decide (s.new = t.new) && (s.had == t.had && s.has == t.has)))) = decide (s = t) := by
  by_cases h : s = t
  · subst h; simp
  · rw [decide_eq_false h, Bool.eq_false_iff]
    intro h'
    simp only [Bool.and_eq_true, decide_eq_true_eq, beq_iff_eq] at h'
    exact h (chg_ext ⟨h'.1, h'.2.1, h'.2.2.1, h'.2.2.2.1, h'.2.2.2.2⟩)
def fnd (d : List Chg) (c : Chg) (s : Nat) : Bool := (d.take s).any fun e => decide (e = c)
theorem fnd_succ (d : List Chg) (c : Chg) (s : Nat) (h : s < d.length) : fnd d c (s + 1) = (fnd d c s || decide (nth d s = c)) := by
  unfold fnd
  rw [List.take_succ_eq_append_getElem h, List.any_append, nth_eq d s h]
  simp
theorem fnd_all {d : List Chg} {c : Chg} (h : c ∈ d) : fnd d c d.length = true := by
  unfold fnd
  rw [List.take_length, List.any_eq_true]
  exact ⟨c, h, by simp⟩
set_option maxHeartbeats 8000000 in
theorem f3w (x a b : List (Int × Int)) : FnR Try.prog 3 [.c (EL x), .c (EL a), .c (EL b)] [.c (.B true)] := by
  have g1 := f17 x a b
  have g2 := f13 x a
  have g3 := f13 x b
  refine fn_walk code3 (by simp) ?_
  by_cases hgo : merE x a b = 0 ∧ diffE x a = 0 ∧ diffE x b = 0 ∧ confL x a b = []
  · obtain ⟨h1, h2, h3, h4⟩ := hgo
    by_cases hlen : x.length ≤ 20 ∧ a.length ≤ 20 ∧ b.length ≤ 20
    · obtain ⟨s1, s2, s3⟩ := mer_swap h1 h4
      obtain ⟨w1, w2, w3, w4, w5, w6, w7, w8, w9, w10⟩ := whole h1 h4 hlen.1 hlen.2.1 hlen.2.2
      obtain ⟨c1, c2⟩ := com_diff h2 w1
      have hd3 := (diffL_ok h3).2.2.2
      have g4 := f17 x b a
      rw [s1, s2, s3] at g4
      rw [h1, h4] at g1
      rw [h2] at g2
      rw [h3] at g3
      have gs := f16s (merL x a b)
      have gx := f16s x
      have g5 := f13 a (merL x a b)
      rw [w1] at g5
      have g6 := f27 a (diffL a (merL x a b))
      rw [w2, w3] at g6
      have g7 := f29 (diffL x a) (diffL a (merL x a b))
      rw [c1, c2, w4] at g7
      have g8 := f27 x (diffL x (merL x a b))
      rw [w5, w6] at g8
      have g9 := f22 (diffL x (merL x a b))
      rw [w7] at g9
      have g10 := f27 (merL x a b) (invL (diffL x (merL x a b)))
      rw [w8, w9] at g10
      rw [← hd3] at w10
      have hddl : (diffL x b).length ≤ 64 := by rw [hd3]; exact (diffL_ok h3).2.2.1
      have hrl : (diffL a (merL x a b)).length ≤ 64 := by rw [(diffL_ok w1).2.2.2]; exact (diffL_ok w1).2.2.1
      simp only [List.map_nil] at g1 g4
      clear h1 h2 h3 h4 s1 s2 s3 w1 w2 w3 w4 w5 w6 w7 w8 w9 c1 c2 hd3
      generalize merL x a b = m at *
      generalize diffL a m = rest at *
      generalize diffL x m = all at *
      generalize invL all = back at *
      generalize diffL x a = dc at *
      generalize diffL x b = dd at *
      (repeat' (first | refine NextAt.mk (fun hc => ?_) (fun pre n v post hc hkey => ?_) | refine Sni.mk (fun hc => ?_) ?_ | refine AW_seq ?_ | refine AW_block ?_ | ((first | refine AW_reg ?_ | refine AW_cond ?_ | refine AW_skip ?_ | refine AW_exit ?_ | refine AW_ret ?_ | refine AW_regD (by kernel_rfl) ?_ | refine AW_regX (by kernel_rfl) ?_ | refine CallAtG.t (Eq.refl true) ?_ | refine CallAtG.f (Eq.refl false) ?_ | refine CallAt.mk _ (f4w ..) (by first | (intro h; cases h; done) | (intro _; repeat' (first | exact List.forall_mem_nil _ | trivial | refine List.forall_mem_cons.2 ⟨?_, ?_⟩)) | (intro _; simp [RV.flatP, CD.flatP, List.length_nil]; done)) ?_ | refine CallAtG.mk _ (fun _ => f4w ..) ?_ | refine CallDS.mk _ (by simp [RV.data]) (fun _ => f4w ..) (by first | (intro h; cases h; done) | (intro _; repeat' (first | exact List.forall_mem_nil _ | trivial | refine List.forall_mem_cons.2 ⟨?_, ?_⟩)) | (intro _; simp [RV.flatP, CD.flatP, List.length_nil]; done)) ?_ | refine CallAt.mk _ (g1 ..) (by first | (intro h; cases h; done) | (intro _; repeat' (first | exact List.forall_mem_nil _ | trivial | refine List.forall_mem_cons.2 ⟨?_, ?_⟩)) | (intro _; simp [RV.flatP, CD.flatP, List.length_nil]; done)) ?_ | refine CallAtG.mk _ (fun _ => g1 ..) ?_ | refine CallDS.mk _ (by simp [RV.data]) (fun _ => g1 ..) (by first | (intro h; cases h; done) | (intro _; repeat' (first | exact List.forall_mem_nil _ | trivial | refine List.forall_mem_cons.2 ⟨?_, ?_⟩)) | (intro _; simp [RV.flatP, CD.flatP, List.length_nil]; done)) ?_ | refine CallAt.mk _ (g2 ..) (by first | (intro h; cases h; done) | (intro _; repeat' (first | exact List.forall_mem_nil _ | trivial | refine List.forall_mem_cons.2 ⟨?_, ?_⟩)) | (intro _; simp [RV.flatP, CD.flatP, List.length_nil]; done)) ?_ | refine CallAtG.mk _ (fun _ => g2 ..) ?_ | refine CallDS.mk _ (by simp [RV.data]) (fun _ => g2 ..) (by first | (intro h; cases h; done) | (intro _; repeat' (first | exact List.forall_mem_nil _ | trivial | refine List.forall_mem_cons.2 ⟨?_, ?_⟩)) | (intro _; simp [RV.flatP, CD.flatP, List.length_nil]; done)) ?_ | refine CallAt.mk _ (g3 ..) (by first | (intro h; cases h; done) | (intro _; repeat' (first | exact List.forall_mem_nil _ | trivial | refine List.forall_mem_cons.2 ⟨?_, ?_⟩)) | (intro _; simp [RV.flatP, CD.flatP, List.length_nil]; done)) ?_ | refine CallAtG.mk _ (fun _ => g3 ..) ?_ | refine CallDS.mk _ (by simp [RV.data]) (fun _ => g3 ..) (by first | (intro h; cases h; done) | (intro _; repeat' (first | exact List.forall_mem_nil _ | trivial | refine List.forall_mem_cons.2 ⟨?_, ?_⟩)) | (intro _; simp [RV.flatP, CD.flatP, List.length_nil]; done)) ?_ | refine CallAt.mk _ (g4 ..) (by first | (intro h; cases h; done) | (intro _; repeat' (first | exact List.forall_mem_nil _ | trivial | refine List.forall_mem_cons.2 ⟨?_, ?_⟩)) | (intro _; simp [RV.flatP, CD.flatP, List.length_nil]; done)) ?_ | refine CallAtG.mk _ (fun _ => g4 ..) ?_ | refine CallDS.mk _ (by simp [RV.data]) (fun _ => g4 ..) (by first | (intro h; cases h; done) | (intro _; repeat' (first | exact List.forall_mem_nil _ | trivial | refine List.forall_mem_cons.2 ⟨?_, ?_⟩)) | (intro _; simp [RV.flatP, CD.flatP, List.length_nil]; done)) ?_); try simp (disch := omega) only [go_sem, Nat.reduceLT, Nat.reduceAdd, Nat.reduceSub, Nat.reduceMul, Nat.reduceMod, Nat.reduceDiv, Nat.reduceBEq, Nat.reduceEqDiff, Nat.reduceLeDiff, reduceCtorEq, ↓reduceIte, beq_dec, Int.reduceToNat, Int.reduceLT, Int.reduceLE, Int.reduceAdd, Int.reduceSub, Int.reduceMul, Int.reduceEq, Int.reduceNeg, Int.reduceNe, Int.toNat_natCast, IntKind.signed, IntKind.bits, Int.reducePow, Nat.reducePow, List.length_nil]) | refine And.intro (fun hc => (?_ : AW _ _ _ _)) (fun hc => (?_ : AW _ _ _ _)) | simp (disch := omega) only [go_sem, Nat.reduceLT, Nat.reduceAdd, Nat.reduceSub, Nat.reduceMul, Nat.reduceMod, Nat.reduceDiv, Nat.reduceBEq, Nat.reduceEqDiff, Nat.reduceLeDiff, reduceCtorEq, ↓reduceIte, beq_dec, Int.reduceToNat, Int.reduceLT, Int.reduceLE, Int.reduceAdd, Int.reduceSub, Int.reduceMul, Int.reduceEq, Int.reduceNeg, Int.reduceNe, Int.toNat_natCast, IntKind.signed, IntKind.bits, Int.reducePow, Nat.reducePow, List.length_nil] | (refine And.intro ?_ ?_; focus (first | (intros; omega) | (intros; simp_all; done))) | refine And.intro (?_ : CallAt _ _ _ _ _ _ _ _) ?_ | refine And.intro (?_ : CallAt _ _ _ _ _ _ _ _ ∧ _) ?_ | fail))
      all_goals try (exfalso; omega)
      refine CallAt.frz [96, 54] ?_
      simp (disch := omega) only [go_sem, Nat.reduceLT, Nat.reduceAdd, Nat.reduceSub, Nat.reduceMul, Nat.reduceMod, Nat.reduceDiv, Nat.reduceBEq, Nat.reduceEqDiff, Nat.reduceLeDiff, reduceCtorEq, ↓reduceIte, beq_dec, Int.reduceToNat, Int.reduceLT, Int.reduceLE, Int.reduceAdd, Int.reduceSub, Int.reduceMul, Int.reduceEq, Int.reduceNeg, Int.reduceNe, Int.toNat_natCast, IntKind.signed, IntKind.bits, Int.reducePow, Nat.reducePow]
      refine CallAt.mk _ gs (fun h => by cases h) ?_
      (repeat' (first | refine NextAt.mk (fun hc => ?_) (fun pre n v post hc hkey => ?_) | refine Sni.mk (fun hc => ?_) ?_ | refine AW_seq ?_ | refine AW_block ?_ | ((first | refine AW_reg ?_ | refine AW_cond ?_ | refine AW_skip ?_ | refine AW_exit ?_ | refine AW_ret ?_ | refine AW_regD (by kernel_rfl) ?_ | refine AW_regX (by kernel_rfl) ?_ | refine CallAtG.t (Eq.refl true) ?_ | refine CallAtG.f (Eq.refl false) ?_ | refine CallAt.mk _ (g5 ..) (by first | (intro h; cases h; done) | (intro _; repeat' (first | exact List.forall_mem_nil _ | trivial | refine List.forall_mem_cons.2 ⟨?_, ?_⟩)) | (intro _; simp [RV.flatP, CD.flatP, List.length_nil]; done)) ?_ | refine CallAtG.mk _ (fun _ => g5 ..) ?_ | refine CallDS.mk _ (by simp [RV.data]) (fun _ => g5 ..) (by first | (intro h; cases h; done) | (intro _; repeat' (first | exact List.forall_mem_nil _ | trivial | refine List.forall_mem_cons.2 ⟨?_, ?_⟩)) | (intro _; simp [RV.flatP, CD.flatP, List.length_nil]; done)) ?_); try simp (disch := omega) only [go_sem, Nat.reduceLT, Nat.reduceAdd, Nat.reduceSub, Nat.reduceMul, Nat.reduceMod, Nat.reduceDiv, Nat.reduceBEq, Nat.reduceEqDiff, Nat.reduceLeDiff, reduceCtorEq, ↓reduceIte, beq_dec, Int.reduceToNat, Int.reduceLT, Int.reduceLE, Int.reduceAdd, Int.reduceSub, Int.reduceMul, Int.reduceEq, Int.reduceNeg, Int.reduceNe, Int.toNat_natCast, IntKind.signed, IntKind.bits, Int.reducePow, Nat.reducePow, List.length_nil]) | refine And.intro (fun hc => (?_ : AW _ _ _ _)) (fun hc => (?_ : AW _ _ _ _)) | simp (disch := omega) only [go_sem, Nat.reduceLT, Nat.reduceAdd, Nat.reduceSub, Nat.reduceMul, Nat.reduceMod, Nat.reduceDiv, Nat.reduceBEq, Nat.reduceEqDiff, Nat.reduceLeDiff, reduceCtorEq, ↓reduceIte, beq_dec, Int.reduceToNat, Int.reduceLT, Int.reduceLE, Int.reduceAdd, Int.reduceSub, Int.reduceMul, Int.reduceEq, Int.reduceNeg, Int.reduceNe, Int.toNat_natCast, IntKind.signed, IntKind.bits, Int.reducePow, Nat.reducePow, List.length_nil] | (refine And.intro ?_ ?_; focus (first | (intros; omega) | (intros; simp_all; done))) | refine And.intro (?_ : CallAt _ _ _ _ _ _ _ _) ?_ | refine And.intro (?_ : CallAt _ _ _ _ _ _ _ _ ∧ _) ?_ | fail))
      all_goals try (exfalso; omega)
      refine CallAt.frz [116] ?_
      simp (disch := omega) only [go_sem, Nat.reduceLT, Nat.reduceAdd, Nat.reduceSub, Nat.reduceMul, Nat.reduceMod, Nat.reduceDiv, Nat.reduceBEq, Nat.reduceEqDiff, Nat.reduceLeDiff, reduceCtorEq, ↓reduceIte, beq_dec, Int.reduceToNat, Int.reduceLT, Int.reduceLE, Int.reduceAdd, Int.reduceSub, Int.reduceMul, Int.reduceEq, Int.reduceNeg, Int.reduceNe, Int.toNat_natCast, IntKind.signed, IntKind.bits, Int.reducePow, Nat.reducePow]
      refine CallAt.mk _ g6 (fun h => by cases h) ?_
      (repeat' (first | refine NextAt.mk (fun hc => ?_) (fun pre n v post hc hkey => ?_) | refine Sni.mk (fun hc => ?_) ?_ | refine AW_seq ?_ | refine AW_block ?_ | ((first | refine AW_reg ?_ | refine AW_cond ?_ | refine AW_skip ?_ | refine AW_exit ?_ | refine AW_ret ?_ | refine AW_regD (by kernel_rfl) ?_ | refine AW_regX (by kernel_rfl) ?_ | refine CallAtG.t (Eq.refl true) ?_ | refine CallAtG.f (Eq.refl false) ?_); try simp (disch := omega) only [go_sem, Nat.reduceLT, Nat.reduceAdd, Nat.reduceSub, Nat.reduceMul, Nat.reduceMod, Nat.reduceDiv, Nat.reduceBEq, Nat.reduceEqDiff, Nat.reduceLeDiff, reduceCtorEq, ↓reduceIte, beq_dec, Int.reduceToNat, Int.reduceLT, Int.reduceLE, Int.reduceAdd, Int.reduceSub, Int.reduceMul, Int.reduceEq, Int.reduceNeg, Int.reduceNe, Int.toNat_natCast, IntKind.signed, IntKind.bits, Int.reducePow, Nat.reducePow]) | refine And.intro (fun hc => (?_ : AW _ _ _ _)) (fun hc => (?_ : AW _ _ _ _)) | simp (disch := omega) only [go_sem, Nat.reduceLT, Nat.reduceAdd, Nat.reduceSub, Nat.reduceMul, Nat.reduceMod, Nat.reduceDiv, Nat.reduceBEq, Nat.reduceEqDiff, Nat.reduceLeDiff, reduceCtorEq, ↓reduceIte, beq_dec, Int.reduceToNat, Int.reduceLT, Int.reduceLE, Int.reduceAdd, Int.reduceSub, Int.reduceMul, Int.reduceEq, Int.reduceNeg, Int.reduceNe, Int.toNat_natCast, IntKind.signed, IntKind.bits, Int.reducePow, Nat.reducePow] | (refine And.intro ?_ ?_; focus (first | (intros; omega) | (intros; simp_all; done))) | refine And.intro (?_ : CallAt _ _ _ _ _ _ _ _) ?_ | refine And.intro (?_ : CallAt _ _ _ _ _ _ _ _ ∧ _) ?_ | fail))
      refine CallAt.frz [61] ?_
      simp (disch := omega) only [go_sem, Nat.reduceLT, Nat.reduceAdd, Nat.reduceSub, Nat.reduceMul, Nat.reduceMod, Nat.reduceDiv, Nat.reduceBEq, Nat.reduceEqDiff, Nat.reduceLeDiff, reduceCtorEq, ↓reduceIte, beq_dec, Int.reduceToNat, Int.reduceLT, Int.reduceLE, Int.reduceAdd, Int.reduceSub, Int.reduceMul, Int.reduceEq, Int.reduceNeg, Int.reduceNe, Int.toNat_natCast, IntKind.signed, IntKind.bits, Int.reducePow, Nat.reducePow]
      refine CallAt.mk _ g7 (fun h => by cases h) ?_
      (repeat' (first | refine NextAt.mk (fun hc => ?_) (fun pre n v post hc hkey => ?_) | refine Sni.mk (fun hc => ?_) ?_ | refine AW_seq ?_ | refine AW_block ?_ | ((first | refine AW_reg ?_ | refine AW_cond ?_ | refine AW_skip ?_ | refine AW_exit ?_ | refine AW_ret ?_ | refine AW_regD (by kernel_rfl) ?_ | refine AW_regX (by kernel_rfl) ?_ | refine CallAtG.t (Eq.refl true) ?_ | refine CallAtG.f (Eq.refl false) ?_); try simp (disch := omega) only [go_sem, Nat.reduceLT, Nat.reduceAdd, Nat.reduceSub, Nat.reduceMul, Nat.reduceMod, Nat.reduceDiv, Nat.reduceBEq, Nat.reduceEqDiff, Nat.reduceLeDiff, reduceCtorEq, ↓reduceIte, beq_dec, Int.reduceToNat, Int.reduceLT, Int.reduceLE, Int.reduceAdd, Int.reduceSub, Int.reduceMul, Int.reduceEq, Int.reduceNeg, Int.reduceNe, Int.toNat_natCast, IntKind.signed, IntKind.bits, Int.reducePow, Nat.reducePow]) | refine And.intro (fun hc => (?_ : AW _ _ _ _)) (fun hc => (?_ : AW _ _ _ _)) | simp (disch := omega) only [go_sem, Nat.reduceLT, Nat.reduceAdd, Nat.reduceSub, Nat.reduceMul, Nat.reduceMod, Nat.reduceDiv, Nat.reduceBEq, Nat.reduceEqDiff, Nat.reduceLeDiff, reduceCtorEq, ↓reduceIte, beq_dec, Int.reduceToNat, Int.reduceLT, Int.reduceLE, Int.reduceAdd, Int.reduceSub, Int.reduceMul, Int.reduceEq, Int.reduceNeg, Int.reduceNe, Int.toNat_natCast, IntKind.signed, IntKind.bits, Int.reducePow, Nat.reducePow] | (refine And.intro ?_ ?_; focus (first | (intros; omega) | (intros; simp_all; done))) | refine And.intro (?_ : CallAt _ _ _ _ _ _ _ _) ?_ | refine And.intro (?_ : CallAt _ _ _ _ _ _ _ _ ∧ _) ?_ | fail))
      refine CallAt.frz [128] ?_
      simp (disch := omega) only [go_sem, Nat.reduceLT, Nat.reduceAdd, Nat.reduceSub, Nat.reduceMul, Nat.reduceMod, Nat.reduceDiv, Nat.reduceBEq, Nat.reduceEqDiff, Nat.reduceLeDiff, reduceCtorEq, ↓reduceIte, beq_dec, Int.reduceToNat, Int.reduceLT, Int.reduceLE, Int.reduceAdd, Int.reduceSub, Int.reduceMul, Int.reduceEq, Int.reduceNeg, Int.reduceNe, Int.toNat_natCast, IntKind.signed, IntKind.bits, Int.reducePow, Nat.reducePow]
      refine CallAt.mk _ g8 (fun h => by cases h) ?_
      (repeat' (first | refine NextAt.mk (fun hc => ?_) (fun pre n v post hc hkey => ?_) | refine Sni.mk (fun hc => ?_) ?_ | refine AW_seq ?_ | refine AW_block ?_ | ((first | refine AW_reg ?_ | refine AW_cond ?_ | refine AW_skip ?_ | refine AW_exit ?_ | refine AW_ret ?_ | refine AW_regD (by kernel_rfl) ?_ | refine AW_regX (by kernel_rfl) ?_ | refine CallAtG.t (Eq.refl true) ?_ | refine CallAtG.f (Eq.refl false) ?_ | refine CallAt.mk _ (g9 ..) (by first | (intro h; cases h; done) | (intro _; repeat' (first | exact List.forall_mem_nil _ | trivial | refine List.forall_mem_cons.2 ⟨?_, ?_⟩)) | (intro _; simp [RV.flatP, CD.flatP]; done)) ?_ | refine CallAtG.mk _ (fun _ => g9 ..) ?_ | refine CallDS.mk _ (by simp [RV.data]) (fun _ => g9 ..) (by first | (intro h; cases h; done) | (intro _; repeat' (first | exact List.forall_mem_nil _ | trivial | refine List.forall_mem_cons.2 ⟨?_, ?_⟩)) | (intro _; simp [RV.flatP, CD.flatP]; done)) ?_); try simp (disch := omega) only [go_sem, Nat.reduceLT, Nat.reduceAdd, Nat.reduceSub, Nat.reduceMul, Nat.reduceMod, Nat.reduceDiv, Nat.reduceBEq, Nat.reduceEqDiff, Nat.reduceLeDiff, reduceCtorEq, ↓reduceIte, beq_dec, Int.reduceToNat, Int.reduceLT, Int.reduceLE, Int.reduceAdd, Int.reduceSub, Int.reduceMul, Int.reduceEq, Int.reduceNeg, Int.reduceNe, Int.toNat_natCast, IntKind.signed, IntKind.bits, Int.reducePow, Nat.reducePow]) | refine And.intro (fun hc => (?_ : AW _ _ _ _)) (fun hc => (?_ : AW _ _ _ _)) | simp (disch := omega) only [go_sem, Nat.reduceLT, Nat.reduceAdd, Nat.reduceSub, Nat.reduceMul, Nat.reduceMod, Nat.reduceDiv, Nat.reduceBEq, Nat.reduceEqDiff, Nat.reduceLeDiff, reduceCtorEq, ↓reduceIte, beq_dec, Int.reduceToNat, Int.reduceLT, Int.reduceLE, Int.reduceAdd, Int.reduceSub, Int.reduceMul, Int.reduceEq, Int.reduceNeg, Int.reduceNe, Int.toNat_natCast, IntKind.signed, IntKind.bits, Int.reducePow, Nat.reducePow] | (refine And.intro ?_ ?_; focus (first | (intros; omega) | (intros; simp_all; done))) | refine And.intro (?_ : CallAt _ _ _ _ _ _ _ _) ?_ | refine And.intro (?_ : CallAt _ _ _ _ _ _ _ _ ∧ _) ?_ | fail))
      refine CallAt.frz [139] ?_
      simp (disch := omega) only [go_sem, Nat.reduceLT, Nat.reduceAdd, Nat.reduceSub, Nat.reduceMul, Nat.reduceMod, Nat.reduceDiv, Nat.reduceBEq, Nat.reduceEqDiff, Nat.reduceLeDiff, reduceCtorEq, ↓reduceIte, beq_dec, Int.reduceToNat, Int.reduceLT, Int.reduceLE, Int.reduceAdd, Int.reduceSub, Int.reduceMul, Int.reduceEq, Int.reduceNeg, Int.reduceNe, Int.toNat_natCast, IntKind.signed, IntKind.bits, Int.reducePow, Nat.reducePow]
      refine CallAt.mk _ g10 (fun h => by cases h) ?_
      (repeat' (first | refine NextAt.mk (fun hc => ?_) (fun pre n v post hc hkey => ?_) | refine Sni.mk (fun hc => ?_) ?_ | refine AW_seq ?_ | refine AW_block ?_ | ((first | refine AW_reg ?_ | refine AW_cond ?_ | refine AW_skip ?_ | refine AW_exit ?_ | refine AW_ret ?_ | refine AW_regD (by kernel_rfl) ?_ | refine AW_regX (by kernel_rfl) ?_ | refine CallAtG.t (Eq.refl true) ?_ | refine CallAtG.f (Eq.refl false) ?_); try simp (disch := omega) only [go_sem, Nat.reduceLT, Nat.reduceAdd, Nat.reduceSub, Nat.reduceMul, Nat.reduceMod, Nat.reduceDiv, Nat.reduceBEq, Nat.reduceEqDiff, Nat.reduceLeDiff, reduceCtorEq, ↓reduceIte, beq_dec, Int.reduceToNat, Int.reduceLT, Int.reduceLE, Int.reduceAdd, Int.reduceSub, Int.reduceMul, Int.reduceEq, Int.reduceNeg, Int.reduceNe, Int.toNat_natCast, IntKind.signed, IntKind.bits, Int.reducePow, Nat.reducePow]) | refine And.intro (fun hc => (?_ : AW _ _ _ _)) (fun hc => (?_ : AW _ _ _ _)) | simp (disch := omega) only [go_sem, Nat.reduceLT, Nat.reduceAdd, Nat.reduceSub, Nat.reduceMul, Nat.reduceMod, Nat.reduceDiv, Nat.reduceBEq, Nat.reduceEqDiff, Nat.reduceLeDiff, reduceCtorEq, ↓reduceIte, beq_dec, Int.reduceToNat, Int.reduceLT, Int.reduceLE, Int.reduceAdd, Int.reduceSub, Int.reduceMul, Int.reduceEq, Int.reduceNeg, Int.reduceNe, Int.toNat_natCast, IntKind.signed, IntKind.bits, Int.reducePow, Nat.reducePow] | (refine And.intro ?_ ?_; focus (first | (intros; omega) | (intros; simp_all; done))) | refine And.intro (?_ : CallAt _ _ _ _ _ _ _ _) ?_ | refine And.intro (?_ : CallAt _ _ _ _ _ _ _ _ ∧ _) ?_ | fail))
      refine AW_frz [67] ?_
      simp (disch := omega) only [go_sem, Nat.reduceLT, Nat.reduceAdd, Nat.reduceSub, Nat.reduceMul, Nat.reduceMod, Nat.reduceDiv, Nat.reduceBEq, Nat.reduceEqDiff, Nat.reduceLeDiff, reduceCtorEq, ↓reduceIte, beq_dec, Int.reduceToNat, Int.reduceLT, Int.reduceLE, Int.reduceAdd, Int.reduceSub, Int.reduceMul, Int.reduceEq, Int.reduceNeg, Int.reduceNe, Int.toNat_natCast, IntKind.signed, IntKind.bits, Int.reducePow, Nat.reducePow]
      refine AW_loopK [0, 7, 12, 17, 19, 23, 27] [6, 29, 30, 31, 170, 171, 172, 173, 174, 175, 176, 177, 178, 179, 180, 181, 182, 183, 184, 185, 186, 187, 188, 189, 190, 191, 192, 193, 194, 195] (fun r : Nat => r ≤ rest.length) (fun r => [(29, .I r)]) (fun _ => []) (fun r => rest.length - r) 0 (by omega) ?_ ?_
      · simp (disch := omega) only [go_sem, Nat.reduceLT, Nat.reduceAdd, Nat.reduceSub, Nat.reduceMul, Nat.reduceMod, Nat.reduceDiv, Nat.reduceBEq, Nat.reduceEqDiff, Nat.reduceLeDiff, reduceCtorEq, ↓reduceIte, beq_dec, Int.reduceToNat, Int.reduceLT, Int.reduceLE, Int.reduceAdd, Int.reduceSub, Int.reduceMul, Int.reduceEq, Int.reduceNeg, Int.reduceNe, Int.toNat_natCast, IntKind.signed, IntKind.bits, Int.reducePow, Nat.reducePow, Int.natCast_zero]
      · intro r hr
        have ge := fun h : r < rest.length => fnd_all (w10 (nth rest r) (nth_mem rest r h))
        clear w10 g1 g2 g3 g4 g5 g6 g7 g8 g9 g10
        (repeat' (first | refine NextAt.mk (fun hc => ?_) (fun pre n v post hc hkey => ?_) | refine Sni.mk (fun hc => ?_) ?_ | refine AW_seq ?_ | refine AW_block ?_ | ((first | refine AW_reg ?_ | refine AW_cond ?_ | refine AW_skip ?_ | refine AW_exit ?_ | refine AW_ret ?_ | refine AW_regD (by kernel_rfl) ?_ | refine AW_regX (by kernel_rfl) ?_ | refine CallAtG.t (Eq.refl true) ?_ | refine CallAtG.f (Eq.refl false) ?_); try simp (disch := omega) only [go_sem, Nat.reduceLT, Nat.reduceAdd, Nat.reduceSub, Nat.reduceMul, Nat.reduceMod, Nat.reduceDiv, Nat.reduceBEq, Nat.reduceEqDiff, Nat.reduceLeDiff, reduceCtorEq, ↓reduceIte, beq_dec, Int.reduceToNat, Int.reduceLT, Int.reduceLE, Int.reduceAdd, Int.reduceSub, Int.reduceMul, Int.reduceEq, Int.reduceNeg, Int.reduceNe, Int.toNat_natCast, IntKind.signed, IntKind.bits, Int.reducePow, Nat.reducePow]) | refine And.intro (fun hc => (?_ : AW _ _ _ _)) (fun hc => (?_ : AW _ _ _ _)) | simp (disch := omega) only [go_sem, Nat.reduceLT, Nat.reduceAdd, Nat.reduceSub, Nat.reduceMul, Nat.reduceMod, Nat.reduceDiv, Nat.reduceBEq, Nat.reduceEqDiff, Nat.reduceLeDiff, reduceCtorEq, ↓reduceIte, beq_dec, Int.reduceToNat, Int.reduceLT, Int.reduceLE, Int.reduceAdd, Int.reduceSub, Int.reduceMul, Int.reduceEq, Int.reduceNeg, Int.reduceNe, Int.toNat_natCast, IntKind.signed, IntKind.bits, Int.reducePow, Nat.reducePow] | (refine And.intro ?_ ?_; focus (first | (intros; omega) | (intros; simp_all; done))) | refine And.intro (?_ : CallAt _ _ _ _ _ _ _ _) ?_ | refine And.intro (?_ : CallAt _ _ _ _ _ _ _ _ ∧ _) ?_ | fail))
        · refine AW_loopK [0, 7, 12, 17, 19, 23, 27, 29] [30, 31, 176, 177, 178, 179, 180, 181, 182, 183, 184, 185, 186, 187, 188, 189, 190, 191, 192, 193] (fun s : Nat => s ≤ dd.length) (fun s => [(31, .I s), (30, .B (fnd dd (nth rest r) s))]) (fun _ => []) (fun s => dd.length - s) 0 (by omega) ?_ ?_
          · simp (disch := omega) only [go_sem, Nat.reduceLT, Nat.reduceAdd, Nat.reduceSub, Nat.reduceMul, Nat.reduceMod, Nat.reduceDiv, Nat.reduceBEq, Nat.reduceEqDiff, Nat.reduceLeDiff, reduceCtorEq, ↓reduceIte, beq_dec, Int.reduceToNat, Int.reduceLT, Int.reduceLE, Int.reduceAdd, Int.reduceSub, Int.reduceMul, Int.reduceEq, Int.reduceNeg, Int.reduceNe, Int.toNat_natCast, IntKind.signed, IntKind.bits, Int.reducePow, Nat.reducePow, Int.natCast_zero, fnd, List.take_zero, List.any_nil]
          · intro s hs
            by_cases hlt : (s : Int) < (dd.length : Int)
            · have hsu := fnd_succ dd (nth rest r) s (by omega)
              cases hf : fnd dd (nth rest r) s with
              | true =>
                rw [hf] at hsu
                (repeat' (first | refine NextAt.mk (fun hc => ?_) (fun pre n v post hc hkey => ?_) | refine Sni.mk (fun hc => ?_) ?_ | refine AW_seq ?_ | refine AW_block ?_ | ((first | refine AW_reg ?_ | refine AW_cond ?_ | refine AW_skip ?_ | refine AW_exit ?_ | refine AW_ret ?_ | refine AW_regD (by kernel_rfl) ?_ | refine AW_regX (by kernel_rfl) ?_ | refine CallAtG.t (Eq.refl true) ?_ | refine CallAtG.f (Eq.refl false) ?_); try simp (disch := omega) only [go_sem, Nat.reduceLT, Nat.reduceAdd, Nat.reduceSub, Nat.reduceMul, Nat.reduceMod, Nat.reduceDiv, Nat.reduceBEq, Nat.reduceEqDiff, Nat.reduceLeDiff, reduceCtorEq, ↓reduceIte, beq_dec, Int.reduceToNat, Int.reduceLT, Int.reduceLE, Int.reduceAdd, Int.reduceSub, Int.reduceMul, Int.reduceEq, Int.reduceNeg, Int.reduceNe, Int.toNat_natCast, IntKind.signed, IntKind.bits, Int.reducePow, Nat.reducePow, hlt, decide_true, getD_map Chg.cd, Chg.cd, List.map_cons, List.map_nil]) | refine And.intro (fun hc => (?_ : AW _ _ _ _)) (fun hc => (?_ : AW _ _ _ _)) | simp (disch := omega) only [go_sem, Nat.reduceLT, Nat.reduceAdd, Nat.reduceSub, Nat.reduceMul, Nat.reduceMod, Nat.reduceDiv, Nat.reduceBEq, Nat.reduceEqDiff, Nat.reduceLeDiff, reduceCtorEq, ↓reduceIte, beq_dec, Int.reduceToNat, Int.reduceLT, Int.reduceLE, Int.reduceAdd, Int.reduceSub, Int.reduceMul, Int.reduceEq, Int.reduceNeg, Int.reduceNe, Int.toNat_natCast, IntKind.signed, IntKind.bits, Int.reducePow, Nat.reducePow, hlt, decide_true, getD_map Chg.cd, Chg.cd, List.map_cons, List.map_nil] | (refine And.intro ?_ ?_; focus (first | (intros; omega) | (intros; simp_all; done))) | refine And.intro (?_ : CallAt _ _ _ _ _ _ _ _) ?_ | refine And.intro (?_ : CallAt _ _ _ _ _ _ _ _ ∧ _) ?_ | fail))
                refine .mk (s + 1) (by omega) (by omega) ?_
                rw [hsu, Bool.true_or]
                simp (disch := omega) only [go_sem, Nat.reduceLT, Nat.reduceAdd, Nat.reduceSub, Nat.reduceMul, Nat.reduceMod, Nat.reduceDiv, Nat.reduceBEq, Nat.reduceEqDiff, Nat.reduceLeDiff, reduceCtorEq, ↓reduceIte, beq_dec, Int.reduceToNat, Int.reduceLT, Int.reduceLE, Int.reduceAdd, Int.reduceSub, Int.reduceMul, Int.reduceEq, Int.reduceNeg, Int.reduceNe, Int.toNat_natCast, IntKind.signed, IntKind.bits, Int.reducePow, Nat.reducePow, Int.natCast_add, Int.natCast_one]
              | false =>
                rw [hf] at hsu
                (repeat' (first | refine NextAt.mk (fun hc => ?_) (fun pre n v post hc hkey => ?_) | refine Sni.mk (fun hc => ?_) ?_ | refine AW_seq ?_ | refine AW_block ?_ | ((first | refine AW_reg ?_ | refine AW_cond ?_ | refine AW_skip ?_ | refine AW_exit ?_ | refine AW_ret ?_ | refine AW_regD (by kernel_rfl) ?_ | refine AW_regX (by kernel_rfl) ?_ | refine CallAtG.t (Eq.refl true) ?_ | refine CallAtG.f (Eq.refl false) ?_); try simp (disch := omega) only [go_sem, Nat.reduceLT, Nat.reduceAdd, Nat.reduceSub, Nat.reduceMul, Nat.reduceMod, Nat.reduceDiv, Nat.reduceBEq, Nat.reduceEqDiff, Nat.reduceLeDiff, reduceCtorEq, ↓reduceIte, beq_dec, Int.reduceToNat, Int.reduceLT, Int.reduceLE, Int.reduceAdd, Int.reduceSub, Int.reduceMul, Int.reduceEq, Int.reduceNeg, Int.reduceNe, Int.toNat_natCast, IntKind.signed, IntKind.bits, Int.reducePow, Nat.reducePow, hlt, decide_true, getD_map Chg.cd, Chg.cd, List.map_cons, List.map_nil]) | refine And.intro (fun hc => (?_ : AW _ _ _ _)) (fun hc => (?_ : AW _ _ _ _)) | simp (disch := omega) only [go_sem, Nat.reduceLT, Nat.reduceAdd, Nat.reduceSub, Nat.reduceMul, Nat.reduceMod, Nat.reduceDiv, Nat.reduceBEq, Nat.reduceEqDiff, Nat.reduceLeDiff, reduceCtorEq, ↓reduceIte, beq_dec, Int.reduceToNat, Int.reduceLT, Int.reduceLE, Int.reduceAdd, Int.reduceSub, Int.reduceMul, Int.reduceEq, Int.reduceNeg, Int.reduceNe, Int.toNat_natCast, IntKind.signed, IntKind.bits, Int.reducePow, Nat.reducePow, hlt, decide_true, getD_map Chg.cd, Chg.cd, List.map_cons, List.map_nil] | (refine And.intro ?_ ?_; focus (first | (intros; omega) | (intros; simp_all; done))) | refine And.intro (?_ : CallAt _ _ _ _ _ _ _ _) ?_ | refine And.intro (?_ : CallAt _ _ _ _ _ _ _ _ ∧ _) ?_ | fail))
                refine .mk (s + 1) (by omega) (by omega) ?_
                rw [hsu, Bool.false_or]
                simp (disch := omega) only [go_sem, Nat.reduceLT, Nat.reduceAdd, Nat.reduceSub, Nat.reduceMul, Nat.reduceMod, Nat.reduceDiv, Nat.reduceBEq, Nat.reduceEqDiff, Nat.reduceLeDiff, reduceCtorEq, ↓reduceIte, beq_dec, Int.reduceToNat, Int.reduceLT, Int.reduceLE, Int.reduceAdd, Int.reduceSub, Int.reduceMul, Int.reduceEq, Int.reduceNeg, Int.reduceNe, Int.toNat_natCast, IntKind.signed, IntKind.bits, Int.reducePow, Nat.reducePow, Int.natCast_add, Int.natCast_one, chg_dec]
            · have hse : s = dd.length := by omega
              have hf : fnd dd (nth rest r) s = true := by rw [hse]; exact ge (by omega)
              rw [hf]
              (repeat' (first | refine NextAt.mk (fun hc => ?_) (fun pre n v post hc hkey => ?_) | refine Sni.mk (fun hc => ?_) ?_ | refine AW_seq ?_ | refine AW_block ?_ | ((first | refine AW_reg ?_ | refine AW_cond ?_ | refine AW_skip ?_ | refine AW_exit ?_ | refine AW_ret ?_ | refine AW_regD (by kernel_rfl) ?_ | refine AW_regX (by kernel_rfl) ?_ | refine CallAtG.t (Eq.refl true) ?_ | refine CallAtG.f (Eq.refl false) ?_); try simp (disch := omega) only [go_sem, Nat.reduceLT, Nat.reduceAdd, Nat.reduceSub, Nat.reduceMul, Nat.reduceMod, Nat.reduceDiv, Nat.reduceBEq, Nat.reduceEqDiff, Nat.reduceLeDiff, reduceCtorEq, ↓reduceIte, beq_dec, Int.reduceToNat, Int.reduceLT, Int.reduceLE, Int.reduceAdd, Int.reduceSub, Int.reduceMul, Int.reduceEq, Int.reduceNeg, Int.reduceNe, Int.toNat_natCast, IntKind.signed, IntKind.bits, Int.reducePow, Nat.reducePow, hlt, decide_false]) | refine And.intro (fun hc => (?_ : AW _ _ _ _)) (fun hc => (?_ : AW _ _ _ _)) | simp (disch := omega) only [go_sem, Nat.reduceLT, Nat.reduceAdd, Nat.reduceSub, Nat.reduceMul, Nat.reduceMod, Nat.reduceDiv, Nat.reduceBEq, Nat.reduceEqDiff, Nat.reduceLeDiff, reduceCtorEq, ↓reduceIte, beq_dec, Int.reduceToNat, Int.reduceLT, Int.reduceLE, Int.reduceAdd, Int.reduceSub, Int.reduceMul, Int.reduceEq, Int.reduceNeg, Int.reduceNe, Int.toNat_natCast, IntKind.signed, IntKind.bits, Int.reducePow, Nat.reducePow, hlt, decide_false] | (refine And.intro ?_ ?_; focus (first | (intros; omega) | (intros; simp_all; done))) | refine And.intro (?_ : CallAt _ _ _ _ _ _ _ _) ?_ | refine And.intro (?_ : CallAt _ _ _ _ _ _ _ _ ∧ _) ?_ | fail))
              refine .mk (r + 1) (by omega) (by omega) ?_
              simp (disch := omega) only [go_sem, Nat.reduceLT, Nat.reduceAdd, Nat.reduceSub, Nat.reduceMul, Nat.reduceMod, Nat.reduceDiv, Nat.reduceBEq, Nat.reduceEqDiff, Nat.reduceLeDiff, reduceCtorEq, ↓reduceIte, beq_dec, Int.reduceToNat, Int.reduceLT, Int.reduceLE, Int.reduceAdd, Int.reduceSub, Int.reduceMul, Int.reduceEq, Int.reduceNeg, Int.reduceNe, Int.toNat_natCast, IntKind.signed, IntKind.bits, Int.reducePow, Nat.reducePow, Int.natCast_add, Int.natCast_one]
        · refine CallAt.frz [122] ?_
          simp (disch := omega) only [go_sem, Nat.reduceLT, Nat.reduceAdd, Nat.reduceSub, Nat.reduceMul, Nat.reduceMod, Nat.reduceDiv, Nat.reduceBEq, Nat.reduceEqDiff, Nat.reduceLeDiff, reduceCtorEq, ↓reduceIte, beq_dec, Int.reduceToNat, Int.reduceLT, Int.reduceLE, Int.reduceAdd, Int.reduceSub, Int.reduceMul, Int.reduceEq, Int.reduceNeg, Int.reduceNe, Int.toNat_natCast, IntKind.signed, IntKind.bits, Int.reducePow, Nat.reducePow]
          refine CallAt.mk _ gs (fun h => by cases h) ?_
          (repeat' (first | refine NextAt.mk (fun hc => ?_) (fun pre n v post hc hkey => ?_) | refine Sni.mk (fun hc => ?_) ?_ | refine AW_seq ?_ | refine AW_block ?_ | ((first | refine AW_reg ?_ | refine AW_cond ?_ | refine AW_skip ?_ | refine AW_exit ?_ | refine AW_ret ?_ | refine AW_regD (by kernel_rfl) ?_ | refine AW_regX (by kernel_rfl) ?_ | refine CallAtG.t (Eq.refl true) ?_ | refine CallAtG.f (Eq.refl false) ?_); try simp (disch := omega) only [go_sem, Nat.reduceLT, Nat.reduceAdd, Nat.reduceSub, Nat.reduceMul, Nat.reduceMod, Nat.reduceDiv, Nat.reduceBEq, Nat.reduceEqDiff, Nat.reduceLeDiff, reduceCtorEq, ↓reduceIte, beq_dec, Int.reduceToNat, Int.reduceLT, Int.reduceLE, Int.reduceAdd, Int.reduceSub, Int.reduceMul, Int.reduceEq, Int.reduceNeg, Int.reduceNe, Int.toNat_natCast, IntKind.signed, IntKind.bits, Int.reducePow, Nat.reducePow]) | refine And.intro (fun hc => (?_ : AW _ _ _ _)) (fun hc => (?_ : AW _ _ _ _)) | simp (disch := omega) only [go_sem, Nat.reduceLT, Nat.reduceAdd, Nat.reduceSub, Nat.reduceMul, Nat.reduceMod, Nat.reduceDiv, Nat.reduceBEq, Nat.reduceEqDiff, Nat.reduceLeDiff, reduceCtorEq, ↓reduceIte, beq_dec, Int.reduceToNat, Int.reduceLT, Int.reduceLE, Int.reduceAdd, Int.reduceSub, Int.reduceMul, Int.reduceEq, Int.reduceNeg, Int.reduceNe, Int.toNat_natCast, IntKind.signed, IntKind.bits, Int.reducePow, Nat.reducePow] | (refine And.intro ?_ ?_; focus (first | (intros; omega) | (intros; simp_all; done))) | refine And.intro (?_ : CallAt _ _ _ _ _ _ _ _) ?_ | refine And.intro (?_ : CallAt _ _ _ _ _ _ _ _ ∧ _) ?_ | fail))
          refine CallAt.frz [134] ?_
          simp (disch := omega) only [go_sem, Nat.reduceLT, Nat.reduceAdd, Nat.reduceSub, Nat.reduceMul, Nat.reduceMod, Nat.reduceDiv, Nat.reduceBEq, Nat.reduceEqDiff, Nat.reduceLeDiff, reduceCtorEq, ↓reduceIte, beq_dec, Int.reduceToNat, Int.reduceLT, Int.reduceLE, Int.reduceAdd, Int.reduceSub, Int.reduceMul, Int.reduceEq, Int.reduceNeg, Int.reduceNe, Int.toNat_natCast, IntKind.signed, IntKind.bits, Int.reducePow, Nat.reducePow]
          refine CallAt.mk _ gs (fun h => by cases h) ?_
          (repeat' (first | refine NextAt.mk (fun hc => ?_) (fun pre n v post hc hkey => ?_) | refine Sni.mk (fun hc => ?_) ?_ | refine AW_seq ?_ | refine AW_block ?_ | ((first | refine AW_reg ?_ | refine AW_cond ?_ | refine AW_skip ?_ | refine AW_exit ?_ | refine AW_ret ?_ | refine AW_regD (by kernel_rfl) ?_ | refine AW_regX (by kernel_rfl) ?_ | refine CallAtG.t (Eq.refl true) ?_ | refine CallAtG.f (Eq.refl false) ?_); try simp (disch := omega) only [go_sem, Nat.reduceLT, Nat.reduceAdd, Nat.reduceSub, Nat.reduceMul, Nat.reduceMod, Nat.reduceDiv, Nat.reduceBEq, Nat.reduceEqDiff, Nat.reduceLeDiff, reduceCtorEq, ↓reduceIte, beq_dec, Int.reduceToNat, Int.reduceLT, Int.reduceLE, Int.reduceAdd, Int.reduceSub, Int.reduceMul, Int.reduceEq, Int.reduceNeg, Int.reduceNe, Int.toNat_natCast, IntKind.signed, IntKind.bits, Int.reducePow, Nat.reducePow]) | refine And.intro (fun hc => (?_ : AW _ _ _ _)) (fun hc => (?_ : AW _ _ _ _)) | simp (disch := omega) only [go_sem, Nat.reduceLT, Nat.reduceAdd, Nat.reduceSub, Nat.reduceMul, Nat.reduceMod, Nat.reduceDiv, Nat.reduceBEq, Nat.reduceEqDiff, Nat.reduceLeDiff, reduceCtorEq, ↓reduceIte, beq_dec, Int.reduceToNat, Int.reduceLT, Int.reduceLE, Int.reduceAdd, Int.reduceSub, Int.reduceMul, Int.reduceEq, Int.reduceNeg, Int.reduceNe, Int.toNat_natCast, IntKind.signed, IntKind.bits, Int.reducePow, Nat.reducePow] | (refine And.intro ?_ ?_; focus (first | (intros; omega) | (intros; simp_all; done))) | refine And.intro (?_ : CallAt _ _ _ _ _ _ _ _) ?_ | refine And.intro (?_ : CallAt _ _ _ _ _ _ _ _ ∧ _) ?_ | fail))
          refine CallAt.frz [145] ?_
          simp (disch := omega) only [go_sem, Nat.reduceLT, Nat.reduceAdd, Nat.reduceSub, Nat.reduceMul, Nat.reduceMod, Nat.reduceDiv, Nat.reduceBEq, Nat.reduceEqDiff, Nat.reduceLeDiff, reduceCtorEq, ↓reduceIte, beq_dec, Int.reduceToNat, Int.reduceLT, Int.reduceLE, Int.reduceAdd, Int.reduceSub, Int.reduceMul, Int.reduceEq, Int.reduceNeg, Int.reduceNe, Int.toNat_natCast, IntKind.signed, IntKind.bits, Int.reducePow, Nat.reducePow]
          refine CallAt.mk _ gx (fun h => by cases h) ?_
          (repeat' (first | refine NextAt.mk (fun hc => ?_) (fun pre n v post hc hkey => ?_) | refine Sni.mk (fun hc => ?_) ?_ | refine AW_seq ?_ | refine AW_block ?_ | ((first | refine AW_reg ?_ | refine AW_cond ?_ | refine AW_skip ?_ | refine AW_exit ?_ | refine AW_ret ?_ | refine AW_regD (by kernel_rfl) ?_ | refine AW_regX (by kernel_rfl) ?_ | refine CallAtG.t (Eq.refl true) ?_ | refine CallAtG.f (Eq.refl false) ?_); try simp (disch := omega) only [go_sem, Nat.reduceLT, Nat.reduceAdd, Nat.reduceSub, Nat.reduceMul, Nat.reduceMod, Nat.reduceDiv, Nat.reduceBEq, Nat.reduceEqDiff, Nat.reduceLeDiff, reduceCtorEq, ↓reduceIte, beq_dec, Int.reduceToNat, Int.reduceLT, Int.reduceLE, Int.reduceAdd, Int.reduceSub, Int.reduceMul, Int.reduceEq, Int.reduceNeg, Int.reduceNe, Int.toNat_natCast, IntKind.signed, IntKind.bits, Int.reducePow, Nat.reducePow]) | refine And.intro (fun hc => (?_ : AW _ _ _ _)) (fun hc => (?_ : AW _ _ _ _)) | simp (disch := omega) only [go_sem, Nat.reduceLT, Nat.reduceAdd, Nat.reduceSub, Nat.reduceMul, Nat.reduceMod, Nat.reduceDiv, Nat.reduceBEq, Nat.reduceEqDiff, Nat.reduceLeDiff, reduceCtorEq, ↓reduceIte, beq_dec, Int.reduceToNat, Int.reduceLT, Int.reduceLE, Int.reduceAdd, Int.reduceSub, Int.reduceMul, Int.reduceEq, Int.reduceNeg, Int.reduceNe, Int.toNat_natCast, IntKind.signed, IntKind.bits, Int.reducePow, Nat.reducePow] | (refine And.intro ?_ ?_; focus (first | (intros; omega) | (intros; simp_all; done))) | refine And.intro (?_ : CallAt _ _ _ _ _ _ _ _) ?_ | refine And.intro (?_ : CallAt _ _ _ _ _ _ _ _ ∧ _) ?_ | fail))
    · (repeat' (first | refine NextAt.mk (fun hc => ?_) (fun pre n v post hc hkey => ?_) | refine Sni.mk (fun hc => ?_) ?_ | refine AW_seq ?_ | refine AW_block ?_ | ((first | refine AW_reg ?_ | refine AW_cond ?_ | refine AW_skip ?_ | refine AW_exit ?_ | refine AW_ret ?_ | refine AW_regD (by kernel_rfl) ?_ | refine AW_regX (by kernel_rfl) ?_ | refine CallAtG.t (Eq.refl true) ?_ | refine CallAtG.f (Eq.refl false) ?_ | refine CallAt.mk _ (f4w ..) (by first | (intro h; cases h; done) | (intro _; repeat' (first | exact List.forall_mem_nil _ | trivial | refine List.forall_mem_cons.2 ⟨?_, ?_⟩)) | (intro _; simp [RV.flatP, CD.flatP]; done)) ?_ | refine CallAtG.mk _ (fun _ => f4w ..) ?_ | refine CallDS.mk _ (by simp [RV.data]) (fun _ => f4w ..) (by first | (intro h; cases h; done) | (intro _; repeat' (first | exact List.forall_mem_nil _ | trivial | refine List.forall_mem_cons.2 ⟨?_, ?_⟩)) | (intro _; simp [RV.flatP, CD.flatP]; done)) ?_ | refine CallAt.mk _ (g1 ..) (by first | (intro h; cases h; done) | (intro _; repeat' (first | exact List.forall_mem_nil _ | trivial | refine List.forall_mem_cons.2 ⟨?_, ?_⟩)) | (intro _; simp [RV.flatP, CD.flatP]; done)) ?_ | refine CallAtG.mk _ (fun _ => g1 ..) ?_ | refine CallDS.mk _ (by simp [RV.data]) (fun _ => g1 ..) (by first | (intro h; cases h; done) | (intro _; repeat' (first | exact List.forall_mem_nil _ | trivial | refine List.forall_mem_cons.2 ⟨?_, ?_⟩)) | (intro _; simp [RV.flatP, CD.flatP]; done)) ?_ | refine CallAt.mk _ (g2 ..) (by first | (intro h; cases h; done) | (intro _; repeat' (first | exact List.forall_mem_nil _ | trivial | refine List.forall_mem_cons.2 ⟨?_, ?_⟩)) | (intro _; simp [RV.flatP, CD.flatP]; done)) ?_ | refine CallAtG.mk _ (fun _ => g2 ..) ?_ | refine CallDS.mk _ (by simp [RV.data]) (fun _ => g2 ..) (by first | (intro h; cases h; done) | (intro _; repeat' (first | exact List.forall_mem_nil _ | trivial | refine List.forall_mem_cons.2 ⟨?_, ?_⟩)) | (intro _; simp [RV.flatP, CD.flatP]; done)) ?_ | refine CallAt.mk _ (g3 ..) (by first | (intro h; cases h; done) | (intro _; repeat' (first | exact List.forall_mem_nil _ | trivial | refine List.forall_mem_cons.2 ⟨?_, ?_⟩)) | (intro _; simp [RV.flatP, CD.flatP]; done)) ?_ | refine CallAtG.mk _ (fun _ => g3 ..) ?_ | refine CallDS.mk _ (by simp [RV.data]) (fun _ => g3 ..) (by first | (intro h; cases h; done) | (intro _; repeat' (first | exact List.forall_mem_nil _ | trivial | refine List.forall_mem_cons.2 ⟨?_, ?_⟩)) | (intro _; simp [RV.flatP, CD.flatP]; done)) ?_); try simp (disch := omega) only [go_sem, Nat.reduceLT, Nat.reduceAdd, Nat.reduceSub, Nat.reduceMul, Nat.reduceMod, Nat.reduceDiv, Nat.reduceBEq, Nat.reduceEqDiff, Nat.reduceLeDiff, reduceCtorEq, ↓reduceIte, beq_dec, Int.reduceToNat, Int.reduceLT, Int.reduceLE, Int.reduceAdd, Int.reduceSub, Int.reduceMul, Int.reduceEq, Int.reduceNeg, Int.reduceNe, Int.toNat_natCast, IntKind.signed, IntKind.bits, Int.reducePow, Nat.reducePow]) | refine And.intro (fun hc => (?_ : AW _ _ _ _)) (fun hc => (?_ : AW _ _ _ _)) | simp (disch := omega) only [go_sem, Nat.reduceLT, Nat.reduceAdd, Nat.reduceSub, Nat.reduceMul, Nat.reduceMod, Nat.reduceDiv, Nat.reduceBEq, Nat.reduceEqDiff, Nat.reduceLeDiff, reduceCtorEq, ↓reduceIte, beq_dec, Int.reduceToNat, Int.reduceLT, Int.reduceLE, Int.reduceAdd, Int.reduceSub, Int.reduceMul, Int.reduceEq, Int.reduceNeg, Int.reduceNe, Int.toNat_natCast, IntKind.signed, IntKind.bits, Int.reducePow, Nat.reducePow] | (refine And.intro ?_ ?_; focus (first | (intros; omega) | (intros; simp_all; done))) | refine And.intro (?_ : CallAt _ _ _ _ _ _ _ _) ?_ | refine And.intro (?_ : CallAt _ _ _ _ _ _ _ _ ∧ _) ?_ | fail))
      all_goals (exfalso; omega)
  · by_cases h1 : merE x a b = 0
    · (repeat' (first | refine NextAt.mk (fun hc => ?_) (fun pre n v post hc hkey => ?_) | refine Sni.mk (fun hc => ?_) ?_ | refine AW_seq ?_ | refine AW_block ?_ | ((first | refine AW_reg ?_ | refine AW_cond ?_ | refine AW_skip ?_ | refine AW_exit ?_ | refine AW_ret ?_ | refine AW_regD (by kernel_rfl) ?_ | refine AW_regX (by kernel_rfl) ?_ | refine CallAtG.t (Eq.refl true) ?_ | refine CallAtG.f (Eq.refl false) ?_ | refine CallAt.mk _ (f4w ..) (by first | (intro h; cases h; done) | (intro _; repeat' (first | exact List.forall_mem_nil _ | trivial | refine List.forall_mem_cons.2 ⟨?_, ?_⟩)) | (intro _; simp [RV.flatP, CD.flatP, h1]; done)) ?_ | refine CallAtG.mk _ (fun _ => f4w ..) ?_ | refine CallDS.mk _ (by simp [RV.data]) (fun _ => f4w ..) (by first | (intro h; cases h; done) | (intro _; repeat' (first | exact List.forall_mem_nil _ | trivial | refine List.forall_mem_cons.2 ⟨?_, ?_⟩)) | (intro _; simp [RV.flatP, CD.flatP, h1]; done)) ?_ | refine CallAt.mk _ (g1 ..) (by first | (intro h; cases h; done) | (intro _; repeat' (first | exact List.forall_mem_nil _ | trivial | refine List.forall_mem_cons.2 ⟨?_, ?_⟩)) | (intro _; simp [RV.flatP, CD.flatP, h1]; done)) ?_ | refine CallAtG.mk _ (fun _ => g1 ..) ?_ | refine CallDS.mk _ (by simp [RV.data]) (fun _ => g1 ..) (by first | (intro h; cases h; done) | (intro _; repeat' (first | exact List.forall_mem_nil _ | trivial | refine List.forall_mem_cons.2 ⟨?_, ?_⟩)) | (intro _; simp [RV.flatP, CD.flatP, h1]; done)) ?_ | refine CallAt.mk _ (g2 ..) (by first | (intro h; cases h; done) | (intro _; repeat' (first | exact List.forall_mem_nil _ | trivial | refine List.forall_mem_cons.2 ⟨?_, ?_⟩)) | (intro _; simp [RV.flatP, CD.flatP, h1]; done)) ?_ | refine CallAtG.mk _ (fun _ => g2 ..) ?_ | refine CallDS.mk _ (by simp [RV.data]) (fun _ => g2 ..) (by first | (intro h; cases h; done) | (intro _; repeat' (first | exact List.forall_mem_nil _ | trivial | refine List.forall_mem_cons.2 ⟨?_, ?_⟩)) | (intro _; simp [RV.flatP, CD.flatP, h1]; done)) ?_ | refine CallAt.mk _ (g3 ..) (by first | (intro h; cases h; done) | (intro _; repeat' (first | exact List.forall_mem_nil _ | trivial | refine List.forall_mem_cons.2 ⟨?_, ?_⟩)) | (intro _; simp [RV.flatP, CD.flatP, h1]; done)) ?_ | refine CallAtG.mk _ (fun _ => g3 ..) ?_ | refine CallDS.mk _ (by simp [RV.data]) (fun _ => g3 ..) (by first | (intro h; cases h; done) | (intro _; repeat' (first | exact List.forall_mem_nil _ | trivial | refine List.forall_mem_cons.2 ⟨?_, ?_⟩)) | (intro _; simp [RV.flatP, CD.flatP, h1]; done)) ?_); try simp (disch := omega) only [go_sem, Nat.reduceLT, Nat.reduceAdd, Nat.reduceSub, Nat.reduceMul, Nat.reduceMod, Nat.reduceDiv, Nat.reduceBEq, Nat.reduceEqDiff, Nat.reduceLeDiff, reduceCtorEq, ↓reduceIte, beq_dec, Int.reduceToNat, Int.reduceLT, Int.reduceLE, Int.reduceAdd, Int.reduceSub, Int.reduceMul, Int.reduceEq, Int.reduceNeg, Int.reduceNe, Int.toNat_natCast, IntKind.signed, IntKind.bits, Int.reducePow, Nat.reducePow, h1]) | refine And.intro (fun hc => (?_ : AW _ _ _ _)) (fun hc => (?_ : AW _ _ _ _)) | simp (disch := omega) only [go_sem, Nat.reduceLT, Nat.reduceAdd, Nat.reduceSub, Nat.reduceMul, Nat.reduceMod, Nat.reduceDiv, Nat.reduceBEq, Nat.reduceEqDiff, Nat.reduceLeDiff, reduceCtorEq, ↓reduceIte, beq_dec, Int.reduceToNat, Int.reduceLT, Int.reduceLE, Int.reduceAdd, Int.reduceSub, Int.reduceMul, Int.reduceEq, Int.reduceNeg, Int.reduceNe, Int.toNat_natCast, IntKind.signed, IntKind.bits, Int.reducePow, Nat.reducePow, h1] | (refine And.intro ?_ ?_; focus (first | (intros; omega) | (intros; simp_all; done))) | refine And.intro (?_ : CallAt _ _ _ _ _ _ _ _) ?_ | refine And.intro (?_ : CallAt _ _ _ _ _ _ _ _ ∧ _) ?_ | fail))
      all_goals (
        exfalso
        have hcl : (confL x a b).length = 0 := by omega
        exact hgo ⟨h1, hc.1.1, hc.1.2, List.eq_nil_of_length_eq_zero hcl⟩)
    · have hL : merL x a b = [] := by unfold merL; rw [if_pos h1]
      have hC : confL x a b = [] := by unfold confL; rw [if_pos h1]
      rw [hL, hC] at g1
      (repeat' (first | refine NextAt.mk (fun hc => ?_) (fun pre n v post hc hkey => ?_) | refine Sni.mk (fun hc => ?_) ?_ | refine AW_seq ?_ | refine AW_block ?_ | ((first | refine AW_reg ?_ | refine AW_cond ?_ | refine AW_skip ?_ | refine AW_exit ?_ | refine AW_ret ?_ | refine AW_regD (by kernel_rfl) ?_ | refine AW_regX (by kernel_rfl) ?_ | refine CallAtG.t (Eq.refl true) ?_ | refine CallAtG.f (Eq.refl false) ?_ | refine CallAt.mk _ (f4w ..) (by first | (intro h; cases h; done) | (intro _; repeat' (first | exact List.forall_mem_nil _ | trivial | refine List.forall_mem_cons.2 ⟨?_, ?_⟩)) | (intro _; simp [RV.flatP, CD.flatP, h1]; done)) ?_ | refine CallAtG.mk _ (fun _ => f4w ..) ?_ | refine CallDS.mk _ (by simp [RV.data]) (fun _ => f4w ..) (by first | (intro h; cases h; done) | (intro _; repeat' (first | exact List.forall_mem_nil _ | trivial | refine List.forall_mem_cons.2 ⟨?_, ?_⟩)) | (intro _; simp [RV.flatP, CD.flatP, h1]; done)) ?_ | refine CallAt.mk _ (g1 ..) (by first | (intro h; cases h; done) | (intro _; repeat' (first | exact List.forall_mem_nil _ | trivial | refine List.forall_mem_cons.2 ⟨?_, ?_⟩)) | (intro _; simp [RV.flatP, CD.flatP, h1]; done)) ?_ | refine CallAtG.mk _ (fun _ => g1 ..) ?_ | refine CallDS.mk _ (by simp [RV.data]) (fun _ => g1 ..) (by first | (intro h; cases h; done) | (intro _; repeat' (first | exact List.forall_mem_nil _ | trivial | refine List.forall_mem_cons.2 ⟨?_, ?_⟩)) | (intro _; simp [RV.flatP, CD.flatP, h1]; done)) ?_ | refine CallAt.mk _ (g2 ..) (by first | (intro h; cases h; done) | (intro _; repeat' (first | exact List.forall_mem_nil _ | trivial | refine List.forall_mem_cons.2 ⟨?_, ?_⟩)) | (intro _; simp [RV.flatP, CD.flatP, h1]; done)) ?_ | refine CallAtG.mk _ (fun _ => g2 ..) ?_ | refine CallDS.mk _ (by simp [RV.data]) (fun _ => g2 ..) (by first | (intro h; cases h; done) | (intro _; repeat' (first | exact List.forall_mem_nil _ | trivial | refine List.forall_mem_cons.2 ⟨?_, ?_⟩)) | (intro _; simp [RV.flatP, CD.flatP, h1]; done)) ?_ | refine CallAt.mk _ (g3 ..) (by first | (intro h; cases h; done) | (intro _; repeat' (first | exact List.forall_mem_nil _ | trivial | refine List.forall_mem_cons.2 ⟨?_, ?_⟩)) | (intro _; simp [RV.flatP, CD.flatP, h1]; done)) ?_ | refine CallAtG.mk _ (fun _ => g3 ..) ?_ | refine CallDS.mk _ (by simp [RV.data]) (fun _ => g3 ..) (by first | (intro h; cases h; done) | (intro _; repeat' (first | exact List.forall_mem_nil _ | trivial | refine List.forall_mem_cons.2 ⟨?_, ?_⟩)) | (intro _; simp [RV.flatP, CD.flatP, h1]; done)) ?_); try simp (disch := omega) only [go_sem, Nat.reduceLT, Nat.reduceAdd, Nat.reduceSub, Nat.reduceMul, Nat.reduceMod, Nat.reduceDiv, Nat.reduceBEq, Nat.reduceEqDiff, Nat.reduceLeDiff, reduceCtorEq, ↓reduceIte, beq_dec, Int.reduceToNat, Int.reduceLT, Int.reduceLE, Int.reduceAdd, Int.reduceSub, Int.reduceMul, Int.reduceEq, Int.reduceNeg, Int.reduceNe, Int.toNat_natCast, IntKind.signed, IntKind.bits, Int.reducePow, Nat.reducePow, h1]) | refine And.intro (fun hc => (?_ : AW _ _ _ _)) (fun hc => (?_ : AW _ _ _ _)) | simp (disch := omega) only [go_sem, Nat.reduceLT, Nat.reduceAdd, Nat.reduceSub, Nat.reduceMul, Nat.reduceMod, Nat.reduceDiv, Nat.reduceBEq, Nat.reduceEqDiff, Nat.reduceLeDiff, reduceCtorEq, ↓reduceIte, beq_dec, Int.reduceToNat, Int.reduceLT, Int.reduceLE, Int.reduceAdd, Int.reduceSub, Int.reduceMul, Int.reduceEq, Int.reduceNeg, Int.reduceNe, Int.toNat_natCast, IntKind.signed, IntKind.bits, Int.reducePow, Nat.reducePow, h1] | (refine And.intro ?_ ?_; focus (first | (intros; omega) | (intros; simp_all; done))) | refine And.intro (?_ : CallAt _ _ _ _ _ _ _ _) ?_ | refine And.intro (?_ : CallAt _ _ _ _ _ _ _ _ ∧ _) ?_ | fail))
      all_goals rfl
end Go.Proofs.Ythpnplebcmijnaa

