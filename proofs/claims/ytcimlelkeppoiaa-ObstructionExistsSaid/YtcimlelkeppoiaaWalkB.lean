/-
  Lemmas for the proof: no statement of its own.
-/
import Derived.Test.YtcimlelkeppoiaaWalkA
set_option linter.unusedVariables false
set_option linter.unusedSimpArgs false
open Go Go.AL Go.RowKit
namespace Go.Proofs.Ytcimlelkeppoiaa
set_option maxRecDepth 20000
noncomputable section
/- (coinage/pqtree.row).within$1 -/
abbrev c45_1 : AC := .reg [⟨(some 3), .mv (.k (.B false)), none⟩] false
abbrev c45_2 : AC := .reg [⟨(some 4), .ld none (.t 1), none⟩,
  ⟨(some 5), .mv (.t 0), none⟩,
  ⟨(some 6), .call 32 [(.t 4), (.t 5)], none⟩,
  ⟨(some 7), .bin .neq (.t 6) (.k (.I 0)), none⟩,
  ⟨(some 3), .mv (.t 7), none⟩] false
abbrev c45_3 : AC := .seq c45_2 .ret
abbrev c45_4 : AC := .seq c45_1 c45_3
abbrev c45 : AC := c45_4
theorem code45 : fnCode Try.prog 45 = some (c45, [3], 8) := by kernel_rfl
/- (coinage/pqtree.row).within -/
abbrev c34_1 : AC := .reg [⟨(some 3), .box 50 none (.t 0), none⟩,
  ⟨(some 6), .mv (.k (.c .np)), none⟩,
  ⟨(some 7), .mv (.k (.B false)), none⟩] false
abbrev c34_2 : AC := .reg [⟨(some 8), .mv (.k (.c .nil)), none⟩] false
abbrev c34_3 : AC := .reg [⟨(some 14), .mv (.t 1), none⟩,
  ⟨(some 15), .nilck (.t 14), none⟩,
  ⟨(some 16), .fad 2 (.t 15), none⟩,
  ⟨(some 17), .ld none (.t 16), none⟩,
  ⟨(some 18), .mkfn 45 [(.t 3)], none⟩,
  ⟨(some 19), .call 44 [(.t 17), (.t 18)], none⟩,
  ⟨(some 9), .mv (.t 19), none⟩] false
abbrev c34_4 : AC := .reg [⟨(some 20), .mv (.t 1), none⟩,
  ⟨(some 21), .nilck (.t 20), none⟩,
  ⟨(some 22), .fad 2 (.t 21), none⟩,
  ⟨(some 23), .ld none (.t 22), none⟩,
  ⟨(some 24), .len (.t 23), none⟩,
  ⟨(some 25), .mv (.k (.I 0)), none⟩] false
abbrev c34_5 : AC := .reg [⟨(some 26), .bin .lss (.t 25) (.t 24), none⟩] false
abbrev c34_6 : AC := .cond (.t 26) .skip (.exit 0)
abbrev c34_7 : AC := .reg [⟨(some 27), .mv (.t 25), none⟩,
  ⟨(some 28), .iad 1 (.t 23) (.t 25), none⟩,
  ⟨(some 29), .ld none (.t 28), none⟩,
  ⟨(some 10), .mv (.t 27), none⟩,
  ⟨(some 11), .mv (.t 29), none⟩] false
abbrev c34_8 : AC := .reg [⟨(some 30), .mv (.t 10), none⟩,
  ⟨(some 31), .mv (.t 9), none⟩,
  ⟨(some 32), .bin .gtr (.t 30) (.t 31), none⟩,
  ⟨(some 33), .mv (.t 32), none⟩,
  ⟨(some 34), .mv (.t 10), (some (33, true))⟩,
  ⟨(some 35), .mv (.t 2), (some (33, true))⟩,
  ⟨(some 36), .bin .lss (.t 34) (.t 35), (some (33, true))⟩,
  ⟨(some 37), .pick (.t 33) (.t 36) (.k (.B false)), none⟩,
  ⟨(some 38), .mv (.t 37), none⟩,
  ⟨(some 39), .ld none (.t 3), (some (38, true))⟩,
  ⟨(some 40), .mv (.t 11), (some (38, true))⟩,
  ⟨(some 41), .call 32 [(.t 39), (.t 40)], (some (38, true))⟩,
  ⟨(some 42), .bin .neq (.t 41) (.k (.I 2)), (some (38, true))⟩,
  ⟨(some 43), .pick (.t 38) (.t 42) (.k (.B false)), none⟩] false
abbrev c34_9 : AC := .reg [⟨(some 6), .mv (.k (.c .np)), none⟩,
  ⟨(some 7), .mv (.k (.B false)), none⟩] false
abbrev c34_10 : AC := .seq c34_9 .ret
abbrev c34_11 : AC := .cond (.t 43) c34_10 .skip
abbrev c34_12 : AC := .seq c34_8 c34_11
abbrev c34_13 : AC := .reg [⟨(some 44), .mv (.t 11), none⟩,
  ⟨(some 45), .bslice 42 1 [(.t 44)], none⟩,
  ⟨(some 12), .mv (.t 45), none⟩,
  ⟨(some 13), .mv (.k (.B true)), none⟩] false
abbrev c34_14 : AC := .reg [⟨(some 46), .mv (.t 10), none⟩,
  ⟨(some 47), .mv (.t 9), none⟩,
  ⟨(some 48), .bin .eql (.t 46) (.t 47), none⟩,
  ⟨(some 49), .mv (.t 48), none⟩,
  ⟨(some 50), .mv (.t 10), (some (49, false))⟩,
  ⟨(some 51), .mv (.t 2), (some (49, false))⟩,
  ⟨(some 52), .bin .eql (.t 50) (.t 51), (some (49, false))⟩,
  ⟨(some 53), .pick (.t 49) (.k (.B true)) (.t 52), none⟩] false
abbrev c34_15 : AC := .reg [⟨(some 55), .ld none (.t 3), none⟩,
  ⟨(some 56), .mv (.t 11), none⟩,
  ⟨(some 57), .call 36 [(.t 55), (.t 56)], none⟩,
  ⟨(some 54), .mv (.t 57), none⟩,
  ⟨(some 58), .ext (.t 54) 0, none⟩,
  ⟨(some 59), .ext (.t 54) 1, none⟩,
  ⟨(some 12), .mv (.t 58), none⟩,
  ⟨(some 13), .mv (.t 59), none⟩] false
abbrev c34_16 : AC := .cond (.t 53) c34_15 .skip
abbrev c34_17 : AC := .seq c34_14 c34_16
abbrev c34_18 : AC := .reg [⟨(some 60), .mv (.t 13), none⟩,
  ⟨(some 61), .not (.t 60), none⟩] false
abbrev c34_19 : AC := .reg [⟨(some 6), .mv (.k (.c .np)), none⟩,
  ⟨(some 7), .mv (.k (.B false)), none⟩] false
abbrev c34_20 : AC := .seq c34_19 .ret
abbrev c34_21 : AC := .cond (.t 61) c34_20 .skip
abbrev c34_22 : AC := .seq c34_18 c34_21
abbrev c34_23 : AC := .reg [⟨(some 62), .mv (.t 10), none⟩,
  ⟨(some 63), .mv (.t 2), none⟩,
  ⟨(some 64), .bin .eql (.t 62) (.t 63), none⟩] false
abbrev c34_24 : AC := .reg [⟨(some 65), .mv (.t 12), none⟩,
  ⟨(some 66), .call 38 [(.t 65)], none⟩,
  ⟨(some 12), .mv (.t 66), none⟩] false
abbrev c34_25 : AC := .cond (.t 64) c34_24 .skip
abbrev c34_26 : AC := .seq c34_23 c34_25
abbrev c34_27 : AC := .reg [⟨(some 67), .mv (.t 8), none⟩,
  ⟨(some 68), .mv (.t 12), none⟩,
  ⟨(some 69), .app 42 1 8 (.t 67) (.t 68), none⟩,
  ⟨(some 8), .mv (.t 69), none⟩] false
abbrev c34_28 : AC := .seq c34_26 c34_27
abbrev c34_29 : AC := .seq c34_22 c34_28
abbrev c34_30 : AC := .seq c34_17 c34_29
abbrev c34_31 : AC := .seq c34_13 c34_30
abbrev c34_32 : AC := .seq c34_12 c34_31
abbrev c34_33 : AC := .seq c34_7 c34_32
abbrev c34_34 : AC := .block 1 c34_33
abbrev c34_35 : AC := .reg [⟨(some 70), .bin .add (.t 25) (.k (.I 1)), none⟩,
  ⟨(some 25), .mv (.t 70), none⟩] false
abbrev c34_36 : AC := .seq c34_34 c34_35
abbrev c34_37 : AC := .seq c34_6 c34_36
abbrev c34_38 : AC := .seq c34_5 c34_37
abbrev c34_39 : AC := .loop c34_38
abbrev c34_40 : AC := .block 0 c34_39
abbrev c34_41 : AC := .seq c34_4 c34_40
abbrev c34_42 : AC := .reg [⟨(some 71), .mv (.t 8), none⟩,
  ⟨(some 72), .call 39 [(.t 71)], none⟩,
  ⟨(some 6), .mv (.t 72), none⟩,
  ⟨(some 7), .mv (.k (.B true)), none⟩] false
abbrev c34_43 : AC := .seq c34_42 .ret
abbrev c34_44 : AC := .seq c34_41 c34_43
abbrev c34_45 : AC := .seq c34_3 c34_44
abbrev c34_46 : AC := .seq c34_2 c34_45
abbrev c34_47 : AC := .seq c34_1 c34_46
abbrev c34 : AC := c34_47
theorem code34 : fnCode Try.prog 34 = some (c34, [6, 7], 73) := by kernel_rfl
end
theorem x45 (l : List Nat) (k : N) (hs : Sm k) : FnR Try.prog 45 [.c (ncd k), .dptr [RM l]] [.c (.B (decide (st (inR l) k ≠ 0)))] := by
  have g := x32 l k hs
  by_cases h : st (inR l) k = 0
  · rw [h] at g
    rw [decide_eq_false (by omega)]
    refine fn_walk code45 (by simp) ?_
    (repeat' (first | refine Sni.mk (fun hc => ?_) ?_ | refine Both.mk ?_ ?_ | ((first | refine aw ?_ | refine aD ?_ | refine aX ?_ | refine cT ?_ | refine cF ?_ | refine cR (g ..) ?_ | refine cG (g ..) ?_); try simp (disch := omega) only [go_sem, seval, reduceCtorEq, Int.natCast_zero]) | refine aI (fun hc => ?_) fun hc => ?_ | simp (disch := omega) only [go_sem, seval, reduceCtorEq, Int.natCast_zero] | (refine And.intro ?_ ?_; focus (first | (intros; omega) | (intros; simp_all; done))) | refine aC ?_ ?_ | refine aC' ?_ ?_ | refine aA ?_ ?_ | fail))
  · have f : (((st (inR l) k : Nat) : Int) = 0) = False := eq_false (by omega)
    rw [decide_eq_true h]
    generalize st (inR l) k = s at *
    refine fn_walk code45 (by simp) ?_
    (repeat' (first | refine Sni.mk (fun hc => ?_) ?_ | refine Both.mk ?_ ?_ | ((first | refine aw ?_ | refine aD ?_ | refine aX ?_ | refine cT ?_ | refine cF ?_ | refine cR (g ..) ?_ | refine cG (g ..) ?_); try simp (disch := omega) only [go_sem, seval, reduceCtorEq, f]) | refine aI (fun hc => ?_) fun hc => ?_ | simp (disch := omega) only [go_sem, seval, reduceCtorEq, f] | (refine And.intro ?_ ?_; focus (first | (intros; omega) | (intros; simp_all; done))) | refine aC ?_ ?_ | refine aC' ?_ ?_ | refine aA ?_ ?_ | fail))
theorem x44w (l : List Nat) (ks : List N) (hl : ks.length ≤ 100) (hs : ∀ k ∈ ks, Sm k) (t : Nat) (ht : t < ks.length) (h0 : ∀ j, j < t → st (inR l) (nth ks j) = 0) (h1 : st (inR l) (nth ks t) ≠ 0) : FnR Try.prog 44 [.c (K ks), .fn 45 [.dptr [RM l]]] [.c (.I (t : Int))] := by
  have hcl := cells_len ks
  refine fn_walk code44 (by simp) ?_
  (repeat' (first | refine Sni.mk (fun hc => ?_) ?_ | refine Both.mk ?_ ?_ | ((first | refine aw ?_ | refine aD ?_ | refine aX ?_ | refine cT ?_ | refine cF ?_); try simp (disch := omega) only [go_sem, seval, reduceCtorEq, hcl]) | refine aI (fun hc => ?_) fun hc => ?_ | simp (disch := omega) only [go_sem, seval, reduceCtorEq, hcl] | (refine And.intro ?_ ?_; focus (first | (intros; omega) | (intros; simp_all; done))) | refine aA ?_ ?_ | fail))
  refine AW_loopK [0, 1, 7] [4, 5, 8, 9, 10, 11, 12, 13, 14, 15, 16, 17, 18] (fun i : Nat => i ≤ t) (fun i => [(8, .I (i : Int))]) (fun _ => []) (fun i => t - i) 0 (by omega) ?_ ?_
  · simp (disch := omega) only [go_sem, seval, reduceCtorEq, Int.natCast_zero]
  · intro i hi
    have hil : i < ks.length := by omega
    have hkk : ((i : Int) < (ks.length : Int)) = True := eq_true (by omega)
    have hm : nth ks i ∈ ks := by rw [nth_eq ks i hil]; exact List.getElem_mem hil
    have g := x45 l (nth ks i) (hs _ hm)
    have hge := cells_get hil
    rcases Nat.lt_or_ge i t with hit | hit
    · rw [decide_eq_false (by have := h0 i hit; omega)] at g
      (repeat' (first | refine Sni.mk (fun hc => ?_) ?_ | refine Both.mk ?_ ?_ | ((first | refine aw ?_ | refine aD ?_ | refine aX ?_ | refine cT ?_ | refine cF ?_ | refine cR (g ..) ?_ | refine cG (g ..) ?_); try simp (disch := omega) only [go_sem, seval, reduceCtorEq, hkk, hge, hcl, Int.toNat_natCast]) | refine aI (fun hc => ?_) fun hc => ?_ | simp (disch := omega) only [go_sem, seval, reduceCtorEq, hkk, hge, hcl, Int.toNat_natCast] | (refine And.intro ?_ ?_; focus (first | (intros; omega) | (intros; simp_all; done))) | refine aC ?_ ?_ | refine aC' ?_ ?_ | refine aA ?_ ?_ | fail))
      all_goals first | omega | skip
      all_goals (
        refine .mk (i + 1) (by omega) (by omega) ?_
        simp (disch := omega) only [go_sem, seval, reduceCtorEq, Int.natCast_add, Int.natCast_one])
    · obtain rfl : i = t := by omega
      rw [decide_eq_true h1] at g
      (repeat' (first | refine Sni.mk (fun hc => ?_) ?_ | refine Both.mk ?_ ?_ | ((first | refine aw ?_ | refine aD ?_ | refine aX ?_ | refine cT ?_ | refine cF ?_ | refine cR (g ..) ?_ | refine cG (g ..) ?_); try simp (disch := omega) only [go_sem, seval, reduceCtorEq, hkk, hge, hcl, Int.toNat_natCast]) | refine aI (fun hc => ?_) fun hc => ?_ | simp (disch := omega) only [go_sem, seval, reduceCtorEq, hkk, hge, hcl, Int.toNat_natCast] | (refine And.intro ?_ ?_; focus (first | (intros; omega) | (intros; simp_all; done))) | refine aC ?_ ?_ | refine aC' ?_ ?_ | refine aA ?_ ?_ | fail))
      all_goals first | omega | skip
def wiA (r : Nat → Bool) (first last : Nat) : Nat → List N → List Z → Option (List N)
  | _, acc, [] => some acc
  | i, acc, (k, o) :: zs => if first < i ∧ i < last ∧ st r k ≠ 2 then none else match (if i = first ∨ i = last then o else some [k]) with
    | none => none
    | some m => wiA r first last (i + 1) (acc ++ (if i = last then m.reverse else m)) zs
theorem fil_nil {r : Nat → Bool} {s : Nat} {ks : List N} (h : fil r s ks = []) : ∀ k ∈ ks, st r k ≠ s := fun k hk e => by
  have := List.filter_eq_nil_iff.1 h k hk
  simp [e] at this
theorem grp_some {ks : List N} (h : ks ≠ []) : ∃ k, grp ks = some k := by
  match ks, h with
  | [k], _ => exact ⟨k, rfl⟩
  | a :: b :: r, _ => exact ⟨_, rfl⟩
theorem jn_ne {a : List N} (o : Option N) (h : a ≠ []) : jn a o ≠ [] := by cases o <;> simp [jn, h]
theorem linA_ne {r : Nat → Bool} : ∀ (zs : List Z) (acc : List N) (last : Nat) (out : List N), linA r acc last zs = some out → (acc ≠ [] ∨ (zs ≠ [] ∧ ∀ z ∈ zs, ∀ m, z.2 = some m → m ≠ [])) → out ≠ []
  | [], acc, last, out, h, h1 => by
    simp only [linA, Option.some.injEq] at h; subst h
    rcases h1 with h1 | h1
    · exact h1
    · exact absurd rfl h1.1
  | (k, o) :: zs, acc, last, out, h, h1 => by
    simp only [linA] at h
    split at h
    · cases h
    · split at h
      · cases h
      · rename_i m
        refine linA_ne zs _ _ out h (.inl ?_)
        rcases h1 with h1 | h1
        · simp [h1]
        · have := h1.2 (k, some m) (by simp) m rfl
          simp [this]
theorem lin_ne (r : Nat → Bool) : ∀ v out, lin r v = some out → out ≠ [] := by
  refine N.ind fun l q ks ih => ?_
  intro out h
  rw [lin_nd] at h
  unfold linK at h
  split at h
  · simp only [Option.some.injEq] at h; subst h; simp
  · rename_i hst
    have h0 : ks ≠ [] := fun e => by
      subst e; apply hst; intro h'; rw [st_nd] at h'; simp only [List.map_nil, stK] at h'; split at h' <;> cases h'
    have hz : ∀ z ∈ ks.map (fun k => (k, lin r k)), ∀ m, z.2 = some m → m ≠ [] := fun z hm m hz => by
      obtain ⟨k, hk, rfl⟩ := List.mem_map.1 hm
      exact ih k hk m hz
    cases q with
    | true =>
      simp only [cond_true] at h
      split at h
      · exact linA_ne _ _ _ out h (.inr ⟨by simpa using h0, fun z hm => hz z (List.mem_reverse.1 hm)⟩)
      · exact linA_ne _ _ _ out h (.inr ⟨by simpa using h0, hz⟩)
    | false =>
      simp only [cond_false] at h
      rw [zf] at h
      cases hp : fil r 1 ks with
      | nil =>
        rw [hp] at h
        simp only [List.map_nil, linP, Option.some.injEq] at h
        subst h
        cases he : fil r 0 ks with
        | cons a b =>
          obtain ⟨k, hk⟩ := grp_some (ks := a :: b) (by simp)
          rw [hk]; exact jn_ne _ (by simp [jn])
        | nil =>
          cases hf : fil r 2 ks with
          | cons a b =>
            obtain ⟨k, hk⟩ := grp_some (ks := a :: b) (by simp)
            rw [hk]; simp [jn]
          | nil =>
            exfalso
            obtain ⟨k, hk⟩ := List.exists_mem_of_ne_nil ks h0
            have h1 := fil_nil he k hk
            have h2 := fil_nil hf k hk
            have h3 := fil_nil hp k hk
            have := st_le r k
            omega
      | cons a b =>
        rw [hp] at h
        have ha : a ∈ ks := (List.mem_filter.1 (by rw [show ks.filter _ = fil r 1 ks from rfl, hp]; simp : a ∈ ks.filter fun k => st r k == 1)).1
        have iha := ih a ha
        cases b with
        | cons c d =>
          simp only [List.map_cons] at h
          cases hla : lin r a <;> rw [hla] at h <;> simp [linP] at h
        | nil =>
          simp only [List.map_cons, List.map_nil] at h
          cases hla : lin r a with
          | none => rw [hla] at h; simp [linP] at h
          | some m =>
            rw [hla] at h
            simp only [linP, Option.some.injEq] at h
            subst h
            exact jn_ne _ (by simp [iha m hla])
end Go.Proofs.Ytcimlelkeppoiaa

open Go Go.AL Go.RowKit
namespace Go.Proofs.Ytcimlelkeppoiaa
set_option maxRecDepth 20000
theorem h34_26 {Q : Exit → St → Prop} {σ : St} (h : Hold (AW Try.prog c34_26 Q σ)) : AW Try.prog c34_26 Q σ := h.out
theorem h34_43 {Q : Exit → St → Prop} {σ : St} (h : Hold (AW Try.prog c34_43 Q σ)) : AW Try.prog c34_43 Q σ := h.out
theorem h34_45 {Q : Exit → St → Prop} {σ : St} (h : Hold (AW Try.prog c34_45 Q σ)) : AW Try.prog c34_45 Q σ := h.out
def RW (o : Option (List N)) : List RV := match o with
  | none => [.c .np, .c (.B false)]
  | some out => [.c (ocd (lin1 out)), .c (.B true)]
theorem RW_none : RW none = [.c .np, .c (.B false)] := rfl
theorem RW_some (out : List N) : RW (some out) = [.c (ocd (lin1 out)), .c (.B true)] := rfl
structure Wi where
  (i : Nat) (acc : List N)
set_option maxHeartbeats 16000000 in
theorem x34 (l : List Nat) (n : Nat) (ks : List N) (hs : Sm (.nd n true ks)) (hz : szs ks ≤ 99) (f last : Nat) (hf : f < ks.length) (h0 : ∀ j, j < f → st (inR l) (nth ks j) = 0) (h1 : st (inR l) (nth ks f) ≠ 0) (hfl : f ≤ last) (hla : last < ks.length) :
    FnR Try.prog 34 [.c (RM l), .c (ncd (.nd n true ks)), .I (last : Int)] (RW (wiA (inR l) f last 0 [] (ks.map fun k => (k, lin (inR l) k)))) := by
  have hsm : ∀ k ∈ ks, Sm k := by cases hs with | nd _ _ h => exact h
  have hks : ks.length ≤ 100 := by cases hs with | nd _ h _ => exact h
  have hkc : kcd (cells ks) = .sl 1 (cells ks) := by cases ks with | nil => simp at hf | cons a r => rfl
  have hnc : ncd (.nd n true ks) = .dp [.I (n : Int), .B true, .sl 1 (cells ks)] := by unfold ncd; rw [hkc]
  rw [hnc]
  have hcl := cells_len ks
  have g44 := x44w l ks hks hsm f hf h0 h1
  have hwl := szs_len ks
  generalize hRES : wiA (inR l) f last 0 [] (ks.map fun k => (k, lin (inR l) k)) = RES
  refine fn_walk code34 (by simp) ?_
  (repeat' (first | (with_reducible refine h34_45 ?_) | refine Sni.mk (fun hc => ?_) ?_ | refine Both.mk ?_ ?_ | ((first | refine aw ?_ | refine aD ?_ | refine aX ?_ | refine cT ?_ | refine cF ?_); try simp (disch := omega) only [go_sem, seval, reduceCtorEq]) | refine aI (fun hc => ?_) fun hc => ?_ | simp (disch := omega) only [go_sem, seval, reduceCtorEq] | (refine And.intro ?_ ?_; focus (first | (intros; omega) | (intros; simp_all; done))) | refine aA ?_ ?_ | fail))
  refine ⟨AW_nil 8 901 42 1 (by rfl) ?_⟩
  simp (disch := omega) only [go_sem, seval, reduceCtorEq]
  (repeat' (first | refine Sni.mk (fun hc => ?_) ?_ | refine Both.mk ?_ ?_ | ((first | refine aw ?_ | refine aD ?_ | refine aX ?_ | refine cT ?_ | refine cF ?_ | refine cR (g44 ..) ?_ | refine cG (g44 ..) ?_); try simp (disch := omega) only [go_sem, seval, reduceCtorEq, hcl]) | refine aI (fun hc => ?_) fun hc => ?_ | simp (disch := omega) only [go_sem, seval, reduceCtorEq, hcl] | (refine And.intro ?_ ?_; focus (first | (intros; omega) | (intros; simp_all; done))) | refine aC ?_ ?_ | refine aC' ?_ ?_ | refine aA ?_ ?_ | fail))
  refine AW_loopK [2, 3, 9, 23, 24] [6, 7, 8, 10, 11, 12, 13, 25, 26, 27, 28, 29, 30, 31, 32, 33, 34, 35, 36, 37, 38, 39, 40, 41, 42, 43, 44, 45, 46, 47, 48, 49, 50, 51, 52, 53, 54, 55, 56, 57, 58, 59, 60, 61, 62, 63, 64, 65, 66, 67, 68, 69, 70] (fun w : Wi => w.i ≤ ks.length ∧ wiA (inR l) f last w.i w.acc ((ks.map fun k => (k, lin (inR l) k)).drop w.i) = RES ∧ w.acc.length ≤ 2 * szs (ks.take w.i)) (fun w => [(8, .own 901), (25, .I (w.i : Int)), (3, .ptr 3 0), (0, .c (RM l))]) (fun w => [(901, .arr 42 1 (cells w.acc)), (3, .box 50 [.c (RM l)])]) (fun w => ks.length - w.i) ⟨0, []⟩ ⟨by simp, by simpa using hRES, by simp⟩ ?_ ?_
  · simp (disch := omega) only [go_sem, seval, reduceCtorEq, cells, Int.natCast_zero]
  · rintro ⟨i, acc⟩ ⟨w1, w2, w3⟩
    simp only at w1 w2 w3
    have hal := cells_len acc
    have htz : szs (ks.take i) ≤ 99 := by
      have := szs_app (ks.take i) (ks.drop i)
      rw [List.take_append_drop] at this; omega
    rcases Nat.lt_or_ge i ks.length with hil | hil
    · have hkk : ((i : Int) < (ks.length : Int)) = True := eq_true (by omega)
      have hm : nth ks i ∈ ks := by rw [nth_eq ks i hil]; exact List.getElem_mem hil
      have hsi := hsm _ hm
      have g32 := x32 l (nth ks i) hsi
      have hkz : sz (nth ks i) ≤ 100 := by have := szs_mem hm; omega
      have g36 := x36 l (nth ks i) hsi hkz
      have hge := cells_get hil
      have hll := lin_len (inR l) (nth ks i)
      have hln := lin_ne (inR l) (nth ks i)
      have htk : ks.take (i + 1) = ks.take i ++ [nth ks i] := by rw [nth_eq ks i hil, List.take_succ_eq_append_getElem hil]
      have hdr : (ks.map fun k => (k, lin (inR l) k)).drop i = (nth ks i, lin (inR l) (nth ks i)) :: (ks.map fun k => (k, lin (inR l) k)).drop (i + 1) := by
        rw [List.drop_eq_getElem_cons (by simpa using hil), List.getElem_map, nth_eq ks i hil]
      rw [hdr] at w2
      have htz2 : szs (ks.take (i + 1)) = szs (ks.take i) + sz (nth ks i) := by rw [htk, szs_app]; simp [szs]
      have hkp := sz_pos (nth ks i)
      have htz3 : szs (ks.take (i + 1)) ≤ 99 := by
        have := szs_app (ks.take (i + 1)) (ks.drop (i + 1))
        rw [List.take_append_drop] at this; omega
      simp only [wiA] at w2
      generalize nth ks i = k at *
      generalize hst : st (inR l) k = s at *
      have hone : cells acc ++ [[ncd k]] = cells (acc ++ [k]) := by rw [cells_app]; rfl
      have hfin : ∀ m : List N, m.length ≤ 2 * sz k → (acc ++ m).length ≤ 2 * szs (ks.take (i + 1)) := fun m hm => by rw [List.length_append]; omega
      have hcase : i < f ∨ (i = f ∧ i < last) ∨ (i = f ∧ i = last) ∨ (f < i ∧ i < last) ∨ (f < i ∧ i = last) ∨ last < i := by omega
      rcases hcase with hc | hc | hc | hc | hc | hc
      · have f1 : ((i : Int) > (f : Int)) = False := eq_false (by omega)
        have f2 : ((i : Int) < (last : Int)) = True := eq_true (by omega)
        have f4 : ((i : Int) = (f : Int)) = False := eq_false (by omega)
        have f5 : ((i : Int) = (last : Int)) = False := eq_false (by omega)
        rw [if_neg (by omega), if_neg (by omega)] at w2
        simp only at w2
        rw [if_neg (by omega)] at w2
        (repeat' (first | refine Sni.mk (fun hc => ?_) ?_ | refine Both.mk ?_ ?_ | ((first | refine aw ?_ | refine aD ?_ | refine aX ?_ | refine cT ?_ | refine cF ?_); try simp (disch := omega) only [go_sem, seval, reduceCtorEq, hkk, hge, hcl, f1, f2, f4, f5, Int.toNat_natCast, hal, hone, maxLen, List.length_cons, List.length_nil]) | refine aI (fun hc => ?_) fun hc => ?_ | simp (disch := omega) only [go_sem, seval, reduceCtorEq, hkk, hge, hcl, f1, f2, f4, f5, Int.toNat_natCast, hal, hone, maxLen, List.length_cons, List.length_nil] | (refine And.intro ?_ ?_; focus (first | (intros; omega) | (intros; simp_all; done))) | refine aA ?_ ?_ | fail))
        all_goals first | omega | skip
        all_goals (
          refine .mk ⟨i + 1, acc ++ [k]⟩ ⟨by simp only []; omega, w2, hfin [k] (by simp only [List.length_cons, List.length_nil]; omega)⟩ (by simp only []; omega) ?_
          simp (disch := omega) only [go_sem, seval, reduceCtorEq, Int.natCast_add, Int.natCast_one])
      · have f1 : ((i : Int) > (f : Int)) = False := eq_false (by omega)
        have f2 : ((i : Int) < (last : Int)) = True := eq_true (by omega)
        have f4 : ((i : Int) = (f : Int)) = True := eq_true (by omega)
        have f5 : ((i : Int) = (last : Int)) = False := eq_false (by omega)
        rw [if_neg (by omega), if_pos (by omega)] at w2
        cases hlk : lin (inR l) k with
        | none =>
          rw [hlk, RL_none] at g36
          rw [hlk] at w2
          simp only at w2
          subst w2
          rw [RW_none]
          (repeat' (first | refine Sni.mk (fun hc => ?_) ?_ | refine Both.mk ?_ ?_ | ((first | refine aw ?_ | refine aD ?_ | refine aX ?_ | refine cT ?_ | refine cF ?_ | refine cR (g36 ..) ?_ | refine cG (g36 ..) ?_); try simp (disch := omega) only [go_sem, seval, reduceCtorEq, hkk, hge, hcl, f1, f2, f4, f5, Int.toNat_natCast]) | refine aI (fun hc => ?_) fun hc => ?_ | simp (disch := omega) only [go_sem, seval, reduceCtorEq, hkk, hge, hcl, f1, f2, f4, f5, Int.toNat_natCast] | (refine And.intro ?_ ?_; focus (first | (intros; omega) | (intros; simp_all; done))) | refine aC ?_ ?_ | refine aC' ?_ ?_ | refine aA ?_ ?_ | fail))
          all_goals first | omega | skip
        | some m =>
          have hml := hll m hlk
          have hmn := hln m hlk
          rw [hlk, RL_some] at g36
          rw [hlk] at w2
          simp only at w2
          have hl2 := cells_len m
          rw [if_neg (by omega)] at w2
          have hca : cells acc ++ cells m = cells (acc ++ m) := (cells_app _ _).symm
          (repeat' (first | refine Sni.mk (fun hc => ?_) ?_ | refine Both.mk ?_ ?_ | ((first | refine aw ?_ | refine aD ?_ | refine aX ?_ | refine cT ?_ | refine cF ?_ | refine cR (g36 ..) ?_ | refine cG (g36 ..) ?_); try simp (disch := omega) only [go_sem, seval, reduceCtorEq, hkk, hge, hcl, f1, f2, f4, f5, Int.toNat_natCast, hal, hl2, hca, maxLen]) | refine aI (fun hc => ?_) fun hc => ?_ | simp (disch := omega) only [go_sem, seval, reduceCtorEq, hkk, hge, hcl, f1, f2, f4, f5, Int.toNat_natCast, hal, hl2, hca, maxLen] | (refine And.intro ?_ ?_; focus (first | (intros; omega) | (intros; simp_all; done))) | refine aC ?_ ?_ | refine aC' ?_ ?_ | refine aA ?_ ?_ | fail))
          all_goals first | omega | skip
          all_goals (
            refine .mk ⟨i + 1, acc ++ m⟩ ⟨by simp only []; omega, w2, hfin m hml⟩ (by simp only []; omega) ?_
            simp (disch := omega) only [go_sem, seval, reduceCtorEq, Int.natCast_add, Int.natCast_one])
      · have f1 : ((i : Int) > (f : Int)) = False := eq_false (by omega)
        have f2 : ((i : Int) < (last : Int)) = False := eq_false (by omega)
        have f4 : ((i : Int) = (f : Int)) = True := eq_true (by omega)
        have f5 : ((i : Int) = (last : Int)) = True := eq_true (by omega)
        rw [if_neg (by omega), if_pos (by omega)] at w2
        cases hlk : lin (inR l) k with
        | none =>
          rw [hlk, RL_none] at g36
          rw [hlk] at w2
          simp only at w2
          subst w2
          rw [RW_none]
          (repeat' (first | refine Sni.mk (fun hc => ?_) ?_ | refine Both.mk ?_ ?_ | ((first | refine aw ?_ | refine aD ?_ | refine aX ?_ | refine cT ?_ | refine cF ?_ | refine cR (g36 ..) ?_ | refine cG (g36 ..) ?_); try simp (disch := omega) only [go_sem, seval, reduceCtorEq, hkk, hge, hcl, f1, f2, f4, f5, Int.toNat_natCast]) | refine aI (fun hc => ?_) fun hc => ?_ | simp (disch := omega) only [go_sem, seval, reduceCtorEq, hkk, hge, hcl, f1, f2, f4, f5, Int.toNat_natCast] | (refine And.intro ?_ ?_; focus (first | (intros; omega) | (intros; simp_all; done))) | refine aC ?_ ?_ | refine aC' ?_ ?_ | refine aA ?_ ?_ | fail))
          all_goals first | omega | skip
        | some m =>
          have hml := hll m hlk
          have hmn := hln m hlk
          rw [hlk, RL_some] at g36
          rw [hlk] at w2
          simp only at w2
          have hl2 := cells_len m
          rw [if_pos (by omega)] at w2
          have g38 := x38 m (by omega) hmn
          have hl3 := cells_len m.reverse
          rw [List.length_reverse] at hl3
          have hca : cells acc ++ cells m.reverse = cells (acc ++ m.reverse) := (cells_app _ _).symm
          (repeat' (first | (with_reducible refine h34_26 ?_) | refine Sni.mk (fun hc => ?_) ?_ | refine Both.mk ?_ ?_ | ((first | refine aw ?_ | refine aD ?_ | refine aX ?_ | refine cT ?_ | refine cF ?_ | refine cR (g36 ..) ?_ | refine cG (g36 ..) ?_); try simp (disch := omega) only [go_sem, seval, reduceCtorEq, hkk, hge, hcl, f1, f2, f4, f5, Int.toNat_natCast]) | refine aI (fun hc => ?_) fun hc => ?_ | simp (disch := omega) only [go_sem, seval, reduceCtorEq, hkk, hge, hcl, f1, f2, f4, f5, Int.toNat_natCast] | (refine And.intro ?_ ?_; focus (first | (intros; omega) | (intros; simp_all; done))) | refine aC ?_ ?_ | refine aC' ?_ ?_ | refine aA ?_ ?_ | fail))
          all_goals first | omega | skip
          refine ⟨AW_frz [57] ?_⟩
          simp (disch := omega) only [go_sem, seval, reduceCtorEq]
          (repeat' (first | refine Sni.mk (fun hc => ?_) ?_ | refine Both.mk ?_ ?_ | ((first | refine aw ?_ | refine aD ?_ | refine aX ?_ | refine cT ?_ | refine cF ?_ | refine cR (g38 ..) ?_ | refine cG (g38 ..) ?_); try simp (disch := omega) only [go_sem, seval, reduceCtorEq, hkk, hge, hcl, f1, f2, f4, f5, Int.toNat_natCast, hal, hl2, hl3, hca, maxLen]) | refine aI (fun hc => ?_) fun hc => ?_ | simp (disch := omega) only [go_sem, seval, reduceCtorEq, hkk, hge, hcl, f1, f2, f4, f5, Int.toNat_natCast, hal, hl2, hl3, hca, maxLen] | (refine And.intro ?_ ?_; focus (first | (intros; omega) | (intros; simp_all; done))) | refine aC ?_ ?_ | refine aC' ?_ ?_ | refine aA ?_ ?_ | fail))
          all_goals first | omega | skip
          all_goals (
            refine .mk ⟨i + 1, acc ++ m.reverse⟩ ⟨by simp only []; omega, w2, hfin m.reverse (by rw [List.length_reverse]; omega)⟩ (by simp only []; omega) ?_
            simp (disch := omega) only [go_sem, seval, reduceCtorEq, Int.natCast_add, Int.natCast_one])
      · have f1 : ((i : Int) > (f : Int)) = True := eq_true (by omega)
        have f2 : ((i : Int) < (last : Int)) = True := eq_true (by omega)
        have f4 : ((i : Int) = (f : Int)) = False := eq_false (by omega)
        have f5 : ((i : Int) = (last : Int)) = False := eq_false (by omega)
        by_cases h2 : s = 2
        · have f3 : ((s : Int) = 2) = True := eq_true (by omega)
          rw [if_neg (by omega), if_neg (by omega)] at w2
          simp only at w2
          rw [if_neg (by omega)] at w2
          (repeat' (first | refine Sni.mk (fun hc => ?_) ?_ | refine Both.mk ?_ ?_ | ((first | refine aw ?_ | refine aD ?_ | refine aX ?_ | refine cT ?_ | refine cF ?_ | refine cR (g32 ..) ?_ | refine cG (g32 ..) ?_); try simp (disch := omega) only [go_sem, seval, reduceCtorEq, hkk, hge, hcl, f1, f2, f4, f5, Int.toNat_natCast, hal, hone, maxLen, List.length_cons, List.length_nil, f3]) | refine aI (fun hc => ?_) fun hc => ?_ | simp (disch := omega) only [go_sem, seval, reduceCtorEq, hkk, hge, hcl, f1, f2, f4, f5, Int.toNat_natCast, hal, hone, maxLen, List.length_cons, List.length_nil, f3] | (refine And.intro ?_ ?_; focus (first | (intros; omega) | (intros; simp_all; done))) | refine aC ?_ ?_ | refine aC' ?_ ?_ | refine aA ?_ ?_ | fail))
          all_goals first | omega | skip
          all_goals (
            refine .mk ⟨i + 1, acc ++ [k]⟩ ⟨by simp only []; omega, w2, hfin [k] (by simp only [List.length_cons, List.length_nil]; omega)⟩ (by simp only []; omega) ?_
            simp (disch := omega) only [go_sem, seval, reduceCtorEq, Int.natCast_add, Int.natCast_one])
        · have f3 : ((s : Int) = 2) = False := eq_false (by omega)
          rw [if_pos (by omega)] at w2
          subst w2
          rw [RW_none]
          (repeat' (first | refine Sni.mk (fun hc => ?_) ?_ | refine Both.mk ?_ ?_ | ((first | refine aw ?_ | refine aD ?_ | refine aX ?_ | refine cT ?_ | refine cF ?_ | refine cR (g32 ..) ?_ | refine cG (g32 ..) ?_); try simp (disch := omega) only [go_sem, seval, reduceCtorEq, hkk, hge, hcl, f1, f2, f4, f5, Int.toNat_natCast, f3]) | refine aI (fun hc => ?_) fun hc => ?_ | simp (disch := omega) only [go_sem, seval, reduceCtorEq, hkk, hge, hcl, f1, f2, f4, f5, Int.toNat_natCast, f3] | (refine And.intro ?_ ?_; focus (first | (intros; omega) | (intros; simp_all; done))) | refine aC ?_ ?_ | refine aC' ?_ ?_ | refine aA ?_ ?_ | fail))
          all_goals first | omega | skip
      · have f1 : ((i : Int) > (f : Int)) = True := eq_true (by omega)
        have f2 : ((i : Int) < (last : Int)) = False := eq_false (by omega)
        have f4 : ((i : Int) = (f : Int)) = False := eq_false (by omega)
        have f5 : ((i : Int) = (last : Int)) = True := eq_true (by omega)
        rw [if_neg (by omega), if_pos (by omega)] at w2
        cases hlk : lin (inR l) k with
        | none =>
          rw [hlk, RL_none] at g36
          rw [hlk] at w2
          simp only at w2
          subst w2
          rw [RW_none]
          (repeat' (first | refine Sni.mk (fun hc => ?_) ?_ | refine Both.mk ?_ ?_ | ((first | refine aw ?_ | refine aD ?_ | refine aX ?_ | refine cT ?_ | refine cF ?_ | refine cR (g36 ..) ?_ | refine cG (g36 ..) ?_); try simp (disch := omega) only [go_sem, seval, reduceCtorEq, hkk, hge, hcl, f1, f2, f4, f5, Int.toNat_natCast]) | refine aI (fun hc => ?_) fun hc => ?_ | simp (disch := omega) only [go_sem, seval, reduceCtorEq, hkk, hge, hcl, f1, f2, f4, f5, Int.toNat_natCast] | (refine And.intro ?_ ?_; focus (first | (intros; omega) | (intros; simp_all; done))) | refine aC ?_ ?_ | refine aC' ?_ ?_ | refine aA ?_ ?_ | fail))
          all_goals first | omega | skip
        | some m =>
          have hml := hll m hlk
          have hmn := hln m hlk
          rw [hlk, RL_some] at g36
          rw [hlk] at w2
          simp only at w2
          have hl2 := cells_len m
          rw [if_pos (by omega)] at w2
          have g38 := x38 m (by omega) hmn
          have hl3 := cells_len m.reverse
          rw [List.length_reverse] at hl3
          have hca : cells acc ++ cells m.reverse = cells (acc ++ m.reverse) := (cells_app _ _).symm
          (repeat' (first | (with_reducible refine h34_26 ?_) | refine Sni.mk (fun hc => ?_) ?_ | refine Both.mk ?_ ?_ | ((first | refine aw ?_ | refine aD ?_ | refine aX ?_ | refine cT ?_ | refine cF ?_ | refine cR (g36 ..) ?_ | refine cG (g36 ..) ?_); try simp (disch := omega) only [go_sem, seval, reduceCtorEq, hkk, hge, hcl, f1, f2, f4, f5, Int.toNat_natCast]) | refine aI (fun hc => ?_) fun hc => ?_ | simp (disch := omega) only [go_sem, seval, reduceCtorEq, hkk, hge, hcl, f1, f2, f4, f5, Int.toNat_natCast] | (refine And.intro ?_ ?_; focus (first | (intros; omega) | (intros; simp_all; done))) | refine aC ?_ ?_ | refine aC' ?_ ?_ | refine aA ?_ ?_ | fail))
          all_goals first | omega | skip
          refine ⟨AW_frz [57] ?_⟩
          simp (disch := omega) only [go_sem, seval, reduceCtorEq]
          (repeat' (first | refine Sni.mk (fun hc => ?_) ?_ | refine Both.mk ?_ ?_ | ((first | refine aw ?_ | refine aD ?_ | refine aX ?_ | refine cT ?_ | refine cF ?_ | refine cR (g38 ..) ?_ | refine cG (g38 ..) ?_); try simp (disch := omega) only [go_sem, seval, reduceCtorEq, hkk, hge, hcl, f1, f2, f4, f5, Int.toNat_natCast, hal, hl2, hl3, hca, maxLen]) | refine aI (fun hc => ?_) fun hc => ?_ | simp (disch := omega) only [go_sem, seval, reduceCtorEq, hkk, hge, hcl, f1, f2, f4, f5, Int.toNat_natCast, hal, hl2, hl3, hca, maxLen] | (refine And.intro ?_ ?_; focus (first | (intros; omega) | (intros; simp_all; done))) | refine aC ?_ ?_ | refine aC' ?_ ?_ | refine aA ?_ ?_ | fail))
          all_goals first | omega | skip
          all_goals (
            refine .mk ⟨i + 1, acc ++ m.reverse⟩ ⟨by simp only []; omega, w2, hfin m.reverse (by rw [List.length_reverse]; omega)⟩ (by simp only []; omega) ?_
            simp (disch := omega) only [go_sem, seval, reduceCtorEq, Int.natCast_add, Int.natCast_one])
      · have f1 : ((i : Int) > (f : Int)) = True := eq_true (by omega)
        have f2 : ((i : Int) < (last : Int)) = False := eq_false (by omega)
        have f4 : ((i : Int) = (f : Int)) = False := eq_false (by omega)
        have f5 : ((i : Int) = (last : Int)) = False := eq_false (by omega)
        rw [if_neg (by omega), if_neg (by omega)] at w2
        simp only at w2
        rw [if_neg (by omega)] at w2
        (repeat' (first | refine Sni.mk (fun hc => ?_) ?_ | refine Both.mk ?_ ?_ | ((first | refine aw ?_ | refine aD ?_ | refine aX ?_ | refine cT ?_ | refine cF ?_); try simp (disch := omega) only [go_sem, seval, reduceCtorEq, hkk, hge, hcl, f1, f2, f4, f5, Int.toNat_natCast, hal, hone, maxLen, List.length_cons, List.length_nil]) | refine aI (fun hc => ?_) fun hc => ?_ | simp (disch := omega) only [go_sem, seval, reduceCtorEq, hkk, hge, hcl, f1, f2, f4, f5, Int.toNat_natCast, hal, hone, maxLen, List.length_cons, List.length_nil] | (refine And.intro ?_ ?_; focus (first | (intros; omega) | (intros; simp_all; done))) | refine aA ?_ ?_ | fail))
        all_goals first | omega | skip
        all_goals (
          refine .mk ⟨i + 1, acc ++ [k]⟩ ⟨by simp only []; omega, w2, hfin [k] (by simp only [List.length_cons, List.length_nil]; omega)⟩ (by simp only []; omega) ?_
          simp (disch := omega) only [go_sem, seval, reduceCtorEq, Int.natCast_add, Int.natCast_one])
    · obtain rfl : i = ks.length := by omega
      have hkk : ((ks.length : Int) < (ks.length : Int)) = False := eq_false (by omega)
      rw [List.drop_of_length_le (by simp)] at w2
      simp only [wiA] at w2
      subst w2
      rw [RW_some]
      have g39 := x39 acc (by omega)
      (repeat' (first | (with_reducible refine h34_43 ?_) | refine Sni.mk (fun hc => ?_) ?_ | refine Both.mk ?_ ?_ | ((first | refine aw ?_ | refine aD ?_ | refine aX ?_ | refine cT ?_ | refine cF ?_); try simp (disch := omega) only [go_sem, seval, reduceCtorEq, hkk]) | refine aI (fun hc => ?_) fun hc => ?_ | simp (disch := omega) only [go_sem, seval, reduceCtorEq, hkk] | (refine And.intro ?_ ?_; focus (first | (intros; omega) | (intros; simp_all; done))) | refine aA ?_ ?_ | fail))
      refine ⟨AW_frz [901] ?_⟩
      simp (disch := omega) only [go_sem, seval, reduceCtorEq]
      (repeat' (first | refine Sni.mk (fun hc => ?_) ?_ | refine Both.mk ?_ ?_ | ((first | refine aw ?_ | refine aD ?_ | refine aX ?_ | refine cT ?_ | refine cF ?_ | refine cR (g39 ..) ?_ | refine cG (g39 ..) ?_); try simp (disch := omega) only [go_sem, seval, reduceCtorEq]) | refine aI (fun hc => ?_) fun hc => ?_ | simp (disch := omega) only [go_sem, seval, reduceCtorEq] | (refine And.intro ?_ ?_; focus (first | (intros; omega) | (intros; simp_all; done))) | refine aC ?_ ?_ | refine aC' ?_ ?_ | refine aA ?_ ?_ | fail))
end Go.Proofs.Ytcimlelkeppoiaa

open Go Go.AL Go.RowKit
namespace Go.Proofs.Ytcimlelkeppoiaa
set_option maxRecDepth 20000
noncomputable section
/- (coinage/pqtree.row).reduce -/
abbrev c23_1 : AC := .reg [⟨(some 4), .mv (.k (.c .np)), none⟩,
  ⟨(some 5), .mv (.k (.B false)), none⟩] false
abbrev c23_2 : AC := .reg [⟨(some 19), .mv (.t 0), none⟩,
  ⟨(some 20), .mv (.t 1), none⟩,
  ⟨(some 21), .call 32 [(.t 19), (.t 20)], none⟩,
  ⟨(some 22), .bin .eql (.t 21) (.k (.I 2)), none⟩] false
abbrev c23_3 : AC := .reg [⟨(some 23), .mv (.t 1), none⟩,
  ⟨(some 4), .mv (.t 23), none⟩,
  ⟨(some 5), .mv (.k (.B true)), none⟩] false
abbrev c23_4 : AC := .seq c23_3 .ret
abbrev c23_5 : AC := .cond (.t 22) c23_4 .skip
abbrev c23_6 : AC := .seq c23_2 c23_5
abbrev c23_7 : AC := .reg [⟨(some 6), .mv (.k (.I (-1))), none⟩] false
abbrev c23_8 : AC := .reg [⟨(some 7), .mv (.k (.I 0)), none⟩] false
abbrev c23_9 : AC := .reg [⟨(some 24), .mv (.t 1), none⟩,
  ⟨(some 25), .nilck (.t 24), none⟩,
  ⟨(some 26), .fad 2 (.t 25), none⟩,
  ⟨(some 27), .ld none (.t 26), none⟩,
  ⟨(some 28), .len (.t 27), none⟩,
  ⟨(some 29), .mv (.k (.I 0)), none⟩] false
abbrev c23_10 : AC := .reg [⟨(some 30), .bin .lss (.t 29) (.t 28), none⟩] false
abbrev c23_11 : AC := .cond (.t 30) .skip (.exit 0)
abbrev c23_12 : AC := .reg [⟨(some 31), .mv (.t 29), none⟩,
  ⟨(some 32), .iad 1 (.t 27) (.t 29), none⟩,
  ⟨(some 33), .ld none (.t 32), none⟩,
  ⟨(some 8), .mv (.t 31), none⟩,
  ⟨(some 9), .mv (.t 33), none⟩] false
abbrev c23_13 : AC := .reg [⟨(some 34), .mv (.t 0), none⟩,
  ⟨(some 35), .mv (.t 9), none⟩,
  ⟨(some 36), .call 32 [(.t 34), (.t 35)], none⟩,
  ⟨(some 37), .bin .neq (.t 36) (.k (.I 0)), none⟩] false
abbrev c23_14 : AC := .reg [⟨(some 38), .mv (.t 8), none⟩,
  ⟨(some 6), .mv (.t 38), none⟩] false
abbrev c23_15 : AC := .reg [⟨(some 39), .mv (.t 7), none⟩,
  ⟨(some 40), .bin .add (.t 39) (.k (.I 1)), none⟩,
  ⟨(some 7), .mv (.t 40), none⟩] false
abbrev c23_16 : AC := .seq c23_14 c23_15
abbrev c23_17 : AC := .cond (.t 37) c23_16 .skip
abbrev c23_18 : AC := .seq c23_13 c23_17
abbrev c23_19 : AC := .seq c23_12 c23_18
abbrev c23_20 : AC := .block 1 c23_19
abbrev c23_21 : AC := .reg [⟨(some 41), .bin .add (.t 29) (.k (.I 1)), none⟩,
  ⟨(some 29), .mv (.t 41), none⟩] false
abbrev c23_22 : AC := .seq c23_20 c23_21
abbrev c23_23 : AC := .seq c23_11 c23_22
abbrev c23_24 : AC := .seq c23_10 c23_23
abbrev c23_25 : AC := .loop c23_24
abbrev c23_26 : AC := .block 0 c23_25
abbrev c23_27 : AC := .seq c23_9 c23_26
abbrev c23_28 : AC := .reg [⟨(some 42), .mv (.t 7), none⟩,
  ⟨(some 43), .bin .eql (.t 42) (.k (.I 1)), none⟩] false
abbrev c23_29 : AC := .reg [⟨(some 45), .mv (.t 0), none⟩,
  ⟨(some 46), .mv (.t 1), none⟩,
  ⟨(some 47), .nilck (.t 46), none⟩,
  ⟨(some 48), .fad 2 (.t 47), none⟩,
  ⟨(some 49), .ld none (.t 48), none⟩,
  ⟨(some 50), .mv (.t 6), none⟩,
  ⟨(some 51), .iad 1 (.t 49) (.t 50), none⟩,
  ⟨(some 52), .ld none (.t 51), none⟩,
  ⟨(some 53), .call 23 [(.t 45), (.t 52)], none⟩,
  ⟨(some 44), .mv (.t 53), none⟩,
  ⟨(some 54), .ext (.t 44) 0, none⟩,
  ⟨(some 55), .ext (.t 44) 1, none⟩,
  ⟨(some 10), .mv (.t 54), none⟩,
  ⟨(some 11), .mv (.t 55), none⟩] false
abbrev c23_30 : AC := .reg [⟨(some 56), .mv (.t 1), none⟩,
  ⟨(some 57), .nilck (.t 56), none⟩,
  ⟨(some 58), .fad 2 (.t 57), none⟩,
  ⟨(some 59), .ld none (.t 58), none⟩,
  ⟨(some 60), .call 33 [(.t 59)], none⟩,
  ⟨(some 12), .mv (.t 60), none⟩] false
abbrev c23_31 : AC := .reg [⟨(some 61), .mv (.t 12), none⟩,
  ⟨(some 62), .mv (.t 6), none⟩,
  ⟨(some 63), .mv (.t 10), none⟩,
  ⟨(some 64), .iad 1 (.t 61) (.t 62), none⟩,
  ⟨none, .st none (.t 64) (.t 63), none⟩] false
abbrev c23_32 : AC := .reg [⟨(some 65), .mv (.t 1), none⟩,
  ⟨(some 66), .nilck (.t 65), none⟩,
  ⟨(some 67), .fad 1 (.t 66), none⟩,
  ⟨(some 68), .ld none (.t 67), none⟩,
  ⟨(some 69), .mv (.t 12), none⟩,
  ⟨(some 70), .build [(.I 0), (.B false), (.c .nil)] [(1, 1, (.t 68)), (2, 1, (.t 69))], none⟩,
  ⟨(some 71), .box 44 (some 3) (.t 70), none⟩,
  ⟨(some 72), .mv (.t 11), none⟩,
  ⟨(some 4), .mv (.t 71), none⟩,
  ⟨(some 5), .mv (.t 72), none⟩] false
abbrev c23_33 : AC := .seq c23_32 .ret
abbrev c23_34 : AC := .seq c23_31 c23_33
abbrev c23_35 : AC := .seq c23_30 c23_34
abbrev c23_36 : AC := .seq c23_29 c23_35
abbrev c23_37 : AC := .cond (.t 43) c23_36 .skip
abbrev c23_38 : AC := .seq c23_28 c23_37
abbrev c23_39 : AC := .reg [⟨(some 73), .mv (.t 1), none⟩,
  ⟨(some 74), .nilck (.t 73), none⟩,
  ⟨(some 75), .fad 1 (.t 74), none⟩,
  ⟨(some 76), .ld none (.t 75), none⟩] false
abbrev c23_40 : AC := .reg [⟨(some 77), .mv (.t 0), none⟩,
  ⟨(some 78), .mv (.t 1), none⟩,
  ⟨(some 79), .mv (.t 6), none⟩,
  ⟨(some 80), .call 34 [(.t 77), (.t 78), (.t 79)], none⟩,
  ⟨(some 81), .ext (.t 80) 0, none⟩,
  ⟨(some 82), .ext (.t 80) 1, none⟩,
  ⟨(some 4), .mv (.t 81), none⟩,
  ⟨(some 5), .mv (.t 82), none⟩] false
abbrev c23_41 : AC := .seq c23_40 .ret
abbrev c23_42 : AC := .cond (.t 76) c23_41 .skip
abbrev c23_43 : AC := .seq c23_39 c23_42
abbrev c23_44 : AC := .reg [⟨(some 83), .mv (.t 0), none⟩,
  ⟨(some 84), .mv (.t 1), none⟩,
  ⟨(some 85), .call 35 [(.t 83), (.t 84)], none⟩,
  ⟨(some 13), .alloc 65 [(.c .nil), (.c .nil), (.c .nil)], none⟩,
  ⟨none, .st (some 3) (.t 13) (.t 85), none⟩] false
abbrev c23_45 : AC := .reg [⟨(some 14), .mv (.k (.c .nil)), none⟩] false
abbrev c23_46 : AC := .reg [⟨(some 86), .iadA 3 1 (.t 13) (.k (.I 1)), none⟩,
  ⟨(some 87), .ld none (.t 86), none⟩,
  ⟨(some 88), .len (.t 87), none⟩] false
abbrev c23_47 : AC := .reg [⟨(some 90), .bin .eql (.t 88) (.k (.I 0)), none⟩,
  ⟨(some 89), .mv (.t 90), none⟩] false
abbrev c23_48 : AC := .reg [⟨(some 92), .bin .eql (.t 88) (.k (.I 1)), none⟩,
  ⟨(some 91), .mv (.t 92), none⟩] false
abbrev c23_49 : AC := .reg [⟨(some 93), .bin .eql (.t 88) (.k (.I 2)), none⟩,
  ⟨(some 91), .mv (.t 93), none⟩] false
abbrev c23_50 : AC := .cond (.t 91) .skip c23_49
abbrev c23_51 : AC := .seq c23_48 c23_50
abbrev c23_52 : AC := .reg [⟨(some 95), .mv (.t 0), none⟩,
  ⟨(some 96), .iadA 3 1 (.t 13) (.k (.I 1)), none⟩,
  ⟨(some 97), .ld none (.t 96), none⟩,
  ⟨(some 98), .iad 1 (.t 97) (.k (.I 0)), none⟩,
  ⟨(some 99), .ld none (.t 98), none⟩,
  ⟨(some 100), .call 36 [(.t 95), (.t 99)], none⟩,
  ⟨(some 94), .mv (.t 100), none⟩,
  ⟨(some 101), .ext (.t 94) 0, none⟩,
  ⟨(some 102), .ext (.t 94) 1, none⟩,
  ⟨(some 15), .mv (.t 101), none⟩,
  ⟨(some 16), .mv (.t 102), none⟩] false
abbrev c23_53 : AC := .reg [⟨(some 103), .mv (.t 16), none⟩,
  ⟨(some 104), .not (.t 103), none⟩] false
abbrev c23_54 : AC := .reg [⟨(some 4), .mv (.k (.c .np)), none⟩,
  ⟨(some 5), .mv (.k (.B false)), none⟩] false
abbrev c23_55 : AC := .seq c23_54 .ret
abbrev c23_56 : AC := .cond (.t 104) c23_55 .skip
abbrev c23_57 : AC := .seq c23_53 c23_56
abbrev c23_58 : AC := .reg [⟨(some 105), .mv (.t 15), none⟩,
  ⟨(some 14), .mv (.t 105), none⟩] false
abbrev c23_59 : AC := .seq c23_57 c23_58
abbrev c23_60 : AC := .seq c23_52 c23_59
abbrev c23_61 : AC := .reg [⟨(some 4), .mv (.k (.c .np)), none⟩,
  ⟨(some 5), .mv (.k (.B false)), none⟩] false
abbrev c23_62 : AC := .seq c23_61 .ret
abbrev c23_63 : AC := .cond (.t 91) c23_60 c23_62
abbrev c23_64 : AC := .seq c23_51 c23_63
abbrev c23_65 : AC := .cond (.t 89) .skip c23_64
abbrev c23_66 : AC := .seq c23_47 c23_65
abbrev c23_67 : AC := .block 2 c23_66
abbrev c23_68 : AC := .seq c23_46 c23_67
abbrev c23_69 : AC := .reg [⟨(some 106), .mv (.t 14), none⟩,
  ⟨(some 107), .iadA 3 1 (.t 13) (.k (.I 2)), none⟩,
  ⟨(some 108), .ld none (.t 107), none⟩,
  ⟨(some 109), .call 21 [(.t 108)], none⟩,
  ⟨(some 110), .bslice 42 1 [(.t 109)], none⟩,
  ⟨(some 111), .call 37 [(.t 106), (.t 110)], none⟩,
  ⟨(some 14), .mv (.t 111), none⟩] false
abbrev c23_70 : AC := .reg [⟨(some 112), .iadA 3 1 (.t 13) (.k (.I 1)), none⟩,
  ⟨(some 113), .ld none (.t 112), none⟩,
  ⟨(some 114), .len (.t 113), none⟩,
  ⟨(some 115), .bin .eql (.t 114) (.k (.I 2)), none⟩] false
abbrev c23_71 : AC := .reg [⟨(some 117), .mv (.t 0), none⟩,
  ⟨(some 118), .iadA 3 1 (.t 13) (.k (.I 1)), none⟩,
  ⟨(some 119), .ld none (.t 118), none⟩,
  ⟨(some 120), .iad 1 (.t 119) (.k (.I 1)), none⟩,
  ⟨(some 121), .ld none (.t 120), none⟩,
  ⟨(some 122), .call 36 [(.t 117), (.t 121)], none⟩,
  ⟨(some 116), .mv (.t 122), none⟩,
  ⟨(some 123), .ext (.t 116) 0, none⟩,
  ⟨(some 124), .ext (.t 116) 1, none⟩,
  ⟨(some 17), .mv (.t 123), none⟩,
  ⟨(some 18), .mv (.t 124), none⟩] false
abbrev c23_72 : AC := .reg [⟨(some 125), .mv (.t 18), none⟩,
  ⟨(some 126), .not (.t 125), none⟩] false
abbrev c23_73 : AC := .reg [⟨(some 4), .mv (.k (.c .np)), none⟩,
  ⟨(some 5), .mv (.k (.B false)), none⟩] false
abbrev c23_74 : AC := .seq c23_73 .ret
abbrev c23_75 : AC := .cond (.t 126) c23_74 .skip
abbrev c23_76 : AC := .seq c23_72 c23_75
abbrev c23_77 : AC := .reg [⟨(some 127), .mv (.t 14), none⟩,
  ⟨(some 128), .mv (.t 17), none⟩,
  ⟨(some 129), .call 38 [(.t 128)], none⟩,
  ⟨(some 130), .app 42 1 8 (.t 127) (.t 129), none⟩,
  ⟨(some 14), .mv (.t 130), none⟩] false
abbrev c23_78 : AC := .seq c23_76 c23_77
abbrev c23_79 : AC := .seq c23_71 c23_78
abbrev c23_80 : AC := .cond (.t 115) c23_79 .skip
abbrev c23_81 : AC := .seq c23_70 c23_80
abbrev c23_82 : AC := .regX (.first ⟨(some 131), .iadA 3 1 (.t 13) (.k (.I 0)), none⟩
  (.first ⟨(some 133), .mv (.t 14), none⟩
  (.fork ⟨(some 132), .ld none (.t 131), none⟩
  (.fork ⟨(some 134), .call 39 [(.t 133)], none⟩
  (.fork ⟨(some 135), .bslice 42 1 [(.t 134)], none⟩
  (.fork ⟨(some 136), .app 42 1 8 (.t 132) (.t 135), none⟩
  (.fork ⟨(some 137), .call 21 [(.t 136)], none⟩
  (.first ⟨(some 4), .mv (.t 137), none⟩
  (.first ⟨(some 5), .mv (.k (.B true)), none⟩
  .done))
  .nope)
  .nope)
  .nope)
  .nope)
  (.fork ⟨(some 134), .call 39 [(.t 133)], none⟩
  (.fork ⟨(some 132), .ld none (.t 131), none⟩
  (.fork ⟨(some 135), .bslice 42 1 [(.t 134)], none⟩
  (.fork ⟨(some 136), .app 42 1 8 (.t 132) (.t 135), none⟩
  (.fork ⟨(some 137), .call 21 [(.t 136)], none⟩
  (.first ⟨(some 4), .mv (.t 137), none⟩
  (.first ⟨(some 5), .mv (.k (.B true)), none⟩
  .done))
  .nope)
  .nope)
  .nope)
  (.fork ⟨(some 135), .bslice 42 1 [(.t 134)], none⟩
  (.fork ⟨(some 132), .ld none (.t 131), none⟩
  (.fork ⟨(some 136), .app 42 1 8 (.t 132) (.t 135), none⟩
  (.fork ⟨(some 137), .call 21 [(.t 136)], none⟩
  (.first ⟨(some 4), .mv (.t 137), none⟩
  (.first ⟨(some 5), .mv (.k (.B true)), none⟩
  .done))
  .nope)
  .nope)
  .nope)
  .nope))
  .nope))))
abbrev c23_83 : AC := .seq c23_82 .ret
abbrev c23_84 : AC := .seq c23_81 c23_83
abbrev c23_85 : AC := .seq c23_69 c23_84
abbrev c23_86 : AC := .seq c23_68 c23_85
abbrev c23_87 : AC := .seq c23_45 c23_86
abbrev c23_88 : AC := .seq c23_44 c23_87
abbrev c23_89 : AC := .seq c23_43 c23_88
abbrev c23_90 : AC := .seq c23_38 c23_89
abbrev c23_91 : AC := .seq c23_27 c23_90
abbrev c23_92 : AC := .seq c23_8 c23_91
abbrev c23_93 : AC := .seq c23_7 c23_92
abbrev c23_94 : AC := .seq c23_6 c23_93
abbrev c23_95 : AC := .seq c23_1 c23_94
abbrev c23 : AC := c23_95
theorem code23 : fnCode Try.prog 23 = some (c23, [4, 5], 138) := by kernel_rfl
end
def cz (r : Nat → Bool) (ks : List N) : Nat → Nat
  | 0 => 0
  | i + 1 => cz r ks i + (if st r (nth ks i) = 0 then 0 else 1)
def lz (r : Nat → Bool) (ks : List N) : Nat → Nat
  | 0 => 0
  | i + 1 => if st r (nth ks i) = 0 then lz r ks i else i
def fz (r : Nat → Bool) (ks : List N) : Nat := ks.findIdx fun k => st r k != 0
theorem lz_ok {r : Nat → Bool} {ks : List N} : ∀ {i : Nat}, 0 < cz r ks i → lz r ks i < i ∧ st r (nth ks (lz r ks i)) ≠ 0
  | 0, h => by simp [cz] at h
  | i + 1, h => by
    simp only [cz] at h
    simp only [lz]
    by_cases hs : st r (nth ks i) = 0
    · rw [if_pos hs] at h ⊢
      have := lz_ok (i := i) (by omega)
      exact ⟨by omega, this.2⟩
    · rw [if_neg hs]
      exact ⟨by omega, hs⟩
theorem cz_le (r : Nat → Bool) (ks : List N) : ∀ i, cz r ks i ≤ i
  | 0 => by simp [cz]
  | i + 1 => by have := cz_le r ks i; simp only [cz]; split <;> omega
theorem cz_pos {r : Nat → Bool} {ks : List N} : ∀ {i j : Nat}, j < i → st r (nth ks j) ≠ 0 → 0 < cz r ks i
  | i + 1, j, h, hs => by
    simp only [cz]
    rcases Nat.lt_succ_iff_lt_or_eq.1 h with h | rfl
    · have := cz_pos h hs; omega
    · rw [if_neg hs]; omega
theorem fz_ok {r : Nat → Bool} {ks : List N} {j : Nat} (hj : j < ks.length) (hs : st r (nth ks j) ≠ 0) : fz r ks ≤ j ∧ st r (nth ks (fz r ks)) ≠ 0 ∧ ∀ i, i < fz r ks → st r (nth ks i) = 0 := by
  have hex : ∃ k ∈ ks, (st r k != 0) = true := ⟨nth ks j, by rw [nth_eq ks j hj]; exact List.getElem_mem hj, by simpa using hs⟩
  have hlt : fz r ks < ks.length := List.findIdx_lt_length.2 hex
  have h1 : (st r (ks[fz r ks]) != 0) = true := List.findIdx_getElem (w := hlt)
  have h2 : ∀ i, i < fz r ks → st r (nth ks i) = 0 := fun i hi => by
    have := List.not_of_lt_findIdx hi
    rw [nth_eq ks i (by omega)]
    simpa using this
  refine ⟨?_, ?_, h2⟩
  · refine Nat.le_of_not_lt fun h => hs (h2 j h)
  · rw [nth_eq ks _ hlt]; simpa using h1
def finR (e : List N) (lst : List N) : Option N := (lin1 lst).bind fun k => grp (e ++ [k])
def redP (e : List N) (F : Option N) : List Z → Option N
  | [] => finR e (jn [] F)
  | [(_, o)] => o.bind fun m => finR e (jn m F)
  | [(_, o), (_, o')] => o.bind fun m => o'.bind fun m' => finR e (jn m F ++ m'.reverse)
  | _ => none
def redK (r : Nat → Bool) (l : Nat) (q : Bool) (ks : List N) (rs : List (Option N)) : Option N :=
  if st r (.nd l q ks) = 2 then some (.nd l q ks)
  else if cz r ks ks.length = 1 then (rs.getD (lz r ks ks.length) none).map fun k' => .nd 0 q (ks.set (lz r ks ks.length) k')
  else bif q then (wiA r (fz r ks) (lz r ks ks.length) 0 [] (ks.map fun k => (k, lin r k))).bind lin1
  else redP (fil r 0 ks) (grp (fil r 2 ks)) ((fil r 1 ks).map fun k => (k, lin r k))
mutual
def red (r : Nat → Bool) : N → Option N
  | .nd l q ks => redK r l q ks (reds r ks)
def reds (r : Nat → Bool) : List N → List (Option N)
  | [] => []
  | k :: ks => red r k :: reds r ks
end
theorem reds_map (r : Nat → Bool) : ∀ ks : List N, reds r ks = ks.map (red r)
  | [] => rfl
  | k :: ks => by simp only [reds, List.map_cons]; rw [reds_map r ks]
theorem red_nd (r : Nat → Bool) (l : Nat) (q : Bool) (ks : List N) : red r (.nd l q ks) = redK r l q ks (ks.map (red r)) := by
  rw [← reds_map]; rfl
def OkR (l : List Nat) (v : N) : Prop := (∀ v', red (inR l) v = some v' → FnR Try.prog 23 [.c (RM l), .c (ncd v)] [.c (ncd v'), .c (.B true)]) ∧ (red (inR l) v = none → ∃ d, FnR Try.prog 23 [.c (RM l), .c (ncd v)] [.c d, .c (.B false)])
def s23 (l : List Nat) (n : Nat) (q : Bool) (ks : List N) (a c : Int) : St := ⟨138, [(0, .c (RM l)), (1, .c (.dp [.I (n : Int), .B q, .sl 1 (cells ks)])), (6, .I a), (7, .I c)], []⟩
def lzI (r : Nat → Bool) (ks : List N) (i : Nat) : Int := if cz r ks i = 0 then -1 else (lz r ks i : Nat)
end Go.Proofs.Ytcimlelkeppoiaa

open Go Go.AL Go.RowKit
namespace Go.Proofs.Ytcimlelkeppoiaa
set_option maxRecDepth 20000
theorem lzI_succ (r : Nat → Bool) (ks : List N) (i : Nat) : lzI r ks (i + 1) = if st r (nth ks i) = 0 then lzI r ks i else (i : Int) := by
  by_cases h : st r (nth ks i) = 0
  · have e : cz r ks (i + 1) = cz r ks i := by
      show cz r ks i + (if st r (nth ks i) = 0 then 0 else 1) = _
      rw [if_pos h, Nat.add_zero]
    have e2 : lz r ks (i + 1) = lz r ks i := by
      show (if st r (nth ks i) = 0 then lz r ks i else i) = _
      rw [if_pos h]
    unfold lzI
    rw [if_pos h, e, e2]
  · have e : cz r ks (i + 1) = cz r ks i + 1 := by
      show cz r ks i + (if st r (nth ks i) = 0 then 0 else 1) = _
      rw [if_neg h]
    have e2 : lz r ks (i + 1) = i := by
      show (if st r (nth ks i) = 0 then lz r ks i else i) = _
      rw [if_neg h]
    unfold lzI
    rw [if_neg h, e, e2, if_neg (by omega)]
theorem z23 (l : List Nat) (n : Nat) (q : Bool) (ks : List N) (hks : ks.length ≤ 100) (hsm : ∀ k ∈ ks, Sm k) : AW Try.prog c23_27 (cutQ (s23 l n q ks (lzI (inR l) ks ks.length) (cz (inR l) ks ks.length))) (s23 l n q ks (-1) 0) := by
  have hcl := cells_len ks
  unfold s23
  (repeat' (first | refine Sni.mk (fun hc => ?_) ?_ | refine Both.mk ?_ ?_ | ((first | refine aw ?_ | refine aD ?_ | refine aX ?_ | refine cT ?_ | refine cF ?_); try simp (disch := omega) only [go_sem, seval, reduceCtorEq, hcl]) | refine aI (fun hc => ?_) fun hc => ?_ | simp (disch := omega) only [go_sem, seval, reduceCtorEq, hcl] | (refine And.intro ?_ ?_; focus (first | (intros; omega) | (intros; simp_all; done))) | refine aA ?_ ?_ | fail))
  refine AW_loopK [0, 1, 27, 28] [6, 7, 8, 9, 29, 30, 31, 32, 33, 34, 35, 36, 37, 38, 39, 40, 41] (fun i : Nat => i ≤ ks.length) (fun i => [(6, .I (lzI (inR l) ks i)), (7, .I (cz (inR l) ks i : Nat)), (29, .I (i : Int))]) (fun _ => []) (fun i => ks.length - i) 0 (by omega) ?_ ?_
  · simp (disch := omega) only [go_sem, seval, reduceCtorEq, lzI, cz, Int.natCast_zero]
  · intro i hi
    rcases Nat.lt_or_ge i ks.length with hil | hil
    · have hkk : ((i : Int) < (ks.length : Int)) = True := eq_true (by omega)
      have hm : nth ks i ∈ ks := by rw [nth_eq ks i hil]; exact List.getElem_mem hil
      have g32 := x32 l (nth ks i) (hsm _ hm)
      have hge := cells_get hil
      have e1 := lzI_succ (inR l) ks i
      have e2 : cz (inR l) ks (i + 1) = cz (inR l) ks i + (if st (inR l) (nth ks i) = 0 then 0 else 1) := rfl
      have hczl := cz_le (inR l) ks i
      by_cases h : st (inR l) (nth ks i) = 0
      · rw [if_pos h] at e1 e2
        rw [h] at g32
        (repeat' (first | refine Sni.mk (fun hc => ?_) ?_ | refine Both.mk ?_ ?_ | ((first | refine aw ?_ | refine aD ?_ | refine aX ?_ | refine cT ?_ | refine cF ?_ | refine cR (g32 ..) ?_ | refine cG (g32 ..) ?_); try simp (disch := omega) only [go_sem, seval, reduceCtorEq, hkk, hge, hcl, Int.natCast_zero, Int.toNat_natCast]) | refine aI (fun hc => ?_) fun hc => ?_ | simp (disch := omega) only [go_sem, seval, reduceCtorEq, hkk, hge, hcl, Int.natCast_zero, Int.toNat_natCast] | (refine And.intro ?_ ?_; focus (first | (intros; omega) | (intros; simp_all; done))) | refine aC ?_ ?_ | refine aC' ?_ ?_ | refine aA ?_ ?_ | fail))
        all_goals first | omega | skip
        all_goals (
          refine .mk (i + 1) (by omega) (by omega) ?_
          simp (disch := omega) only [go_sem, seval, reduceCtorEq, e1, e2, Nat.add_zero, Int.natCast_add, Int.natCast_one])
      · have f1 : (((st (inR l) (nth ks i) : Nat) : Int) = 0) = False := eq_false (by omega)
        rw [if_neg h] at e1 e2
        (repeat' (first | refine Sni.mk (fun hc => ?_) ?_ | refine Both.mk ?_ ?_ | ((first | refine aw ?_ | refine aD ?_ | refine aX ?_ | refine cT ?_ | refine cF ?_ | refine cR (g32 ..) ?_ | refine cG (g32 ..) ?_); try simp (disch := omega) only [go_sem, seval, reduceCtorEq, hkk, hge, hcl, f1, Int.toNat_natCast]) | refine aI (fun hc => ?_) fun hc => ?_ | simp (disch := omega) only [go_sem, seval, reduceCtorEq, hkk, hge, hcl, f1, Int.toNat_natCast] | (refine And.intro ?_ ?_; focus (first | (intros; omega) | (intros; simp_all; done))) | refine aC ?_ ?_ | refine aC' ?_ ?_ | refine aA ?_ ?_ | fail))
        all_goals first | omega | skip
        all_goals (
          refine .mk (i + 1) (by omega) (by omega) ?_
          simp (disch := omega) only [go_sem, seval, reduceCtorEq, e1, e2, Int.natCast_add, Int.natCast_one])
    · obtain rfl : i = ks.length := by omega
      have hkk : ((ks.length : Int) < (ks.length : Int)) = False := eq_false (by omega)
      (repeat' (first | refine Sni.mk (fun hc => ?_) ?_ | refine Both.mk ?_ ?_ | ((first | refine aw ?_ | refine aD ?_ | refine aX ?_ | refine cT ?_ | refine cF ?_); try simp (disch := omega) only [go_sem, seval, reduceCtorEq, hkk]) | refine aI (fun hc => ?_) fun hc => ?_ | simp (disch := omega) only [go_sem, seval, reduceCtorEq, hkk] | (refine And.intro ?_ ?_; focus (first | (intros; omega) | (intros; simp_all; done))) | refine aA ?_ ?_ | fail))
theorem cells_set (ks : List N) (t : Nat) (k : N) : (cells ks).set t [ncd k] = cells (ks.set t k) := by
  rw [cells_map, cells_map, List.map_set]
set_option maxHeartbeats 4000000 in
theorem w23a (l : List Nat) (n : Nat) (q : Bool) (ks : List N) (hks : ks.length ≤ 100) (t : Nat) (ht : t < ks.length) (d0 : CD) (b : Bool) (gk : FnR Try.prog 23 [.c (RM l), .c (ncd (nth ks t))] [.c d0, .c (.B b)]) :
    AW Try.prog c23_90 (retQ [4, 5] [.c (.dp [.I 0, .B q, .sl 1 ((cells ks).set t [d0])]), .c (.B b)]) (s23 l n q ks (t : Int) 1) := by
  have hcl := cells_len ks
  have h0 : ks ≠ [] := fun e => by subst e; simp at ht
  have g33 := x33 ks (by omega) h0
  have hge := cells_get ht
  have hkk : ((t : Int) < (ks.length : Int)) = True := eq_true (by omega)
  unfold s23
  (repeat' (first | (with_reducible refine hret ?_) | refine Sni.mk (fun hc => ?_) ?_ | refine Both.mk ?_ ?_ | ((first | refine aw ?_ | refine aD ?_ | refine aX ?_ | refine cT ?_ | refine cF ?_ | refine cR (gk ..) ?_ | refine cG (gk ..) ?_ | refine cR (g33 ..) ?_ | refine cG (g33 ..) ?_); try simp (disch := omega) only [go_sem, seval, reduceCtorEq, hcl, hge, hkk, Int.toNat_natCast, List.set_cons_zero]) | refine aI (fun hc => ?_) fun hc => ?_ | simp (disch := omega) only [go_sem, seval, reduceCtorEq, hcl, hge, hkk, Int.toNat_natCast, List.set_cons_zero] | (refine And.intro ?_ ?_; focus (first | (intros; omega) | (intros; simp_all; done))) | refine aC ?_ ?_ | refine aC' ?_ ?_ | refine aA ?_ ?_ | fail))
  all_goals first | omega | skip
  refine ⟨AW_frz [60, 71] ?_⟩
  simp (disch := omega) only [go_sem, seval, reduceCtorEq]
  (repeat' (first | refine Sni.mk (fun hc => ?_) ?_ | refine Both.mk ?_ ?_ | ((first | refine aw ?_ | refine aD ?_ | refine aX ?_ | refine cT ?_ | refine cF ?_); try simp (disch := omega) only [go_sem, seval, reduceCtorEq]) | refine aI (fun hc => ?_) fun hc => ?_ | simp (disch := omega) only [go_sem, seval, reduceCtorEq] | (refine And.intro ?_ ?_; focus (first | (intros; omega) | (intros; simp_all; done))) | refine aA ?_ ?_ | fail))
set_option maxHeartbeats 4000000 in
theorem w23b (l : List Nat) (n : Nat) (ks : List N) (hs : Sm (.nd n true ks)) (hz : szs ks ≤ 99) (f last : Nat) (hf : f < ks.length) (h0 : ∀ j, j < f → st (inR l) (nth ks j) = 0) (h1 : st (inR l) (nth ks f) ≠ 0) (hfl : f ≤ last) (hla : last < ks.length) (c : Nat) (hc : c ≠ 1) :
    AW Try.prog c23_90 (retQ [4, 5] (RW (wiA (inR l) f last 0 [] (ks.map fun k => (k, lin (inR l) k))))) (s23 l n true ks (last : Int) (c : Int)) := by
  have g34 := x34 l n ks hs hz f last hf h0 h1 hfl hla
  have hkc : kcd (cells ks) = .sl 1 (cells ks) := by cases ks with | nil => simp at hf | cons a r => rfl
  have hnc : ncd (.nd n true ks) = .dp [.I (n : Int), .B true, .sl 1 (cells ks)] := by unfold ncd; rw [hkc]
  rw [hnc] at g34
  have f1 : ((c : Int) = 1) = False := eq_false (by omega)
  unfold s23
  generalize wiA (inR l) f last 0 [] (ks.map fun k => (k, lin (inR l) k)) = o at *
  cases o with
  | none =>
    rw [RW_none] at g34 ⊢
    (repeat' (first | refine Sni.mk (fun hc => ?_) ?_ | refine Both.mk ?_ ?_ | ((first | refine aw ?_ | refine aD ?_ | refine aX ?_ | refine cT ?_ | refine cF ?_ | refine cR (g34 ..) ?_ | refine cG (g34 ..) ?_); try simp (disch := omega) only [go_sem, seval, reduceCtorEq, f1]) | refine aI (fun hc => ?_) fun hc => ?_ | simp (disch := omega) only [go_sem, seval, reduceCtorEq, f1] | (refine And.intro ?_ ?_; focus (first | (intros; omega) | (intros; simp_all; done))) | refine aC ?_ ?_ | refine aC' ?_ ?_ | refine aA ?_ ?_ | fail))
  | some out =>
    rw [RW_some] at g34 ⊢
    (repeat' (first | refine Sni.mk (fun hc => ?_) ?_ | refine Both.mk ?_ ?_ | ((first | refine aw ?_ | refine aD ?_ | refine aX ?_ | refine cT ?_ | refine cF ?_ | refine cR (g34 ..) ?_ | refine cG (g34 ..) ?_); try simp (disch := omega) only [go_sem, seval, reduceCtorEq, f1]) | refine aI (fun hc => ?_) fun hc => ?_ | simp (disch := omega) only [go_sem, seval, reduceCtorEq, f1] | (refine And.intro ?_ ?_; focus (first | (intros; omega) | (intros; simp_all; done))) | refine aC ?_ ?_ | refine aC' ?_ ?_ | refine aA ?_ ?_ | fail))
end Go.Proofs.Ytcimlelkeppoiaa

open Go Go.AL Go.RowKit
namespace Go.Proofs.Ytcimlelkeppoiaa
set_option maxRecDepth 20000
theorem h23_83 {Q : Exit → St → Prop} {σ : St} (h : Hold (AW Try.prog c23_83 Q σ)) : AW Try.prog c23_83 Q σ := h.out
theorem h23_87 {Q : Exit → St → Prop} {σ : St} (h : Hold (AW Try.prog c23_87 Q σ)) : AW Try.prog c23_87 Q σ := h.out
theorem h23_77 {Q : Exit → St → Prop} {σ : St} (h : Hold (AW Try.prog c23_77 Q σ)) : AW Try.prog c23_77 Q σ := h.out
def sF (e p f L : List N) : St := ⟨138, [(13, .ptr 13 0), (14, .own 111)], [(901, .arr 42 1 (cells e)), (13, .box 65 [.own 901, .c (.sl 1 (cells p)), .c (.sl 1 (cells f))]), (111, .arr 42 1 (cells L))]⟩
set_option maxHeartbeats 8000000 in
theorem w23f (e p f L : List N) (he : e.length ≤ 100) (hL : L.length ≤ 1000) (X v' : N) (h1 : lin1 L = some X) (h2 : grp (e ++ [X]) = some v') : AW Try.prog c23_83 (retQ [4, 5] [.c (ncd v'), .c (.B true)]) (sF e p f L) := by
  have g39 := x39 L hL
  rw [h1] at g39
  have g21 := x21 (e ++ [X]) (by simp only [List.length_append, List.length_cons, List.length_nil]; omega)
  rw [h2] at g21
  simp only [ocd] at g39 g21
  have hc : cells e ++ [[ncd X]] = cells (e ++ [X]) := by rw [cells_app]; rfl
  have hcl := cells_len e
  unfold sF
  refine AW_frz [111] ?_
  simp (disch := omega) only [go_sem, seval, reduceCtorEq]
  (repeat' (first | refine Sni.mk (fun hc => ?_) ?_ | refine Both.mk ?_ ?_ | ((first | refine aw ?_ | refine aD ?_ | refine aX ?_ | refine CallAt.frz [901] (cR (g21 ..) ?_) | refine cT ?_ | refine cF ?_ | refine cR (g39 ..) ?_ | refine cG (g39 ..) ?_); try simp (disch := omega) only [go_sem, seval, reduceCtorEq, hc, hcl, maxLen, List.length_cons, List.length_nil]) | refine aI (fun hc => ?_) fun hc => ?_ | simp (disch := omega) only [go_sem, seval, reduceCtorEq, hc, hcl, maxLen, List.length_cons, List.length_nil] | (refine And.intro ?_ ?_; focus (first | (intros; omega) | (intros; simp_all; done))) | refine aC ?_ ?_ | refine aC' ?_ ?_ | refine aA ?_ ?_ | refine And.intro (?_ : _ ∧ _) ?_ | fail))
  all_goals first | omega | skip
def RNo (o : Option N) : List RV := match o with
  | none => [.c .np, .c (.B false)]
  | some k => [.c (ncd k), .c (.B true)]
theorem RNo_none : RNo none = [.c .np, .c (.B false)] := rfl
theorem RNo_some (k : N) : RNo (some k) = [.c (ncd k), .c (.B true)] := rfl
theorem fin_some {e L : List N} (h : L ≠ []) : ∃ X v', lin1 L = some X ∧ grp (e ++ [X]) = some v' ∧ finR e L = some v' := by
  obtain ⟨X, hX⟩ : ∃ X, lin1 L = some X := by
    unfold lin1
    split
    · exact grp_some h
    · match L, h with
      | a :: b, _ => exact ⟨_, rfl⟩
  obtain ⟨v', hv⟩ := grp_some (ks := e ++ [X]) (by simp)
  exact ⟨X, v', hX, hv, by unfold finR; rw [hX]; exact hv⟩
theorem cz_all {r : Nat → Bool} {ks : List N} (h : 0 < cz r ks ks.length) : fil r 1 ks ≠ [] ∨ fil r 2 ks ≠ [] := by
  have hl := lz_ok h
  have hm : nth ks (lz r ks ks.length) ∈ ks := by rw [nth_eq ks _ hl.1]; exact List.getElem_mem hl.1
  by_cases h1 : st r (nth ks (lz r ks ks.length)) = 1
  · left; intro e; exact fil_nil e _ hm h1
  · right; intro e
    have := st_le r (nth ks (lz r ks ks.length))
    exact fil_nil e _ hm (by omega)
set_option maxHeartbeats 16000000 in
theorem w23c (l : List Nat) (n : Nat) (ks : List N) (hs : Sm (.nd n false ks)) (hz : szs ks ≤ 99) (a c : Int) (hc : c ≠ 1) (h0 : ks ≠ []) (hne : fil (inR l) 1 ks ≠ [] ∨ fil (inR l) 2 ks ≠ []) :
    AW Try.prog c23_90 (retQ [4, 5] (RNo (redP (fil (inR l) 0 ks) (grp (fil (inR l) 2 ks)) ((fil (inR l) 1 ks).map fun k => (k, lin (inR l) k))))) (s23 l n false ks a c) := by
  have hsm : ∀ k ∈ ks, Sm k := by cases hs with | nd _ _ h => exact h
  have hks : ks.length ≤ 100 := by cases hs with | nd _ h _ => exact h
  have g35 := x35 l n false ks hs h0
  have hkc : kcd (cells ks) = .sl 1 (cells ks) := by cases ks with | nil => exact absurd rfl h0 | cons a r => rfl
  have hnc : ncd (.nd n false ks) = .dp [.I (n : Int), .B false, .sl 1 (cells ks)] := by unfold ncd; rw [hkc]
  rw [hnc] at g35
  have le := fil_len (inR l) 0 ks
  have lf := fil_len (inR l) 2 ks
  have gf := x21 (fil (inR l) 2 ks) (by omega)
  have f1 : (c = 1) = False := eq_false hc
  have hcp := cells_len (fil (inR l) 1 ks)
  have hpm : ∀ k ∈ fil (inR l) 1 ks, k ∈ ks := fun k hk => (List.mem_filter.1 hk).1
  have hF : fil (inR l) 2 ks ≠ [] → ∃ x, grp (fil (inR l) 2 ks) = some x := fun h => grp_some h
  have hkz : ∀ k ∈ ks, sz k ≤ 100 := fun k hk => by have := szs_mem hk; omega
  have hll := fun k => lin_len (inR l) k
  have hln := fun k => lin_ne (inR l) k
  generalize hF2 : grp (fil (inR l) 2 ks) = F at *
  have hjF : ocs F = cells (jn [] F) := by rw [← ocs_jn]; rfl
  have hjl := jn_len [] F
  unfold s23
  match hps : fil (inR l) 1 ks, hcp, hpm, hne with
  | [], hcp, hpm, hne =>
    rw [hps] at g35
    have hfne : fil (inR l) 2 ks ≠ [] := by
      rcases hne with h | h
      · exact absurd rfl h
      · exact h
    obtain ⟨x, hx⟩ := hF hfne
    have hLne : jn [] F ≠ [] := by rw [hx]; simp [jn]
    obtain ⟨X, v', hX, hv, hfin⟩ := fin_some (e := fil (inR l) 0 ks) hLne
    have hR : redP (fil (inR l) 0 ks) F (([] : List N).map fun k => (k, lin (inR l) k)) = some v' := hfin
    rw [hR, RNo_some]
    have g37 := x37n_110 F
    rw [hjF] at g37
    (repeat' (first | (with_reducible refine h23_87 ?_) | refine Sni.mk (fun hc => ?_) ?_ | refine Both.mk ?_ ?_ | ((first | refine aw ?_ | refine aD ?_ | refine aX ?_ | refine CallAt.mkG (g35 ..) (by simp (disch := omega) only [go_sem, seval, reduceCtorEq, f1]) ?_ | refine cT ?_ | refine cF ?_); try simp (disch := omega) only [go_sem, seval, reduceCtorEq, f1]) | refine aI (fun hc => ?_) fun hc => ?_ | simp (disch := omega) only [go_sem, seval, reduceCtorEq, f1] | (refine And.intro ?_ ?_; focus (first | (intros; omega) | (intros; simp_all; done))) | refine aA ?_ ?_ | fail))
    refine ⟨AW_frz [902, 903] ?_⟩
    simp (disch := omega) only [go_sem, seval, reduceCtorEq]
    (repeat' (first | (with_reducible refine h23_83 ?_) | refine Sni.mk (fun hc => ?_) ?_ | refine Both.mk ?_ ?_ | ((first | refine aw ?_ | refine aD ?_ | refine aX ?_ | refine cW (g37 ..) (by simp (disch := omega) only [go_sem, seval, reduceCtorEq, cells, List.length_nil]) ?_ | refine cT ?_ | refine cF ?_ | refine cR (gf ..) ?_ | refine cG (gf ..) ?_); try simp (disch := omega) only [go_sem, seval, reduceCtorEq, cells, List.length_nil]) | refine aI (fun hc => ?_) fun hc => ?_ | simp (disch := omega) only [go_sem, seval, reduceCtorEq, cells, List.length_nil] | (refine And.intro ?_ ?_; focus (first | (intros; omega) | (intros; simp_all; done))) | refine aC ?_ ?_ | refine aC' ?_ ?_ | refine aA ?_ ?_ | fail))
    all_goals first | omega | skip
    refine ⟨?_⟩
    refine AW_le (sF (fil (inR l) 0 ks) [] (fil (inR l) 2 ks) (jn [] F)) (by unfold sF; simp (disch := omega) only [go_sem, seval, reduceCtorEq, cells]) (w23f _ _ _ _ (by omega) (by simp only [List.length_nil] at hjl; omega) X v' hX hv)
  | [p], hcp, hpm, hne =>
    rw [hps] at g35
    have hp := hpm p (by simp)
    have g36 := x36 l p (hsm p hp) (hkz p hp)
    have hg0 : (cells [p]).getD 0 [] = [ncd p] := rfl
    cases hlp : lin (inR l) p with
    | none =>
      rw [hlp, RL_none] at g36
      have hR : redP (fil (inR l) 0 ks) F ([p].map fun k => (k, lin (inR l) k)) = none := by rw [List.map_cons, hlp]; rfl
      rw [hR, RNo_none]
      (repeat' (first | (with_reducible refine h23_87 ?_) | refine Sni.mk (fun hc => ?_) ?_ | refine Both.mk ?_ ?_ | ((first | refine aw ?_ | refine aD ?_ | refine aX ?_ | refine CallAt.mkG (g35 ..) (by simp (disch := omega) only [go_sem, seval, reduceCtorEq, f1]) ?_ | refine cT ?_ | refine cF ?_); try simp (disch := omega) only [go_sem, seval, reduceCtorEq, f1]) | refine aI (fun hc => ?_) fun hc => ?_ | simp (disch := omega) only [go_sem, seval, reduceCtorEq, f1] | (refine And.intro ?_ ?_; focus (first | (intros; omega) | (intros; simp_all; done))) | refine aA ?_ ?_ | fail))
      refine ⟨AW_frz [902, 903] ?_⟩
      simp (disch := omega) only [go_sem, seval, reduceCtorEq]
      (repeat' (first | refine Sni.mk (fun hc => ?_) ?_ | refine Both.mk ?_ ?_ | ((first | refine aw ?_ | refine aD ?_ | refine aX ?_ | refine cT ?_ | refine cF ?_ | refine cR (g36 ..) ?_ | refine cG (g36 ..) ?_); try simp (disch := omega) only [go_sem, seval, reduceCtorEq, hcp, hg0, List.length_cons, List.length_nil]) | refine aI (fun hc => ?_) fun hc => ?_ | simp (disch := omega) only [go_sem, seval, reduceCtorEq, hcp, hg0, List.length_cons, List.length_nil] | (refine And.intro ?_ ?_; focus (first | (intros; omega) | (intros; simp_all; done))) | refine aC ?_ ?_ | refine aC' ?_ ?_ | refine aA ?_ ?_ | fail))
      all_goals first | omega | skip
    | some m =>
      have hml := hll p m hlp
      have hmn := hln p m hlp
      have := hkz p hp
      rw [hlp, RL_some] at g36
      have hLne : jn m F ≠ [] := jn_ne F hmn
      have hjm := jn_len m F
      obtain ⟨X, v', hX, hv, hfin⟩ := fin_some (e := fil (inR l) 0 ks) hLne
      have hR : redP (fil (inR l) 0 ks) F ([p].map fun k => (k, lin (inR l) k)) = some v' := by rw [List.map_cons, hlp]; exact hfin
      rw [hR, RNo_some]
      have g37 := x37_110 (cells m) (by rw [cells_len]; omega) F
      rw [ocs_jn] at g37
      (repeat' (first | (with_reducible refine h23_87 ?_) | refine Sni.mk (fun hc => ?_) ?_ | refine Both.mk ?_ ?_ | ((first | refine aw ?_ | refine aD ?_ | refine aX ?_ | refine CallAt.mkG (g35 ..) (by simp (disch := omega) only [go_sem, seval, reduceCtorEq, f1]) ?_ | refine cT ?_ | refine cF ?_); try simp (disch := omega) only [go_sem, seval, reduceCtorEq, f1]) | refine aI (fun hc => ?_) fun hc => ?_ | simp (disch := omega) only [go_sem, seval, reduceCtorEq, f1] | (refine And.intro ?_ ?_; focus (first | (intros; omega) | (intros; simp_all; done))) | refine aA ?_ ?_ | fail))
      refine ⟨AW_frz [902, 903] ?_⟩
      simp (disch := omega) only [go_sem, seval, reduceCtorEq]
      (repeat' (first | (with_reducible refine h23_83 ?_) | refine Sni.mk (fun hc => ?_) ?_ | refine Both.mk ?_ ?_ | ((first | refine aw ?_ | refine aD ?_ | refine aX ?_ | refine cW (g37 ..) (by simp (disch := omega) only [go_sem, seval, reduceCtorEq, hcp, hg0, List.length_cons, List.length_nil]) ?_ | refine cT ?_ | refine cF ?_ | refine cR (g36 ..) ?_ | refine cG (g36 ..) ?_ | refine cR (gf ..) ?_ | refine cG (gf ..) ?_); try simp (disch := omega) only [go_sem, seval, reduceCtorEq, hcp, hg0, List.length_cons, List.length_nil]) | refine aI (fun hc => ?_) fun hc => ?_ | simp (disch := omega) only [go_sem, seval, reduceCtorEq, hcp, hg0, List.length_cons, List.length_nil] | (refine And.intro ?_ ?_; focus (first | (intros; omega) | (intros; simp_all; done))) | refine aC ?_ ?_ | refine aC' ?_ ?_ | refine aA ?_ ?_ | fail))
      all_goals first | omega | skip
      refine ⟨?_⟩
      refine AW_le (sF (fil (inR l) 0 ks) [p] (fil (inR l) 2 ks) (jn m F)) (by unfold sF; simp (disch := omega) only [go_sem, seval, reduceCtorEq]) (w23f _ _ _ _ (by omega) (by omega) X v' hX hv)
  | [p, p'], hcp, hpm, hne =>
    rw [hps] at g35
    have hp := hpm p (by simp)
    have hp' := hpm p' (by simp)
    have g36 := x36 l p (hsm p hp) (hkz p hp)
    have g36' := x36 l p' (hsm p' hp') (hkz p' hp')
    have hg0 : (cells [p, p']).getD 0 [] = [ncd p] := rfl
    have hg1 : (cells [p, p']).getD 1 [] = [ncd p'] := rfl
    cases hlp : lin (inR l) p with
    | none =>
      rw [hlp, RL_none] at g36
      have hR : redP (fil (inR l) 0 ks) F ([p, p'].map fun k => (k, lin (inR l) k)) = none := by rw [List.map_cons, hlp]; rfl
      rw [hR, RNo_none]
      clear g36'
      (repeat' (first | (with_reducible refine h23_87 ?_) | refine Sni.mk (fun hc => ?_) ?_ | refine Both.mk ?_ ?_ | ((first | refine aw ?_ | refine aD ?_ | refine aX ?_ | refine CallAt.mkG (g35 ..) (by simp (disch := omega) only [go_sem, seval, reduceCtorEq, f1]) ?_ | refine cT ?_ | refine cF ?_); try simp (disch := omega) only [go_sem, seval, reduceCtorEq, f1]) | refine aI (fun hc => ?_) fun hc => ?_ | simp (disch := omega) only [go_sem, seval, reduceCtorEq, f1] | (refine And.intro ?_ ?_; focus (first | (intros; omega) | (intros; simp_all; done))) | refine aA ?_ ?_ | fail))
      refine ⟨AW_frz [902, 903] ?_⟩
      simp (disch := omega) only [go_sem, seval, reduceCtorEq]
      (repeat' (first | refine Sni.mk (fun hc => ?_) ?_ | refine Both.mk ?_ ?_ | ((first | refine aw ?_ | refine aD ?_ | refine aX ?_ | refine cT ?_ | refine cF ?_ | refine cR (g36 ..) ?_ | refine cG (g36 ..) ?_); try simp (disch := omega) only [go_sem, seval, reduceCtorEq, hcp, hg0, List.length_cons, List.length_nil]) | refine aI (fun hc => ?_) fun hc => ?_ | simp (disch := omega) only [go_sem, seval, reduceCtorEq, hcp, hg0, List.length_cons, List.length_nil] | (refine And.intro ?_ ?_; focus (first | (intros; omega) | (intros; simp_all; done))) | refine aC ?_ ?_ | refine aC' ?_ ?_ | refine aA ?_ ?_ | fail))
      all_goals first | omega | skip
    | some m =>
      have hml := hll p m hlp
      have hmn := hln p m hlp
      have := hkz p hp
      rw [hlp, RL_some] at g36
      have hjm := jn_len m F
      have g37 := x37_110 (cells m) (by rw [cells_len]; omega) F
      rw [ocs_jn] at g37
      cases hlp' : lin (inR l) p' with
      | none =>
        rw [hlp', RL_none] at g36'
        have hR : redP (fil (inR l) 0 ks) F ([p, p'].map fun k => (k, lin (inR l) k)) = none := by rw [List.map_cons, List.map_cons, hlp, hlp']; rfl
        rw [hR, RNo_none]
        (repeat' (first | (with_reducible refine h23_87 ?_) | refine Sni.mk (fun hc => ?_) ?_ | refine Both.mk ?_ ?_ | ((first | refine aw ?_ | refine aD ?_ | refine aX ?_ | refine CallAt.mkG (g35 ..) (by simp (disch := omega) only [go_sem, seval, reduceCtorEq, f1]) ?_ | refine cT ?_ | refine cF ?_); try simp (disch := omega) only [go_sem, seval, reduceCtorEq, f1]) | refine aI (fun hc => ?_) fun hc => ?_ | simp (disch := omega) only [go_sem, seval, reduceCtorEq, f1] | (refine And.intro ?_ ?_; focus (first | (intros; omega) | (intros; simp_all; done))) | refine aA ?_ ?_ | fail))
        refine ⟨AW_frz [902, 903] ?_⟩
        simp (disch := omega) only [go_sem, seval, reduceCtorEq]
        (repeat' (first | refine Sni.mk (fun hc => ?_) ?_ | refine Both.mk ?_ ?_ | ((first | refine aw ?_ | refine aD ?_ | refine aX ?_ | refine cW (g37 ..) (by simp (disch := omega) only [go_sem, seval, reduceCtorEq, hcp, hg0, hg1, List.length_cons, List.length_nil]) ?_ | refine cT ?_ | refine cF ?_ | refine cR (g36 ..) ?_ | refine cG (g36 ..) ?_ | refine cR (g36' ..) ?_ | refine cG (g36' ..) ?_ | refine cR (gf ..) ?_ | refine cG (gf ..) ?_); try simp (disch := omega) only [go_sem, seval, reduceCtorEq, hcp, hg0, hg1, List.length_cons, List.length_nil]) | refine aI (fun hc => ?_) fun hc => ?_ | simp (disch := omega) only [go_sem, seval, reduceCtorEq, hcp, hg0, hg1, List.length_cons, List.length_nil] | (refine And.intro ?_ ?_; focus (first | (intros; omega) | (intros; simp_all; done))) | refine aC ?_ ?_ | refine aC' ?_ ?_ | refine aA ?_ ?_ | fail))
        all_goals first | omega | skip
      | some m' =>
        have hml' := hll p' m' hlp'
        have hmn' := hln p' m' hlp'
        have := hkz p' hp'
        rw [hlp', RL_some] at g36'
        have hLne : jn m F ++ m'.reverse ≠ [] := by simp [hmn']
        obtain ⟨X, v', hX, hv, hfin⟩ := fin_some (e := fil (inR l) 0 ks) hLne
        have hR : redP (fil (inR l) 0 ks) F ([p, p'].map fun k => (k, lin (inR l) k)) = some v' := by rw [List.map_cons, List.map_cons, hlp, hlp']; exact hfin
        rw [hR, RNo_some]
        have g38 := x38 m' (by omega) hmn'
        have hca : cells (jn m F) ++ cells m'.reverse = cells (jn m F ++ m'.reverse) := (cells_app _ _).symm
        have hl1 := cells_len (jn m F)
        have hl2 := cells_len m'.reverse
        rw [List.length_reverse] at hl2
        (repeat' (first | (with_reducible refine h23_87 ?_) | refine Sni.mk (fun hc => ?_) ?_ | refine Both.mk ?_ ?_ | ((first | refine aw ?_ | refine aD ?_ | refine aX ?_ | refine CallAt.mkG (g35 ..) (by simp (disch := omega) only [go_sem, seval, reduceCtorEq, f1]) ?_ | refine cT ?_ | refine cF ?_); try simp (disch := omega) only [go_sem, seval, reduceCtorEq, f1]) | refine aI (fun hc => ?_) fun hc => ?_ | simp (disch := omega) only [go_sem, seval, reduceCtorEq, f1] | (refine And.intro ?_ ?_; focus (first | (intros; omega) | (intros; simp_all; done))) | refine aA ?_ ?_ | fail))
        refine ⟨AW_frz [902, 903] ?_⟩
        simp (disch := omega) only [go_sem, seval, reduceCtorEq]
        (repeat' (first | (with_reducible refine h23_77 ?_) | refine Sni.mk (fun hc => ?_) ?_ | refine Both.mk ?_ ?_ | ((first | refine aw ?_ | refine aD ?_ | refine aX ?_ | refine cW (g37 ..) (by simp (disch := omega) only [go_sem, seval, reduceCtorEq, hcp, hg0, hg1, List.length_cons, List.length_nil]) ?_ | refine cT ?_ | refine cF ?_ | refine cR (g36 ..) ?_ | refine cG (g36 ..) ?_ | refine cR (g36' ..) ?_ | refine cG (g36' ..) ?_ | refine cR (gf ..) ?_ | refine cG (gf ..) ?_); try simp (disch := omega) only [go_sem, seval, reduceCtorEq, hcp, hg0, hg1, List.length_cons, List.length_nil]) | refine aI (fun hc => ?_) fun hc => ?_ | simp (disch := omega) only [go_sem, seval, reduceCtorEq, hcp, hg0, hg1, List.length_cons, List.length_nil] | (refine And.intro ?_ ?_; focus (first | (intros; omega) | (intros; simp_all; done))) | refine aC ?_ ?_ | refine aC' ?_ ?_ | refine aA ?_ ?_ | fail))
        all_goals first | omega | skip
        refine ⟨AW_frz [122] ?_⟩
        simp (disch := omega) only [go_sem, seval, reduceCtorEq]
        (repeat' (first | (with_reducible refine h23_83 ?_) | refine Sni.mk (fun hc => ?_) ?_ | refine Both.mk ?_ ?_ | ((first | refine aw ?_ | refine aD ?_ | refine aX ?_ | refine cT ?_ | refine cF ?_ | refine cR (g38 ..) ?_ | refine cG (g38 ..) ?_); try simp (disch := omega) only [go_sem, seval, reduceCtorEq, hl1, hl2, hca, maxLen]) | refine aI (fun hc => ?_) fun hc => ?_ | simp (disch := omega) only [go_sem, seval, reduceCtorEq, hl1, hl2, hca, maxLen] | (refine And.intro ?_ ?_; focus (first | (intros; omega) | (intros; simp_all; done))) | refine aC ?_ ?_ | refine aC' ?_ ?_ | refine aA ?_ ?_ | fail))
        all_goals first | omega | skip
        refine ⟨?_⟩
        refine AW_le (sF (fil (inR l) 0 ks) [p, p'] (fil (inR l) 2 ks) (jn m F ++ m'.reverse)) (by unfold sF; simp (disch := omega) only [go_sem, seval, reduceCtorEq]) (w23f _ _ _ _ (by omega) (by simp only [List.length_append, List.length_reverse]; omega) X v' hX hv)
  | p :: p' :: p2 :: r, hcp, hpm, hne =>
    rw [hps] at g35
    have hR : redP (fil (inR l) 0 ks) F ((p :: p' :: p2 :: r).map fun k => (k, lin (inR l) k)) = none := rfl
    rw [hR, RNo_none]
    have hl3 : (cells (p :: p' :: p2 :: r)).length = r.length + 3 := hcp
    have b0 : (((r.length + 3 : Nat) : Int) = 0) = False := eq_false (by omega)
    have b1 : (((r.length + 3 : Nat) : Int) = 1) = False := eq_false (by omega)
    have b2 : (((r.length + 3 : Nat) : Int) = 2) = False := eq_false (by omega)
    (repeat' (first | (with_reducible refine h23_87 ?_) | refine Sni.mk (fun hc => ?_) ?_ | refine Both.mk ?_ ?_ | ((first | refine aw ?_ | refine aD ?_ | refine aX ?_ | refine CallAt.mkG (g35 ..) (by simp (disch := omega) only [go_sem, seval, reduceCtorEq, f1]) ?_ | refine cT ?_ | refine cF ?_); try simp (disch := omega) only [go_sem, seval, reduceCtorEq, f1]) | refine aI (fun hc => ?_) fun hc => ?_ | simp (disch := omega) only [go_sem, seval, reduceCtorEq, f1] | (refine And.intro ?_ ?_; focus (first | (intros; omega) | (intros; simp_all; done))) | refine aA ?_ ?_ | fail))
    refine ⟨AW_frz [902, 903] ?_⟩
    simp (disch := omega) only [go_sem, seval, reduceCtorEq]
    (repeat' (first | refine Sni.mk (fun hc => ?_) ?_ | refine Both.mk ?_ ?_ | ((first | refine aw ?_ | refine aD ?_ | refine aX ?_ | refine cT ?_ | refine cF ?_); try simp (disch := omega) only [go_sem, seval, reduceCtorEq, hl3, b0, b1, b2]) | refine aI (fun hc => ?_) fun hc => ?_ | simp (disch := omega) only [go_sem, seval, reduceCtorEq, hl3, b0, b1, b2] | (refine And.intro ?_ ?_; focus (first | (intros; omega) | (intros; simp_all; done))) | refine aA ?_ ?_ | fail))
    all_goals first | omega | skip
end Go.Proofs.Ytcimlelkeppoiaa

open Go Go.AL Go.RowKit
namespace Go.Proofs.Ytcimlelkeppoiaa
set_option maxRecDepth 20000
theorem h23_27 {Q : Exit → St → Prop} {σ : St} (h : Hold (AW Try.prog c23_27 Q σ)) : AW Try.prog c23_27 Q σ := h.out
theorem wiA_ne {r : Nat → Bool} {f last : Nat} : ∀ (zs : List Z) (i : Nat) (acc out : List N), wiA r f last i acc zs = some out → (acc ≠ [] ∨ (zs ≠ [] ∧ ∀ z ∈ zs, ∀ m, z.2 = some m → m ≠ [])) → out ≠ []
  | [], i, acc, out, h, h1 => by
    simp only [wiA, Option.some.injEq] at h; subst h
    rcases h1 with h1 | h1
    · exact h1
    · exact absurd rfl h1.1
  | (k, o) :: zs, i, acc, out, h, h1 => by
    simp only [wiA] at h
    split at h
    · cases h
    · split at h
      · cases h
      · rename_i m hm
        refine wiA_ne zs _ _ out h (.inl ?_)
        rcases h1 with h1 | h1
        · simp [h1]
        · have hmn : m ≠ [] := by
            split at hm
            · exact h1.2 (k, o) (by simp) m hm
            · simp only [Option.some.injEq] at hm; subst hm; simp
          split <;> simp [hmn]
theorem st_ne0 {r : Nat → Bool} {l : Nat} {q : Bool} {ks : List N} (h0 : ks ≠ []) (h : st r (.nd l q ks) ≠ 0) : ∃ j, j < ks.length ∧ st r (nth ks j) ≠ 0 := by
  refine Classical.byContradiction fun hno => h ?_
  have hall : ∀ k ∈ ks, st r k = 0 := fun k hk => by
    obtain ⟨j, hj, rfl⟩ := List.getElem_of_mem hk
    rw [← nth_eq ks j hj]
    exact Classical.byContradiction fun hne => hno ⟨j, hj, hne⟩
  rw [st_nd]
  cases ks with
  | nil => exact absurd rfl h0
  | cons k ks =>
    simp only [List.map_cons, stK]
    rw [hall k (by simp), if_pos]
    rw [List.all_eq_true]
    intro t ht
    obtain ⟨k', hk', rfl⟩ := List.mem_map.1 ht
    rw [hall k' (by simp [hk'])]; rfl
theorem getD_map_red {r : Nat → Bool} {ks : List N} {t : Nat} (h : t < ks.length) : (ks.map (red r)).getD t none = red r (nth ks t) := by
  rw [List.getD_eq_getElem?_getD, List.getElem?_map, List.getElem?_eq_getElem h, nth_eq ks t h]; rfl
set_option maxHeartbeats 4000000 in
theorem f23 (l : List Nat) (n : Nat) (q : Bool) (ks : List N) (hs : Sm (.nd n q ks)) (hst : st (inR l) (.nd n q ks) ≠ 2) (h0 : ks ≠ []) (rs : List RV)
    (h : AW Try.prog c23_90 (retQ [4, 5] rs) (s23 l n q ks (lzI (inR l) ks ks.length) (cz (inR l) ks ks.length : Nat))) : FnR Try.prog 23 [.c (RM l), .c (ncd (.nd n q ks))] rs := by
  have hsm : ∀ k ∈ ks, Sm k := by cases hs with | nd _ _ h => exact h
  have hks : ks.length ≤ 100 := by cases hs with | nd _ h _ => exact h
  have g32 := x32 l _ hs
  have hkc : kcd (cells ks) = .sl 1 (cells ks) := by cases ks with | nil => exact absurd rfl h0 | cons a r => rfl
  have hnc : ncd (.nd n q ks) = .dp [.I (n : Int), .B q, .sl 1 (cells ks)] := by unfold ncd; rw [hkc]
  have f1 : (((st (inR l) (.nd n q ks) : Nat) : Int) = 2) = False := eq_false (by omega)
  generalize st (inR l) (.nd n q ks) = s at *
  rw [hnc] at g32 ⊢
  have zz := z23 l n q ks hks hsm
  refine fn_walk code23 (by simp) ?_
  (repeat' (first | (with_reducible refine h23_27 ?_) | refine Sni.mk (fun hc => ?_) ?_ | refine Both.mk ?_ ?_ | ((first | refine aw ?_ | refine aD ?_ | refine aX ?_ | refine cT ?_ | refine cF ?_ | refine cR (g32 ..) ?_ | refine cG (g32 ..) ?_); try simp (disch := omega) only [go_sem, seval, reduceCtorEq, f1]) | refine aI (fun hc => ?_) fun hc => ?_ | simp (disch := omega) only [go_sem, seval, reduceCtorEq, f1] | (refine And.intro ?_ ?_; focus (first | (intros; omega) | (intros; simp_all; done))) | refine aC ?_ ?_ | refine aC' ?_ ?_ | refine aA ?_ ?_ | fail))
  refine ⟨AW_cut _ _ zz (by unfold s23; simp (disch := omega) only [go_sem, seval, reduceCtorEq]) h⟩
theorem x23 (l : List Nat) : ∀ v, Sm v → sz v ≤ 100 → st (inR l) v ≠ 0 → OkR l v := by
  refine N.ind fun n q ks ih => ?_
  intro hs hz hst0
  have hsm : ∀ k ∈ ks, Sm k := by cases hs with | nd _ _ h => exact h
  have hks : ks.length ≤ 100 := by cases hs with | nd _ h _ => exact h
  have hz' : szs ks ≤ 99 := by rw [sz_nd] at hz; omega
  by_cases h2 : st (inR l) (.nd n q ks) = 2
  · have hr : red (inR l) (.nd n q ks) = some (.nd n q ks) := by rw [red_nd]; unfold redK; rw [if_pos h2]
    refine ⟨fun v' hv' => ?_, fun hn => by rw [hr] at hn; cases hn⟩
    rw [hr] at hv'; cases hv'
    have g32 := x32 l _ hs
    rw [h2] at g32
    generalize ncd (.nd n q ks) = d at *
    have g : FnR Try.prog 32 [.c (RM l), .c d] [.c (.I 2)] := g32
    refine fn_walk code23 (by simp) ?_
    (repeat' (first | refine Sni.mk (fun hc => ?_) ?_ | refine Both.mk ?_ ?_ | ((first | refine aw ?_ | refine aD ?_ | refine aX ?_ | refine cT ?_ | refine cF ?_ | refine cR (g ..) ?_ | refine cG (g ..) ?_); try simp (disch := omega) only [go_sem, seval, reduceCtorEq]) | refine aI (fun hc => ?_) fun hc => ?_ | simp (disch := omega) only [go_sem, seval, reduceCtorEq] | (refine And.intro ?_ ?_; focus (first | (intros; omega) | (intros; simp_all; done))) | refine aC ?_ ?_ | refine aC' ?_ ?_ | refine aA ?_ ?_ | fail))
  · have h0 : ks ≠ [] := fun e => by
      subst e
      rw [st_nd] at h2 hst0
      simp only [List.map_nil, stK] at h2 hst0
      split at h2
      · exact h2 rfl
      · rename_i hh; rw [if_neg hh] at hst0; exact hst0 rfl
    obtain ⟨j, hj, hjs⟩ := st_ne0 h0 hst0
    have hcp := cz_pos (r := inR l) (ks := ks) hj hjs
    obtain ⟨t1, t2⟩ := lz_ok hcp
    have hlz : lzI (inR l) ks ks.length = (lz (inR l) ks ks.length : Nat) := by unfold lzI; rw [if_neg (by omega)]
    have F := fun rs h => f23 l n q ks hs h2 h0 rs h
    rw [hlz] at F
    have hrd : red (inR l) (.nd n q ks) = redK (inR l) n q ks (ks.map (red (inR l))) := red_nd ..
    unfold redK at hrd
    rw [if_neg h2] at hrd
    by_cases hc1 : cz (inR l) ks ks.length = 1
    · rw [if_pos hc1, getD_map_red t1] at hrd
      have hm : nth ks (lz (inR l) ks ks.length) ∈ ks := by rw [nth_eq ks _ t1]; exact List.getElem_mem t1
      obtain ⟨k1, k2⟩ := ih _ hm (hsm _ hm) (by have := szs_mem hm; omega) t2
      rw [hc1] at F
      cases hrk : red (inR l) (nth ks (lz (inR l) ks ks.length)) with
      | some k' =>
        rw [hrk] at hrd
        refine ⟨fun v' hv' => ?_, fun hn => by rw [hrd] at hn; cases hn⟩
        rw [hrd] at hv'
        simp only [Option.map_some, Option.some.injEq] at hv'
        subst hv'
        have := F _ (w23a l n q ks hks _ t1 _ _ (k1 k' hrk))
        rw [cells_set] at this
        have hkc : ncd (.nd 0 q (ks.set (lz (inR l) ks ks.length) k')) = .dp [.I 0, .B q, .sl 1 (cells (ks.set (lz (inR l) ks ks.length) k'))] := by
          have : ks.set (lz (inR l) ks ks.length) k' ≠ [] := fun e => by
            have := congrArg List.length e; simp at this; exact h0 this
          unfold ncd
          generalize ks.set (lz (inR l) ks ks.length) k' = ks' at *
          cases ks' with
          | nil => exact absurd rfl this
          | cons a b => rfl
        rw [hkc]; exact this
      | none =>
        rw [hrk] at hrd
        refine ⟨fun v' hv' => (by rw [hrd] at hv'; cases hv'), fun _ => ?_⟩
        obtain ⟨d, hd⟩ := k2 hrk
        exact ⟨_, F _ (w23a l n q ks hks _ t1 _ _ hd)⟩
    · rw [if_neg hc1] at hrd
      cases q with
      | true =>
        simp only [cond_true] at hrd
        obtain ⟨q1, q2, q3⟩ := fz_ok (r := inR l) t1 t2
        have W := F _ (w23b l n ks hs hz' (fz (inR l) ks) (lz (inR l) ks ks.length) (by omega) q3 q2 q1 t1 _ hc1)
        cases hw : wiA (inR l) (fz (inR l) ks) (lz (inR l) ks ks.length) 0 [] (ks.map fun k => (k, lin (inR l) k)) with
        | none =>
          rw [hw] at hrd W
          refine ⟨fun v' hv' => (by rw [hrd] at hv'; cases hv'), fun _ => ⟨_, W⟩⟩
        | some out =>
          rw [hw] at hrd W
          have hne := wiA_ne _ _ _ _ hw (.inr ⟨by simpa using h0, fun z hz m hm => by
            obtain ⟨k, hk, rfl⟩ := List.mem_map.1 hz
            exact lin_ne (inR l) k m hm⟩)
          obtain ⟨X, _, hX, _, _⟩ := fin_some (e := []) hne
          rw [RW_some, hX] at W
          refine ⟨fun v' hv' => ?_, fun hn => by rw [hrd] at hn; simp [hX] at hn⟩
          rw [hrd] at hv'
          simp only [Option.bind_some, hX, Option.some.injEq] at hv'
          subst hv'
          exact W
      | false =>
        simp only [cond_false] at hrd
        have W := F _ (w23c l n ks hs hz' _ _ (by omega) h0 (cz_all hcp))
        cases hw : redP (fil (inR l) 0 ks) (grp (fil (inR l) 2 ks)) ((fil (inR l) 1 ks).map fun k => (k, lin (inR l) k)) with
        | none =>
          rw [hw] at hrd W
          exact ⟨fun v' hv' => (by rw [hrd] at hv'; cases hv'), fun _ => ⟨_, W⟩⟩
        | some v'' =>
          rw [hw] at hrd W
          refine ⟨fun v' hv' => ?_, fun hn => by rw [hrd] at hn; cases hn⟩
          rw [hrd] at hv'; cases hv'
          exact W
end Go.Proofs.Ytcimlelkeppoiaa

