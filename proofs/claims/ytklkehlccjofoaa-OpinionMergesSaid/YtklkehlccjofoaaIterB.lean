/-
  Lemmas for the proof: no statement of its own.
-/
import Derived.Test.YtklkehlccjofoaaIterA
import Derived.Test.YtklkehlccjofoaaAlD
import Derived.Shelf.SlIterI.Nil
set_option linter.unusedVariables false
set_option linter.unusedSimpArgs false
namespace Go.AL
open Go Go.RowKit Go.Maps Go.Sort Go.Shelf Go.Proofs
open Go.WideElems (Fit rd rg)

theorem insert_perm {H : Type} (x : Lit × DataW H) : ∀ l : List (Lit × DataW H), (DataW.insert x l).Perm (x :: l)
  | [] => List.Perm.refl _
  | y :: r => by
    unfold DataW.insert
    split
    · exact List.Perm.refl _
    · exact ((insert_perm x r).cons y).trans (List.Perm.swap x y r)
theorem foldr_insert_perm {H : Type} : ∀ l : List (Lit × DataW H), (l.foldr DataW.insert []).Perm l
  | [] => List.Perm.refl _
  | x :: r => (insert_perm x _).trans ((foldr_insert_perm r).cons x)
/-- the keys of a map of ints -/
def keysI (es : List (List Int × Sum CD (List CD))) : List Int := es.map fun e => e.1.headD 0
theorem wf_i64 {n : Int} (h : IntKind.min .i64 ≤ n ∧ n ≤ IntKind.max .i64) : (Lit.int .i64 n).wf = true := by
  have := h.1; have := h.2
  simp [IntKind.min, IntKind.max, IntKind.signed, IntKind.bits] at *
  simp [Lit.wf, IntKind.min, IntKind.max, IntKind.signed, IntKind.bits]
  omega
def anyR (_ : Value) : Option (DataW Unit × List MemPlace) := some (.lit (.bool true), [])
theorem owns_of {P : Program} {kt : TypeId} (hk : P.underlying kt = some (.int .i64)) {w : World} {S : Nat → Prop} {b clock : Nat} {ents : Array MapEntry} {es : List (List Int × Sum CD (List CD))} (hb : w.heap[b]? = some (.map ents clock)) (hst : stampsOk ents clock) (hm : MapR w S (.one .i64) es ents.toList) (hnd : (es.map Prod.fst).Nodup) (hl : es.length ≤ maxLen) :
    ∃ D0 : DataW Unit, w.ownsMap P kt anyR b ents.size D0 ∧ (intKeys D0).Perm (keysI es) ∧ Maps.size D0 = es.length := by
  obtain ⟨h1, h2⟩ := hm.get
  have hsz : ents.size = es.length := by simpa using h1
  have hkey : ∀ x ∈ ents.toList, ∃ n : Int, x.key = .int .i64 n ∧ (Lit.int .i64 n).wf = true := fun x hx => by
    obtain ⟨i, hi⟩ := List.getElem?_of_mem hx
    have hil : i < es.length := by rw [← h1]; exact (List.getElem?_eq_some_iff.1 hi).1
    obtain ⟨k1, k2, _⟩ := h2 i es[i].1 es[i].2 x (List.getElem?_eq_getElem hil) hi
    exact ⟨_, k1, wf_i64 k2.2⟩
  have hrd : ∀ x ∈ ents.toList, ∀ n : Int, x.key = .int .i64 n → (Lit.int .i64 n).wf = true → rd P kt anyR x = some (.int .i64 n, .lit (.bool true)) := fun x hx n hn hw => by
    simp [rd, hn, Go.keyOf, hk, mapKey, hw, anyR]
  have hkk : ents.toList.map (·.key) = es.map fun e => keyV (.one .i64) e.1 := by
    apply List.ext_getElem?
    intro i
    simp only [List.getElem?_map]
    rcases Nat.lt_or_ge i es.length with hil | hil
    · have hil' : i < ents.toList.length := by omega
      obtain ⟨k1, _, _⟩ := h2 i es[i].1 es[i].2 ents.toList[i] (List.getElem?_eq_getElem hil) (List.getElem?_eq_getElem hil')
      rw [List.getElem?_eq_getElem hil, List.getElem?_eq_getElem hil']
      simp only [Option.map_some]
      rw [k1]
    · rw [List.getElem?_eq_none hil, List.getElem?_eq_none (by omega)]; rfl
  have hok : ∀ e ∈ es, keyOk (.one .i64) e.1 := fun e he => by
    obtain ⟨i, hi⟩ := List.getElem?_of_mem he
    have hil' : i < ents.toList.length := by rw [h1]; exact (List.getElem?_eq_some_iff.1 hi).1
    exact (h2 i e.1 e.2 _ hi (List.getElem?_eq_getElem hil')).2.1
  have hkn : (ents.toList.map (·.key)).Nodup := by
    rw [hkk, List.nodup_iff_pairwise_ne, List.pairwise_map]
    rw [List.nodup_iff_pairwise_ne, List.pairwise_map] at hnd
    refine hnd.imp_of_mem fun {a c} ha hc hne e => hne ?_
    have := hok a ha
    have := hok c hc
    simp only [keyV, Value.int.injEq, true_and] at e
    exact (keyV_one (hok a ha) (hok c hc)).1 e
  refine ⟨.map ((ents.toList.map (rg P kt anyR)).foldr DataW.insert []), ⟨ents, clock, hb, ⟨by omega, ⟨hst.2, hst.1, hkn⟩, fun x hx => ?_⟩, Nat.le_refl _, rfl⟩, ?_, ?_⟩
  · obtain ⟨n, hn, hw⟩ := hkey x hx
    exact ⟨_, hrd x hx n hn hw⟩
  · have hp := foldr_insert_perm (ents.toList.map (rg P kt anyR))
    refine (hp.map fun p => intOf p.1).trans ?_
    have e : (ents.toList.map (rg P kt anyR)).map (fun p => intOf p.1) = keysI es := by
      unfold keysI
      apply List.ext_getElem?
      intro i
      simp only [List.getElem?_map]
      rcases Nat.lt_or_ge i es.length with hil | hil
      · have hil' : i < ents.toList.length := by omega
        obtain ⟨k1, k2, _⟩ := h2 i es[i].1 es[i].2 ents.toList[i] (List.getElem?_eq_getElem hil) (List.getElem?_eq_getElem hil')
        rw [List.getElem?_eq_getElem hil, List.getElem?_eq_getElem hil']
        simp only [Option.map_some]
        have := hrd ents.toList[i] (List.getElem_mem _) _ k1 (wf_i64 k2.2)
        unfold rg
        rw [this]
        rfl
      · rw [List.getElem?_eq_none hil, List.getElem?_eq_none (by omega)]; rfl
    rw [e]
  · have hp := (foldr_insert_perm (ents.toList.map (rg P kt anyR))).length_eq
    show List.length _ = _
    rw [hp]; simp [hsz]

/-- slices.Sorted(maps.Keys(m)), behind the call of maps.Keys -/
theorem FnW_keys {P : Program} {ρ : Ren} (q : Nat) (L : SlLaysZI.n6 P ρ) (hcb : callB P (ρ.f 6) = true) (hsort : AnyZI.SortsIn P ρ Fence.wide 4) (e9 : ∀ args w, (callFunc (ρ.f 9) args).run P w = .ok (.enter (ρ.f 9) args) w) (g : Nat) (eg : ∀ args w, (callFunc g args).run P w = .ok (.enter g args) w)
    {kt : TypeId} (hk : P.underlying kt = some (.int .i64)) (t : Nat) (es : List (List Int × Sum CD (List CD))) (hnd : (es.map Prod.fst).Nodup) (hl : es.length ≤ 1000000)
    (hit : ∀ (w : World) (Bm b nn : Nat) (D0 : DataW Unit), Bm < w.heap.size → w.cell? ⟨Bm, 0, none⟩ = some (.map (some b)) → w.ownsMap P kt anyR b nn D0 → SeqGives Fence.wide 2 P g #[.pointer (some ⟨Bm, 0, none⟩)] encZ (fun ss => ss.Perm (intKeys D0)) (Maps.size D0) w) :
    FnW P (ρ.f 6) [.fn g [.ptr q 0]] [(q, .box t [.c (.mp (.one .i64) es)])] [.c (.sl 1 (iRow ((keysI es).mergeSort fun x y => decide (x ≤ y))))] [] [] := by
  refine ⟨hcb, fun w S φ vs hS hlen hargs hobs => ?_⟩
  obtain ⟨v0, rfl⟩ : ∃ v0, vs = [v0] := by
    cases vs with
    | nil => simp at hlen
    | cons v us => cases us with
      | nil => exact ⟨v, rfl⟩
      | cons => simp at hlen
  have h := hargs 0 _ v0 rfl rfl
  have hget : obGet q [(q, AO.box t [.c (.mp (.one .i64) es)])] = some (AO.box t [.c (.mp (.one .i64) es)]) := by simp [obGet]
  have h2 := hobs.obs q _ hget
  cases h with
  | @fn _ _ vs2 hl2 hr =>
  obtain ⟨p, rfl⟩ : ∃ p, vs2 = [p] := by
    cases vs2 with
    | nil => simp at hl2
    | cons v us => cases us with
      | nil => exact ⟨v, rfl⟩
      | cons => simp at hl2
  have hp := hr 0 _ p rfl rfl
  cases hp with
  | @ptr _ b0 _ hφ =>
  rw [hφ] at h2
  cases h2 with
  | @box _ _ _ cur hb0 hs0 hcells h1 =>
  have hcur : cur.size = 1 := hs0
  obtain ⟨u, hu⟩ : ∃ u, cur[0]? = some u := ⟨_, Array.getElem?_eq_getElem (by omega)⟩
  have hcl := hcells 0 _ u rfl hu
  cases hcl with
  | c hcl =>
  obtain ⟨b, ents, clock, rfl, hb, hSb, hst, hm⟩ := hcl.map_inv
  have hml : es.length ≤ maxLen := by unfold maxLen; omega
  obtain ⟨D0, hown, hperm, hsz⟩ := owns_of hk hb hst hm hnd hml
  have hb0l : b0 < w.heap.size := (Array.getElem?_eq_some_iff.1 hb0).1
  have hcell : w.cell? ⟨b0, 0, none⟩ = some (.map (some b)) := by rw [cell_of_row w b0 _ cur t (0, 0) hb0]; exact hu
  have hseq := hit w b0 b ents.size D0 hb0l hcell hown
  have hcall := AnyZI.sorted_in L Fence.wide 5 trivial trivial trivial trivial rfl (by omega) hsort e9 g #[.pointer (some ⟨b0, 0, none⟩)] trivial eg _ _ (by rw [hsz]; exact hml) (by rw [hsz]; omega) w hseq
  refine (callsIn_wide.1 hcall).mono ?_
  rintro e w' ⟨v, ss, rfl, hss, hrow, hnil, hbel⟩
  have hssp : ss.Perm (keysI es) := hss.trans hperm
  rw [show (ss.mergeSort fun x y => decide (x ≤ y)) = (keysI es).mergeSort fun x y => decide (x ≤ y) from mergeSort_of_perm_i hssp] at hrow
  have hsl : ss.length = es.length := by rw [hssp.length_eq]; simp [keysI]
  generalize hmm : ((keysI es).mergeSort fun x y => decide (x ≤ y)) = m at hrow
  have hpm := List.mergeSort_perm (keysI es) fun x y => decide (x ≤ y)
  rw [hmm] at hpm
  have hmin : ∀ x ∈ m, inK .i64 x := fun x hx => by
    have hx' := hpm.mem_iff.1 hx
    obtain ⟨qq, hq, rfl⟩ := List.mem_map.1 hx'
    obtain ⟨i, hi⟩ := List.getElem?_of_mem hq
    obtain ⟨g1, g2⟩ := hm.get
    have hil' : i < ents.toList.length := by rw [g1]; exact (List.getElem?_eq_some_iff.1 hi).1
    exact (g2 i qq.1 qq.2 _ hi (List.getElem?_eq_getElem hil')).2.1.2
  have hmlen : m.length = ss.length := by rw [hpm.length_eq, hssp.length_eq]
  have hblk : ∀ b, Value.blk v = some b → w.heap.size ≤ b ∧ b < w'.heap.size := fun b hbv => by
    rcases hrow.2 with ⟨rfl, _⟩ | ⟨gb, cap, cur, rfl, h1, h2, _⟩
    · cases hbv
    · cases hbv
      exact ⟨h1, (Array.getElem?_eq_some_iff.1 h2).1⟩
  refine ⟨[v], fun b => S b ∨ Value.blk v = some b, φ, rfl, ⟨fun b h => .inl h, fun b h => h.imp_right fun h => .inl (hblk b h).1, fun b h => ?_, rfl, fun i r u hr hu => ?_, fun i e k xs u b hr hu hbv => ?_, fun i j e k xs e' k' xs' u u' b hr => ?_⟩, (Ext.of_below hbel _).mono (fun _ _ => trivial), ⟨fun id o h => by simp [obGet] at h, fun id o b h => by simp [obGet] at h, fun id id' o o' b h => by simp [obGet] at h⟩, fun i e k xs v b id o h => ?_, fun id h => by simp [inL] at h, fun id _ => rfl⟩
  · rcases h with h | h
    · exact Nat.lt_of_lt_of_le (hS b h) hbel.size
    · exact (hblk b h).2
  · cases i with
    | succ i => simp at hr
    | zero =>
      simp at hr hu
      subst hr; subst hu
      show Rd w' _ _ v
      rcases hrow.2 with ⟨rfl, h0⟩ | ⟨gb, cap, cur, rfl, h1, h2, h3, h4, h5, h6⟩
      · have : m = [] := List.eq_nil_of_length_eq_zero (by omega)
        subst this
        exact .sl0 (Nat.zero_le _) fun _ => rfl
      · have hcur : ∀ i, i < m.length → cur[i]? = some (.int .i64 (nth m i)) := fun i hi => by
          have h := congrArg (fun z => z[i]?) h6
          simp only [List.getElem?_map] at h
          rw [List.getElem?_take_of_lt (by omega), Array.getElem?_toList, List.getElem?_eq_getElem hi] at h
          rw [h, nth_eq m i hi]; rfl
        rw [← hmlen]
        have hlm : (iRow m).length = m.length := by simp
        rw [← hlm]
        refine .sl (fun i _ => .int .i64 (nth m i)) (by rw [hlm]; omega) h4 (.inr rfl) (fun x hx => ?_) (fun i j hi hj => ?_) (fun i j x d hx hd => ?_)
        · simp only [List.mem_map] at hx
          obtain ⟨_, _, rfl⟩ := hx; rfl
        · obtain rfl : j = 0 := by omega
          rw [hlm] at hi
          have := hcur i hi
          simp [World.cell?, Addr.add, h2]
          by_cases h0 : i = 0
          · subst h0; simpa [h2] using this
          · simpa [h0, h2] using this
        · simp only [List.getElem?_map, Option.map_eq_some_iff] at hx
          obtain ⟨y, hy, rfl⟩ := hx
          obtain ⟨hil, e⟩ := List.getElem?_eq_some_iff.1 hy
          cases j with
          | succ j => simp at hd
          | zero =>
            simp only [List.getElem?_cons_zero, Option.some.injEq] at hd
            subst hd
            rw [nth_eq m i hil, e]
            exact .sc (hmin y (List.mem_of_getElem? hy))
  · cases i <;> simp at hr
  · cases i <;> simp at hr
  · cases i <;> simp at h
/-- maps.Keys: a closure over a box with the map -/
theorem FnV_keys {P : Program} {f g t : Nat} (hcb : callB P f = true) (kk : KK) (es : List (List Int × Sum CD (List CD))) (h : ∀ (mb : Option Nat) (w : World), CallsIn Fence.wide 5 P f #[.map mb] w fun e w' => e = .returned (.func (.func g) #[] #[.pointer (some ⟨w.heap.size, 0, none⟩)]) ∧ w' = w.alloc (.cells #[.map mb] t)) : FnV P f [.c (.mp kk es)] g t [.mp kk es] := by
  refine ⟨hcb, fun w S φ vs hS hlen hargs => ?_⟩
  obtain ⟨v0, rfl⟩ : ∃ v0, vs = [v0] := by
    cases vs with
    | nil => simp at hlen
    | cons v us => cases us with
      | nil => exact ⟨v, rfl⟩
      | cons => simp at hlen
  have h1 := hargs 0 _ v0 rfl rfl
  cases h1 with
  | c h1 =>
  obtain ⟨b, ents, clock, rfl, _⟩ := h1.map_inv
  refine (callsIn_wide.1 (h (some b) w)).mono ?_
  rintro e w' ⟨rfl, rfl⟩
  refine ⟨[.map (some b)], rfl, rfl, rfl, fun j d u hd hu => ?_⟩
  cases j with
  | zero => simp at hd hu; subst hd; subst hu; exact h1
  | succ j => simp at hd
theorem one_mp (kk : KK) (es : List (List Int × Sum CD (List CD))) (w : World) (S : Nat → Prop) (d : CD) (v : Value) (hd : d ∈ [CD.mp kk es]) (h : Rd w S d v) : v.oneCell' = true := by
  simp at hd; subst hd
  obtain ⟨b, _, _, rfl, _⟩ := h.map_inv
  rfl
end Go.AL

