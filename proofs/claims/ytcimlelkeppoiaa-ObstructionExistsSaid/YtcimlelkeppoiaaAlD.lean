/-
  Lemmas for the proof: no statement of its own.
-/
import Derived.Test.YtcimlelkeppoiaaAlC
import Derived.ProofKit
import Derived.OpenShut
import Derived.Sort.Row
import Derived.Sort.Grow
set_option linter.unusedVariables false
set_option linter.unusedSimpArgs false
namespace Go.AL
open Go Go.RowKit
def RV.froze : RV → RV
  | .own _ k xs => .c (.sl k xs)
  | r => r
theorem FnR.freeze {P : Program} {f : Nat} {as : List AV} {rs : List RV} (h : FnR P f as rs) : FnR P f as (rs.map RV.froze) := by
  refine ⟨h.1, fun w S φ vs hS hl ha => (h.2 w S φ vs hS hl ha).mono ?_⟩
  rintro e w' ⟨us, S', rfl, hr, hb⟩
  let T : Nat → Prop := fun b => S' b ∨ ∃ (i e k : Nat) (xs : List (List CD)) (v : Value), rs[i]? = some (.own e k xs) ∧ us[i]? = some v ∧ Value.blk v = some b
  refine ⟨us, T, rfl, ⟨fun b hb => .inl (hr.inc b hb), fun b hb => ?_, fun b hb => ?_, by simpa using hr.len, fun i r v hri hv => ?_, fun i e k xs v b hri => ?_, fun i j e k xs e' k' xs' v u b hri => ?_⟩, hb⟩
  · rcases hb with hb | ⟨i, e, k, xs, v, h1, h2, h3⟩
    · exact hr.new b hb
    · exact .inr (hr.own i e k xs v b h1 h2 h3).2.1
  · rcases hb with hb | ⟨i, e, k, xs, v, h1, h2, h3⟩
    · exact hr.lt b hb
    · exact (hr.own i e k xs v b h1 h2 h3).2.2
  · simp only [List.getElem?_map, Option.map_eq_some_iff] at hri
    obtain ⟨r0, h0, rfl⟩ := hri
    have h1 := hr.rel i r0 v h0 hv
    cases r0 with
    | c d => exact Rd.mono (fun b hb => .inl hb) h1
    | agg cs =>
      obtain ⟨vs, rfl, hl, h⟩ := h1
      exact ⟨vs, rfl, hl, fun j d u hd hu => (h j d u hd hu).mono fun b hb => .inl hb⟩
    | own e k xs => exact (ArrR.mono (T := T) (fun b hb => .inl hb) h1).data fun b hb => .inr ⟨i, e, k, xs, v, h0, hv, hb⟩
  · simp only [List.getElem?_map, Option.map_eq_some_iff] at hri
    obtain ⟨r0, h0, h⟩ := hri
    cases r0 <;> simp [RV.froze] at h
  · simp only [List.getElem?_map, Option.map_eq_some_iff] at hri
    obtain ⟨r0, h0, h⟩ := hri
    cases r0 <;> simp [RV.froze] at h
end Go.AL

namespace Go.AL
open Go Go.RowKit
def fnCode (P : Program) (f : Nat) : Option (AC × List Nat × Nat) := match P.funcs[f]? with
  | some fn => match fn.body, rvsOf P fn.results.toList with
    | some code, some ts => match comp P code, callB P f with
      | some ac, true => some (ac, ts, fn.ntmps)
      | _, _ => none
    | _, _ => none
  | none => none
theorem fn_walk {P : Program} {f n : Nat} {ac : AC} {ts : List Nat} {as : List AV} {rs : List RV} (h : fnCode P f = some (ac, ts, n)) (hn : as.length ≤ n ∧ n ≤ 10000) (hw : AW P ac (retQ ts rs) ⟨n, enumFrom 0 as, []⟩) : FnR P f as rs := by
  unfold fnCode at h
  split at h
  · rename_i fn hf
    split at h
    · rename_i code ts' hb hr
      split at h
      · rename_i ac' hc hcb
        simp only [Option.some.injEq, Prod.mk.injEq] at h
        obtain ⟨rfl, rfl, rfl⟩ := h
        exact fn_intro hf hb hcb hc hr hn hw
      · cases h
    · cases h
  · cases h
theorem fn_walkW {P : Program} {f n : Nat} {ac : AC} {ts : List Nat} {as : List AV} {rs : List RV} {ob ob' : List (Nat × AO)} {kp : List Nat} (h : fnCode P f = some (ac, ts, n)) (hn : as.length ≤ n ∧ n ≤ 10000) (hkp : bigIds kp = true) (hw : AW P ac (retQW ts rs ob') ⟨n, enumFrom 0 as, ob⟩) (hpl : rowless ob = true := by rfl) : FnW P f as ob rs ob' kp := by
  unfold fnCode at h
  split at h
  · rename_i fn hf
    split at h
    · rename_i code ts' hb hr
      split at h
      · rename_i ac' hc hcb
        simp only [Option.some.injEq, Prod.mk.injEq] at h
        obtain ⟨rfl, rfl, rfl⟩ := h
        exact fn_introW hf hb hcb hc hr hn hkp hw hpl
      · cases h
    · cases h
  · cases h
def retOkP (τ : St) (as : List AV) (p : Nat) (ob' : List (Nat × AO)) : Prop := as = [hvOf p (obGet p ob')] ∧ τ.le2 ob' ∧ closedOb ob' ob' = true
def retQP (ts : List Nat) (p : Nat) (ob' : List (Nat × AO)) (e : Exit) (τ : St) : Prop := match e with
  | .normal => retOkP τ (ts.map τ.resv) p ob'
  | .ret => retOkP τ (ts.map τ.resv) p ob'
  | _ => False
def closedAV (ob : List (Nat × AO)) : AV → Bool
  | .agg cs => cs.all (closedCell0 ob)
  | a => closedCell0 ob a
theorem closedAV_key {ob : List (Nat × AO)} {i : Nat} {a : AV} (hc : closedAV ob a = true) (hi : a.noId i = false) : hasKey i ob = true := by
  cases a with
  | agg cs =>
    simp only [closedAV] at hc
    simp only [AV.noId] at hi
    have key : ∀ l : List AV, l.all (closedCell0 ob) = true → noIds i l = false → hasKey i ob = true := by
      intro l
      induction l with
      | nil => intro _ h; simp [noIds] at h
      | cons b r ih =>
        intro h1 h2
        simp only [List.all_cons, Bool.and_eq_true] at h1
        simp only [noIds, Bool.and_eq_false_iff] at h2
        rcases h2 with h2 | h2
        · exact closedCell0_key h1.1 h2
        · exact ih h1.2 h2
    exact key cs hc hi
  | _ => exact closedCell0_key (by simpa only [closedAV] using hc) hi
def notAnys : List AV → Bool
  | [] => true
  | .any :: _ => false
  | _ :: r => notAnys r
theorem notAnys_mem : ∀ {l : List AV} {a : AV}, notAnys l = true → a ∈ l → a ≠ .any
  | [], _, _, h => by simp at h
  | b :: r, a, h, hm => by
    have h2 : b ≠ .any ∧ notAnys r = true := by
      cases b <;> first | (cases h; done) | exact ⟨by simp, h⟩
    rcases List.mem_cons.1 hm with e | hm'
    · rw [e]; exact h2.1
    · exact notAnys_mem h2.2 hm'
def retOkG (τ : St) (as rs : List AV) (ob' : List (Nat × AO)) : Prop := as = rs ∧ τ.le2 ob' ∧ closedOb ob' ob' = true ∧ rs.all (closedAV ob') = true ∧ notAnys rs = true
def retQG (ts : List Nat) (rs : List AV) (ob' : List (Nat × AO)) (e : Exit) (τ : St) : Prop := match e with
  | .normal => retOkG τ (ts.map τ.resv) rs ob'
  | .ret => retOkG τ (ts.map τ.resv) rs ob'
  | _ => False
theorem fn_introG {P : Program} {f : Nat} {fn : Func} {code : Code} {ac : AC} {ts : List Nat} {as rs : List AV} {ob ob' : List (Nat × AO)} {kp : List Nat} (hf : P.funcs[f]? = some fn) (hb : fn.body = some code) (hcb : callB P f = true) (hc : comp P code = some ac)
    (hr : rvsOf P fn.results.toList = some ts) (hn : as.length ≤ fn.ntmps ∧ fn.ntmps ≤ 10000) (hkp : bigIds kp = true) (h : AW P ac (retQG ts rs ob') ⟨fn.ntmps, enumFrom 0 as, ob⟩) (hpl : rowless ob = true := by rfl) : FnG P f as ob rs ob' kp := by
  refine ⟨hcb, fun w S φ vs hS hlen hargs hobs => calls_of_wp hf hb (Code.wp_mono ?_ (h code hc ⟨P, w, S, blkIO φ ob, φ⟩ S φ _ w rfl ?_))⟩
  · rintro e a w' ⟨τ, S', ψ, hq, hs⟩
    have main : retOkG τ (ts.map τ.resv) rs ob' → a.defers = [] ∧ ∃ v, (results fn a.tmps).run P w' = .ok v w' ∧ ∃ us S' φ', Ending.returned v = .returned (retValue us) ∧ us.length = rs.length ∧ (∀ (j : Nat) (r : AV) (u : Value), rs[j]? = some r → us[j]? = some u → AVR ⟨P, w, S, blkIO φ ob, φ⟩ w' S' φ' r u) ∧
      ResW w S (blkIO φ ob) w' [] [] S' ∧ Ext (fun b => ¬ blkIO φ ob b) w w' ∧ ObsR ⟨P, w, S, blkIO φ ob, φ⟩ w' S' φ' ob' ∧
      (∀ id, inL id kp = true → φ' id = φ id) ∧ ∀ id, hasKey id ob' = false → φ' id = φ id := by
      rintro ⟨hpt, hle, hcl, hca, hna⟩
      have hlo := fun i o h => le2_get hle i o h
      have hSown : ∀ id o b, obGet id τ.ob = some o → Value.blk (ψ id) = some b → ¬ S b := by
        intro id o b ho hb h
        rcases (hs.own id o b ho hb).2.2 with h' | ⟨i, p, hp, h'⟩
        · have := hS b h; simp at h'; omega
        · exact (hobs.own i p b hp h').1 h
      obtain ⟨hr1, hr2⟩ := rvsOf_get hr
      have hus : ∃ us : List Value, us.length = fn.results.toList.length ∧ (∀ (i : Nat) (r : ResultVar) (u : Value), fn.results.toList[i]? = some r → us[i]? = some u → (resOne a.tmps r).run P w' = .ok u w') ∧ ∀ (i t : Nat) (u : Value), ts[i]? = some t → us[i]? = some u → AVR ⟨P, w, S, blkIO φ ob, φ⟩ w' S' ψ (τ.resv t) u := by
        have key : ∀ (l : List ResultVar) (us : List Nat), us.length = l.length → (∀ (i : Nat) (r : ResultVar) (t : Nat), l[i]? = some r → us[i]? = some t → rvEnc P r = some t ∧ τ.resv t ≠ .any) → ∃ vs : List Value, vs.length = l.length ∧ (∀ (i : Nat) (r : ResultVar) (u : Value), l[i]? = some r → vs[i]? = some u → (resOne a.tmps r).run P w' = .ok u w') ∧ ∀ (i t : Nat) (u : Value), us[i]? = some t → vs[i]? = some u → AVR ⟨P, w, S, blkIO φ ob, φ⟩ w' S' ψ (τ.resv t) u := by
          intro l
          induction l with
          | nil =>
            intro us hl _
            obtain rfl := List.eq_nil_of_length_eq_zero hl
            exact ⟨[], rfl, fun i r u h => by simp at h, fun i t u h => by simp at h⟩
          | cons r l ih =>
            intro us hl h
            match us, hl with
            | t :: us, hl =>
              obtain ⟨vs, h1, h2, h3⟩ := ih us (by simpa using hl) fun i r t hr ht => h (i + 1) r t (by simpa using hr) (by simpa using ht)
              obtain ⟨g1, g2⟩ := h 0 r t rfl rfl
              obtain ⟨v, hv1, hv2⟩ := resv_run hs g1 g2
              refine ⟨v :: vs, by simp [h1], fun i r' u hr' hu => ?_, fun i t' u ht' hu => ?_⟩
              · cases i with
                | zero => simp at hr' hu; subst hr'; subst hu; exact hv1
                | succ i => exact h2 i r' u (by simpa using hr') (by simpa using hu)
              · cases i with
                | zero => simp at ht' hu; subst ht'; subst hu; exact hv2
                | succ i => exact h3 i t' u (by simpa using ht') (by simpa using hu)
        refine key _ ts hr1 fun i r t hr' ht => ⟨hr2 i r t hr' ht, ?_⟩
        refine notAnys_mem hna ?_
        rw [← hpt]
        exact List.mem_map_of_mem (List.mem_of_getElem? ht)
      obtain ⟨us, hus1, hus2, hus3⟩ := hus
      have hlr : ts.length = rs.length := by rw [← hpt]; simp
      refine ⟨hs.defers, _, results_run rfl hus1 hus2, us, fun b => S b ∨ S' b, (fun id => bif hasKey id ob' then ψ id else φ id), rfl, by omega, fun j r u hrj hu => ?_, ?_, hs.ext, ?_, ?_, ?_⟩
      · have hj : j < ts.length := by have := (List.getElem?_eq_some_iff.1 hrj).1; omega
        have ht : ts[j]? = some ts[j] := List.getElem?_eq_getElem hj
        have hrt : τ.resv ts[j] = r := by
          rw [← hpt] at hrj
          simpa [ht] using hrj
        have h1 := hus3 j _ u ht hu
        rw [hrt] at h1
        rw [List.all_eq_true] at hca
        have hcr := hca r (List.mem_of_getElem? hrj)
        exact (h1.mono fun b hb => .inr hb).agree fun i hi => by
          have := closedAV_key hcr hi
          simp [this]
      · refine ⟨fun b hb => .inl hb, fun b hb => ?_, fun b hb => ?_, rfl, fun i r v hri hv => by simp at hri, fun i e k xs v b hri hv hb => by simp at hri, fun i j e k xs e' k' xs' v u b hri => by simp at hri⟩
        · rcases hb with hb | hb
          · exact .inl hb
          · exact (hs.dat b hb).2
        · rcases hb with hb | hb
          · exact Nat.lt_of_lt_of_le (hS b hb) hs.ext.size
          · exact (hs.dat b hb).1
      · refine ⟨fun id o ho => ?_, fun id o b ho hb => ?_, fun id id' o o' b ho ho' hb hb' => ?_⟩
        · simp only [hasKey_of ho, cond_true]
          have h1 := (hs.obs id o (hlo id o ho)).mono (T := fun b => S b ∨ S' b) fun b hb => .inr hb
          generalize hz : ψ id = z at h1
          cases h1 with
          | arr h => exact .arr h
          | map hb hst h => exact .map hb hst h
          | iter hr hS hg hst hsc h hc => exact .iter hr hS hg hst hsc h hc
          | rows0 => exact .rows0
          | rows hg hn hc hs h1 hr hd hw => cases closedOb_plain hcl ho
          | rows2 hg hn hc hs h1 hr hd hw hw' => cases closedOb_plain hcl ho
          | box hb hs' h h1 =>
            refine .box hb hs' (fun j a v ha hv => (h j a v ha hv).agree fun i hi => ?_) h1
            have hc := closedOb_get hcl ho
            rw [List.all_eq_true] at hc
            have hc := hc a (List.mem_of_getElem? ha)
            have hk : hasKey i ob' = true := closedCell_key hc hi
            simp [hk]
        · simp only [hasKey_of ho, cond_true] at hb
          obtain ⟨h1, h2, h3⟩ := hs.own id o b (hlo id o ho) hb
          refine ⟨?_, h2, h3⟩
          rintro (h | h)
          · exact hSown id _ b (hlo id o ho) hb h
          · exact h1 h
        · simp only [hasKey_of ho, cond_true] at hb
          simp only [hasKey_of ho', cond_true] at hb'
          exact hs.inj id id' o o' b (hlo id o ho) (hlo id' o' ho') hb hb'
      · intro id hid
        cases hk : hasKey id ob' with
        | false => simp [hk]
        | true => simp only [hk, cond_true]; exact hs.pins id (bigIds_mem hkp hid)
      · intro id hk
        simp [hk]
    cases e with
    | normal => exact main hq
    | ret => exact main hq
    | exit id => exact hq.elim
    | goto l => exact hq.elim
    | panic c => exact hq.elim
    | outgrown => exact hq.elim
  · refine ⟨fun t => ?_, by simp [hlen]; omega, hobs.obs, fun id o b h1 h2 => ⟨(hobs.own id o b h1 h2).1, (hobs.own id o b h1 h2).2.1, .inr ⟨id, o, h1, h2⟩⟩, hobs.inj, fun id o b h1 h2 => absurd h2 (innerB_plain (rowless_get hpl h1) _ _), fun b hb => ⟨hS b hb, .inl hb⟩, Ext.refl _ _, rfl, hn.2, fun _ _ => rfl⟩
    show AVR _ w S φ (St.get.go t (enumFrom 0 as)) _
    rw [enum_get]
    simp only [Nat.zero_le, if_true, Nat.sub_zero]
    rcases Nat.lt_or_ge t as.length with ht | ht
    · have hv : t < vs.length := by omega
      have e1 : (vs.toArray ++ Array.replicate (fn.ntmps - vs.toArray.size) undef).getD t undef = vs[t] := by
        rw [Array.getD_eq_getD_getElem?, Array.getElem?_append_left (by simpa using hv)]
        simp [hv]
      rw [e1]
      simp only [List.getD, List.getElem?_eq_getElem ht, Option.getD_some]
      exact hargs t _ _ (List.getElem?_eq_getElem ht) (List.getElem?_eq_getElem hv)
    · simp only [List.getD, List.getElem?_eq_none ht, Option.getD_none]
      exact .any
theorem fn_walkG {P : Program} {f n : Nat} {ac : AC} {ts : List Nat} {as rs : List AV} {ob ob' : List (Nat × AO)} {kp : List Nat} (h : fnCode P f = some (ac, ts, n)) (hn : as.length ≤ n ∧ n ≤ 10000) (hkp : bigIds kp = true) (hw : AW P ac (retQG ts rs ob') ⟨n, enumFrom 0 as, ob⟩) (hpl : rowless ob = true := by rfl) : FnG P f as ob rs ob' kp := by
  unfold fnCode at h
  split at h
  · rename_i fn hf
    split at h
    · rename_i code ts' hb hr
      split at h
      · rename_i ac' hc hcb
        simp only [Option.some.injEq, Prod.mk.injEq] at h
        obtain ⟨rfl, rfl, rfl⟩ := h
        exact fn_introG hf hb hcb hc hr hn hkp hw hpl
      · cases h
    · cases h
  · cases h
end Go.AL

namespace Go.AL
open Go
attribute [go_sem] guardOf partObs pop0 orAny pop St.ev St.put AV.under thenQ blockQ St.get St.get.go AV.val binAV scEq aggEq pickAV setParts AV.one AV.isInt ldCells elems AV.elem toCDs obGet condW St.arg St.arg0 AV.lends AV.lends0 St.putRes St.res1 St.resList RV.flatP CD.flatP St.le St.le1 St.le2 St.new St.upd setOb purgeTm purgeCs purgeOb AO.purge AV.noId noIds St.view valObs lensOk toArgs AV.toArg fadV seqQ loopQ scopeQ St.only callArgs callLends resAV RV.av retQ retQW retOkW retQP retOkP closedCell closedCell0 closedOb apartIds bigIds hasKey inL St.argW0 St.argW AV.lendsW0 AV.lendsW AV.okIds strikeTm strikeCs AO.strike whoStrike restOb movedIds St.after pinOk flatOb AO.flatP AV.plain AV.plain0 plainOb retOk retOkL resOk1 ownIds nodupB notIn enumFrom AK.isPure RV.data lookAV mlook mset mdel keyAV aggInts keyAv St.mview kkIs St.resv St.resC cellAV hvOf RV.froze inK AV.frz AV.frz0 frzCs0 frzTm frzCs AO.frz frzOb St.freezeW St.frzO AV.frzO retQG retOkG closedAV closedCell0 notAnys resG St.freeze AV.frzW St.frzAs AV.ownId AV.owns AV.ownsL St.frz1 St.frzL bsT frzSt frzAL AV.strip stripTm St.strip AK.hardK skipK
attribute [go_sem] cond_true cond_false Nat.beq_refl Nat.reduceBEq List.map_cons List.map_nil List.any_cons List.any_nil List.all_cons List.all_nil if_true ite_true ite_false List.headD_cons List.length_cons List.length_nil List.take_succ_cons List.take_zero List.drop_succ_cons List.drop_zero List.cons_append List.nil_append List.append_nil List.set_cons_zero List.set_cons_succ Nat.zero_add Nat.add_zero Nat.zero_lt_succ List.length_map true_and and_true and_self forall_const true_implies imp_self implies_true decide_eq_true_eq decide_eq_false_iff_not Bool.not_eq_true' Bool.not_eq_false' Bool.not_true Bool.not_false Bool.not_not Bool.and_eq_true Bool.or_eq_true Bool.and_eq_false_iff Bool.or_eq_false_iff Bool.and_true Bool.true_and Bool.and_false Bool.false_and Bool.or_false Bool.false_or Bool.or_true Bool.true_or Bool.cond_true_right Bool.cond_false_right Bool.cond_true_left Bool.cond_false_left Bool.false_eq_true Bool.true_eq_false false_implies List.getElem?_cons_zero List.getElem?_cons_succ decide_true decide_false exists_eq_left exists_eq_left' Option.some.injEq List.headD_nil false_and and_false forall_eq List.mem_cons List.mem_nil_iff forall_eq_or_imp List.not_mem_nil or_false Bool.or_self Bool.and_self Option.getD_some Option.getD_none IntKind.min IntKind.max eq_self CD.sc.injEq Value.int.injEq Value.bool.injEq AV.c.injEq AO.map.injEq KK.one.injEq KK.agg.injEq not_true_eq_false not_false_eq_true
theorem argAV_inl (d : CD) : argAV (.inl d) = .c d := rfl
theorem argAV_inr (ds : List CD) : argAV (.inr ds) = .agg (ds.map AV.c) := rfl
attribute [go_sem] argAV_inl argAV_inr
theorem beq_dec (a b : Nat) : Nat.beq a b = decide (a = b) := by
  rw [Bool.eq_iff_iff, Nat.beq_eq, decide_eq_true_eq]
end Go.AL

namespace Go.AL
open Go Go.RowKit
theorem Sim.own_nil {x : Ctx} {S : Nat → Prop} {φ : Nat → Value} {σ : St} {a : Act} {w : World} (hs : Sim x S φ σ a w) (d id e k : Nat) (hid : id < 1000000) (h : σ.get d = .c .nil) :
    Sim x S (setφ φ id (.slice none 0 0)) ((σ.new id (.arr e k [])).put d (.own id)) a w := by
  have h1 := hs.renew id hid (.arr e k []) (.slice none 0 0) w (Ext.refl _ _) (.arr .nil) (fun b hb => by cases hb)
  refine ⟨fun t => ?_, h1.size, h1.obs, h1.own, h1.inj, h1.inr, h1.dat, h1.ext, h1.defers, h1.small, h1.pins⟩
  rw [get_put]
  split
  · rename_i ht
    subst ht
    have h2 := hs.tms t
    rw [h] at h2
    generalize a.tmps.getD t undef = v at h2
    cases h2 with
    | c h2 =>
      cases h2
      have : AVR x w S (setφ φ id (.slice none 0 0)) (.own id) (setφ φ id (.slice none 0 0) id) := .own (by rw [setφ_same]; rfl)
      rwa [setφ_same] at this
  · exact h1.tms t
theorem AW_nil {P : Program} {c : AC} {Q : Exit → St → Prop} {σ : St} (d id e k : Nat) (hd : σ.get d = .c .nil) (h : AW P c Q ((σ.new id (.arr e k [])).put d (.own id))) (hid : id < 1000000 := by decide) : AW P c Q σ :=
  fun code hc x S φ a w hx hs => h code hc x S _ a w hx (hs.own_nil d id e k hid hd)
end Go.AL

namespace Go.AL
open Go Go.RowKit
def AWin (P : Program) (c : AC) (Q : Exit → St → Prop) (σ : St) : Prop := ∀ y, comp P y = some c → ∀ (x : Ctx) (S : Nat → Prop) (φ : Nat → Value) (a : Act) (w : World), x.P = P → Sim x S φ σ a w →
  ∀ b k cs, ∃ e a' w', simQ x Q e a' w' ∧ Arrives P (lone (b.at a (.code y :: .inLoop y :: k)) cs w) b k cs e a' w'
section
variable {P : Program} {Q : Exit → St → Prop} {σ : St}
theorem AW_enter {b : AC} (h : AWin P b Q σ) : AW P (.loop b) Q σ := fun code hc x S φ a w hx hs => by
  cases code <;> simp [comp] at hc
  case loop y =>
    intro b k cs
    obtain ⟨e, a', w', hq, harr⟩ := h y hc x S φ a w hx hs b k cs
    exact ⟨e, a', w', hq, .of_steps (.one step_loop) harr⟩
  all_goals (first | exact (compReg_ne hc (by simp) (by simp)).elim | (split at hc <;> simp at hc) | (repeat (obtain ⟨_, _, hc⟩ := hc)))
theorem AWin_round {c : AC} (h : AW P c (thenQ (fun τ => AWin P c Q τ) Q) σ) : AWin P c Q σ := fun y hc x S φ a w hx hs b k cs => by
  obtain ⟨e, a₁, w₁, hq, harr⟩ := h y hc x S φ a w hx hs b (.inLoop y :: k) cs
  obtain ⟨τ, S', φ', hq, hs'⟩ := hq
  cases e with
  | normal =>
    obtain ⟨e₂, a₂, w₂, hq₂, harr₂⟩ := hq y hc x S' φ' a₁ w₁ hx hs' b k cs
    exact ⟨e₂, a₂, w₂, hq₂, .of_steps (Steps.trans harr (.one step_inLoop)) harr₂⟩
  | exit id => exact ⟨_, a₁, w₁, ⟨τ, S', φ', hq, hs'⟩, .pass (x := .inLoop y) rfl (fun _ _ => .inl (by simp)) harr⟩
  | goto l => exact ⟨_, a₁, w₁, ⟨τ, S', φ', hq, hs'⟩, .pass (x := .inLoop y) rfl (fun _ _ => .inl (by simp)) harr⟩
  | ret => exact ⟨_, a₁, w₁, ⟨τ, S', φ', hq, hs'⟩, .pass (x := .inLoop y) rfl (fun _ _ => .inl (by simp)) harr⟩
  | panic ch => exact ⟨_, a₁, w₁, ⟨τ, S', φ', hq, hs'⟩, .pass (x := .inLoop y) rfl (fun _ _ => .inl (by simp)) harr⟩
  | outgrown => exact ⟨_, a₁, w₁, ⟨τ, S', φ', hq, hs'⟩, .pass (x := .inLoop y) rfl (fun _ _ => .inl (by simp)) harr⟩
end
end Go.AL

namespace Go.AL
open Go Go.RowKit
theorem FnR_len {P : Program} {f k : Nat} {pre post : List AV} {xs : List (List CD)} {rs : List RV} (hc : callB P f = true) (h : xs.length ≤ maxLen → FnR P f (pre ++ .c (.sl k xs) :: post) rs) : FnR P f (pre ++ .c (.sl k xs) :: post) rs := by
  refine ⟨hc, fun w S φ vs hS hl ha => ?_⟩
  have hj : pre.length < vs.length := by rw [hl]; simp
  have := ha pre.length (.c (.sl k xs)) vs[pre.length] (by simp) (List.getElem?_eq_getElem hj)
  obtain ⟨_, _, _, h1, h2⟩ := sl_cases this
  exact (h (by omega)).2 w S φ vs hS hl ha
def nth {α : Type} [Inhabited α] (l : List α) (i : Nat) : α := l.getD i default
theorem nth_eq {α : Type} [Inhabited α] (l : List α) (i : Nat) (h : i < l.length) : nth l i = l[i] := by
  simp [nth, List.getD, h]
theorem getD_map {α β : Type} [Inhabited α] (f : α → β) (l : List α) (i : Nat) (d : β) (h : i < l.length) : (l.map f).getD i d = f (nth l i) := by
  simp [nth, List.getD, h]
theorem CallP.mk {p : List (Sum CD (List CD)) → Option Value} {us : List (Sum CD (List CD))} {G : Bool} {K : Value → Prop} (v : Value) (h : G = true → p us = some v) (hk : K v) : CallP p us G K := ⟨v, h, hk⟩
theorem nth_mem {α : Type} [Inhabited α] (l : List α) (i : Nat) (h : i < l.length) : nth l i ∈ l := by
  simp [nth, List.getD, h]
theorem fnCode_callB {P : Program} {f n : Nat} {ac : AC} {ts : List Nat} (h : fnCode P f = some (ac, ts, n)) : callB P f = true := by
  unfold fnCode at h
  split at h
  · split at h
    · split at h
      · rename_i hcb; exact hcb
      · cases h
    · cases h
  · cases h
end Go.AL

namespace Go.AL
open Go Go.RowKit
section
variable (P : Program) (Q : Exit → St → Prop) (K : St → Prop)
def S1 (σ : St) (dst : Option Nat) (op : AK) (g : Option (Nat × Bool)) : Option Bool → Prop
  | none => False
  | some G => sBody P K σ dst op g G
theorem steps_nil (σ : St) : steps P Q [] σ = Q .normal σ := rfl
theorem steps_cons (dst : Option Nat) (op : AK) (g : Option (Nat × Bool)) (r : List AP) (σ : St) : steps P Q (⟨dst, op, g⟩ :: r) σ = sGuard P (steps P Q r) σ dst op g (guardOf σ g) := rfl
theorem sGuard_n (σ : St) (dst : Option Nat) (op : AK) (G : Bool) : sGuard P K σ dst op none (some G) = S1 P K σ dst op none (some G) := rfl
def sG2 (σ : St) (dst : Option Nat) (op : AK) (gg : Nat × Bool) : Bool → Bool → Prop
  | false, G => S1 P K σ dst op (some gg) (some G)
  | true, true => S1 P K σ.strip dst op none (some true)
  | true, false => skipK K σ dst
theorem sGuard_s (σ : St) (dst : Option Nat) (op : AK) (gg : Nat × Bool) (G : Bool) : sGuard P K σ dst op (some gg) (some G) = sG2 P K σ dst op gg op.hardK G := by
  simp only [sGuard]
  cases op.hardK <;> cases G <;> rfl
theorem sG2_soft (σ : St) (dst : Option Nat) (op : AK) (gg : Nat × Bool) (G : Bool) : sG2 P K σ dst op gg false G = S1 P K σ dst op (some gg) (some G) := rfl
theorem sG2_T (σ : St) (dst : Option Nat) (op : AK) (gg : Nat × Bool) : sG2 P K σ dst op gg true true = S1 P K σ.strip dst op none (some true) := rfl
theorem sG2_F (σ : St) (dst : Option Nat) (op : AK) (gg : Nat × Bool) : sG2 P K σ dst op gg true false = skipK K σ dst := rfl
variable (σ : St) (d : Nat) (g : Option (Nat × Bool)) (G : Bool)
def SP : Option (AV × Prop) → Prop
  | some (v, ob) => d < σ.n ∧ (G = true → ob) ∧ K (σ.put d (AV.under g G v))
  | none => False
theorem SP_eq (o : Option (AV × Prop)) : (match some d, o with
      | some d, some (v, ob) => d < σ.n ∧ (G = true → ob) ∧ K (σ.put d (AV.under g G v))
      | _, _ => False) = SP K σ d g G o := by cases o <;> rfl
def SFg (dst : Option Nat) (op : AK) (g : Option (Nat × Bool)) : Option Bool → Prop
  | some G => match dst with
    | some d => SP K σ d g G (pop G σ op)
    | none => False
  | none => False
theorem SFg_some (op : AK) (g : Option (Nat × Bool)) (d : Nat) (G : Bool) : SFg K σ (some d) op g (some G) = SP K σ d g G (pop G σ op) := rfl
theorem regA_done (Q : Exit → St → Prop) : regA P Q .done σ = Q .normal σ := rfl
theorem regA_nope (Q : Exit → St → Prop) : regA P Q .nope σ = True := rfl
theorem regA_first (Q : Exit → St → Prop) (dst : Option Nat) (op : AK) (g : Option (Nat × Bool)) (p : PlanA) : regA P Q (.first ⟨dst, op, g⟩ p) σ = SFg (regA P Q p) σ dst op g (guardOf σ g) := by
  simp only [regA, stepF, SFg]
  cases dst with
  | none => cases guardOf σ g <;> rfl
  | some d => cases guardOf σ g with
    | none => rfl
    | some G => simp only []; cases pop G σ op <;> rfl
theorem regA_fork (Q : Exit → St → Prop) (dst : Option Nat) (op : AK) (g : Option (Nat × Bool)) (p r : PlanA) : regA P Q (.fork ⟨dst, op, g⟩ p r) σ = (sGuard P (regA P Q p) σ dst op g (guardOf σ g) ∧ regA P Q r σ) := rfl
theorem atS_zero (dst : Option Nat) (op : AK) (g : Option (Nat × Bool)) (r : List AP) : atS P K (⟨dst, op, g⟩ :: r) 0 σ = sGuard P K σ dst op g (guardOf σ g) := rfl
theorem atS_succ (p : AP) (r : List AP) (i : Nat) : atS P K (p :: r) (i + 1) σ = atS P K r i σ := by cases p; rfl
theorem atO_zero (dst : Option Nat) (op : AK) (g : Option (Nat × Bool)) (r : List AP) : atO K (⟨dst, op, g⟩ :: r) 0 σ = SFg K σ dst op g (guardOf σ g) := by
  simp only [atO, stepF, SFg]
  cases dst with
  | none => cases guardOf σ g <;> rfl
  | some d => cases guardOf σ g with
    | none => rfl
    | some G => simp only []; cases pop G σ op <;> rfl
theorem atO_succ (p : AP) (r : List AP) (i : Nat) : atO K (p :: r) (i + 1) σ = atO K r i σ := by cases p; rfl
def contO (l : List AP) (gs : List GN) (T : List (Nat × St)) (f j : Nat) : Option St → Prop
  | some τ => σ.le τ
  | none => knotP P Q l (contP P Q l gs T f) (nthG gs j) σ
theorem contP_eq (l : List AP) (gs : List GN) (T : List (Nat × St)) (f j : Nat) : contP P Q l gs T (f + 1) j σ = contO P Q σ l gs T f j (lookT j T) := by
  simp only [contP, contO]
  cases lookT j T <;> rfl
theorem contO_some (l : List AP) (gs : List GN) (T : List (Nat × St)) (f j : Nat) (τ : St) : contO P Q σ l gs T f j (some τ) = σ.le τ := rfl
theorem contO_none (l : List AP) (gs : List GN) (T : List (Nat × St)) (f j : Nat) : contO P Q σ l gs T f j none = knotP P Q l (contP P Q l gs T f) (nthG gs j) σ := rfl
theorem knotP_fin (l : List AP) (C : Nat → St → Prop) : knotP P Q l C (some .fin) σ = Q .normal σ := rfl
theorem knotP_one (l : List AP) (C : Nat → St → Prop) (i j : Nat) : knotP P Q l C (some (.one i j)) σ = atO (C j) l i σ := rfl
theorem knotP_all (l : List AP) (C : Nat → St → Prop) (es : List (Nat × Nat)) : knotP P Q l C (some (.all es)) σ = knotAll P l C es σ := rfl
theorem knotAll_nil (l : List AP) (C : Nat → St → Prop) : knotAll P l C [] σ = True := rfl
theorem knotAll_cons (l : List AP) (C : Nat → St → Prop) (i j : Nat) (es : List (Nat × Nat)) : knotAll P l C ((i, j) :: es) σ = Both (atS P (C j) l i σ) (knotAll P l C es σ) := rfl
theorem nthG_zero (g : GN) (r : List GN) : nthG (g :: r) 0 = some g := rfl
theorem nthG_succ (g : GN) (r : List GN) (j : Nat) : nthG (g :: r) (j + 1) = nthG r j := rfl
theorem lookT_nil (j : Nat) : lookT j [] = none := rfl
theorem lookT_cons (j k : Nat) (τ : St) (r : List (Nat × St)) : lookT j ((k, τ) :: r) = bif Nat.beq j k then some τ else lookT j r := rfl
theorem SP_some (v : AV) (ob : Prop) : SP K σ d g G (some (v, ob)) = (d < σ.n ∧ (G = true → ob) ∧ K (σ.put d (AV.under g G v))) := rfl
theorem S1_mv (x : AX) : S1 P K σ (some d) (.mv x) g (some G) = SP K σ d g G (pop G σ (.mv x)) := SP_eq K σ d g G (pop G σ (.mv x))
theorem S1_pick (c a b : AX) : S1 P K σ (some d) (.pick c a b) g (some G) = SP K σ d g G (pop G σ (.pick c a b)) := SP_eq K σ d g G (pop G σ (.pick c a b))
theorem S1_bin (o : BinOp) (x y : AX) : S1 P K σ (some d) (.bin o x y) g (some G) = SP K σ d g G (pop G σ (.bin o x y)) := SP_eq K σ d g G (pop G σ (.bin o x y))
theorem S1_eqs (ng : Bool) (sh : List Bool) (x y : AX) : S1 P K σ (some d) (.eqs ng sh x y) g (some G) = SP K σ d g G (pop G σ (.eqs ng sh x y)) := SP_eq K σ d g G (pop G σ (.eqs ng sh x y))
theorem S1_beq (ng : Bool) (x y : AX) : S1 P K σ (some d) (.beq ng x y) g (some G) = SP K σ d g G (pop G σ (.beq ng x y)) := SP_eq K σ d g G (pop G σ (.beq ng x y))
theorem S1_not (x : AX) : S1 P K σ (some d) (.not x) g (some G) = SP K σ d g G (pop G σ (.not x)) := SP_eq K σ d g G (pop G σ (.not x))
theorem S1_neg (x : AX) : S1 P K σ (some d) (.neg x) g (some G) = SP K σ d g G (pop G σ (.neg x)) := SP_eq K σ d g G (pop G σ (.neg x))
theorem S1_ext (x : AX) (i : Nat) : S1 P K σ (some d) (.ext x i) g (some G) = SP K σ d g G (pop G σ (.ext x i)) := SP_eq K σ d g G (pop G σ (.ext x i))
theorem S1_fad (o : Nat) (x : AX) : S1 P K σ (some d) (.fad o x) g (some G) = SP K σ d g G (pop G σ (.fad o x)) := SP_eq K σ d g G (pop G σ (.fad o x))
theorem S1_iad (k : Nat) (x i : AX) : S1 P K σ (some d) (.iad k x i) g (some G) = SP K σ d g G (pop G σ (.iad k x i)) := SP_eq K σ d g G (pop G σ (.iad k x i))
theorem S1_iadA (n k : Nat) (x i : AX) : S1 P K σ (some d) (.iadA n k x i) g (some G) = SP K σ d g G (pop G σ (.iadA n k x i)) := SP_eq K σ d g G (pop G σ (.iadA n k x i))
theorem S1_ld (n : Option Nat) (x : AX) : S1 P K σ (some d) (.ld n x) g (some G) = SP K σ d g G (pop G σ (.ld n x)) := SP_eq K σ d g G (pop G σ (.ld n x))
theorem S1_idx (n k : Nat) (b : Bool) (x i : AX) : S1 P K σ (some d) (.idx n k b x i) g (some G) = SP K σ d g G (pop G σ (.idx n k b x i)) := SP_eq K σ d g G (pop G σ (.idx n k b x i))
theorem S1_fld (o : Nat) (n : Option Nat) (x : AX) : S1 P K σ (some d) (.fld o n x) g (some G) = SP K σ d g G (pop G σ (.fld o n x)) := SP_eq K σ d g G (pop G σ (.fld o n x))
theorem S1_nilck (x : AX) : S1 P K σ (some d) (.nilck x) g (some G) = SP K σ d g G (pop G σ (.nilck x)) := SP_eq K σ d g G (pop G σ (.nilck x))
theorem S1_conv (k : IntKind) (x : AX) : S1 P K σ (some d) (.conv k x) g (some G) = SP K σ d g G (pop G σ (.conv k x)) := SP_eq K σ d g G (pop G σ (.conv k x))
theorem S1_build (z : List AV) (ps : List (Nat × Nat × AX)) : S1 P K σ (some d) (.build z ps) g (some G) = SP K σ d g G (pop G σ (.build z ps)) := SP_eq K σ d g G (pop G σ (.build z ps))
theorem S1_len (x : AX) : S1 P K σ (some d) (.len x) g (some G) = SP K σ d g G (pop G σ (.len x)) := SP_eq K σ d g G (pop G σ (.len x))
theorem S1_minmax (m : Bool) (x y : AX) : S1 P K σ (some d) (.minmax m x y) g (some G) = SP K σ d g G (pop G σ (.minmax m x y)) := SP_eq K σ d g G (pop G σ (.minmax m x y))
theorem S1_pnil (neg : Bool) (x : AX) : S1 P K σ (some d) (.pnil neg x) g (some G) = SP K σ d g G (pop G σ (.pnil neg x)) := SP_eq K σ d g G (pop G σ (.pnil neg x))
theorem S1_slc3 (k : Nat) (x hi mx : AX) : S1 P K σ (some d) (.slc3 k x hi mx) g (some G) = SP K σ d g G (pop G σ (.slc3 k x hi mx)) := SP_eq K σ d g G (pop G σ (.slc3 k x hi mx))
theorem S1_mkfn (f : Nat) (cs : List AX) : S1 P K σ (some d) (.mkfn f cs) g (some G) = SP K σ d g G (pop G σ (.mkfn f cs)) := SP_eq K σ d g G (pop G σ (.mkfn f cs))
theorem S1_look (kk : KK) (z : Sum CD (List CD)) (ok : Bool) (m k : AX) : S1 P K σ (some d) (.look kk z ok m k) g (some G) = SP K σ d g G (pop G σ (.look kk z ok m k)) := SP_eq K σ d g G (pop G σ (.look kk z ok m k))
theorem S1_mlen (x : AX) : S1 P K σ (some d) (.mlen x) g (some G) = SP K σ d g G (pop G σ (.mlen x)) := SP_eq K σ d g G (pop G σ (.mlen x))
def Sbox (t m : Nat) : AV → Prop
  | .agg cs => cs.length = m ∧ K ((σ.new d (.box t (purgeCs d cs))).put d (.ptr d 0))
  | _ => False
theorem Sbox_agg (t m : Nat) (cs : List AV) : Sbox K σ d t m (.agg cs) = (cs.length = m ∧ K ((σ.new d (.box t (purgeCs d cs))).put d (.ptr d 0))) := rfl
theorem S1_box1 (t : Nat) (x : AX) : S1 P K σ (some d) (.box t none x) none (some G) = (d < σ.n ∧ (σ.ev x).one = true ∧ K ((σ.new d (.box t (purgeCs d [σ.ev x]))).put d (.ptr d 0))) := rfl
theorem S1_boxN (t m : Nat) (x : AX) : S1 P K σ (some d) (.box t (some m) x) none (some G) = (d < σ.n ∧ Sbox K σ d t m (σ.ev x)) := by
  simp only [S1, sBody, Sbox]
  cases σ.ev x <;> rfl
theorem S1_alloc (t : Nat) (z : List AV) : S1 P K σ (some d) (.alloc t z) none (some G) = (d < σ.n ∧ K ((σ.new d (.box t z)).put d (.ptr d 0))) := rfl
def Sbs (e k : Nat) (parts : List AX) : Option (List (List CD)) → Prop
  | some xs => d < σ.n ∧ (G = true → valObs G σ parts) ∧ lensOk k xs ∧ match g with
        | none => bif xs.isEmpty && σ.mark then K (σ.put d (.c .ne)) else K ((σ.new d (.arr e k xs)).put d (.own d))
        | some _ => K (σ.put d (AV.under g G (.c (.sl k xs))))
  | none => False
theorem Sbs_none (e k : Nat) (parts : List AX) (x : List CD) (xs : List (List CD)) : Sbs K σ d none G e k parts (some (x :: xs)) = (d < σ.n ∧ (G = true → valObs G σ parts) ∧ lensOk k (x :: xs) ∧ K ((σ.new d (.arr e k (x :: xs))).put d (.own d))) := rfl
def Smk (e k : Nat) : AV → Prop
  | .opt false _ => K (σ.put d (.c .ne))
  | _ => K ((σ.new d (.arr e k [])).put d (.own d))
theorem Smk_any (e k : Nat) : Smk K σ d e k .any = K ((σ.new d (.arr e k [])).put d (.own d)) := rfl
theorem Smk_opt (e k : Nat) (a : AV) : Smk K σ d e k (.opt false a) = K (σ.put d (.c .ne)) := rfl
theorem Sbs_none0 (e k : Nat) (parts : List AX) : Sbs K σ d none G e k parts (some []) = (d < σ.n ∧ (G = true → valObs G σ parts) ∧ lensOk k [] ∧ Smk K σ d e k (σ.get 20000)) := by
  simp only [Sbs, List.isEmpty_nil, Bool.true_and, St.mark, Smk]
  split <;> simp_all
theorem Sbs_some (h : Nat × Bool) (e k : Nat) (parts : List AX) (xs : List (List CD)) : Sbs K σ d (some h) G e k parts (some xs) = (d < σ.n ∧ (G = true → valObs G σ parts) ∧ lensOk k xs ∧ K (σ.put d (AV.under (some h) G (.c (.sl k xs))))) := rfl
def Sbr (e k : Nat) (parts : List AX) : Option (Nat × Nat × Nat) → Prop
  | some (id, ek, k') => (d < σ.n ∧ k = 1 ∧ id ≠ d) ∧ K ((σ.new d (.rows e ek k' [[]] (some 0) (some id))).put d (.own d))
  | none => Sbs K (bsT σ g parts) d g G e k parts (elems (parts.map fun x => (((bsT σ g parts).ev x).val G).1))
theorem Sbr_none (e k : Nat) (parts : List AX) : Sbr K σ d g G e k parts none = Sbs K (bsT σ g parts) d g G e k parts (elems (parts.map fun x => (((bsT σ g parts).ev x).val G).1)) := rfl
theorem Sbr_some (e k : Nat) (parts : List AX) (id ek k' : Nat) : Sbr K σ d g G e k parts (some (id, ek, k')) = ((d < σ.n ∧ k = 1 ∧ id ≠ d) ∧ K ((σ.new d (.rows e ek k' [[]] (some 0) (some id))).put d (.own d))) := rfl
theorem rowMk_g (h : Nat × Bool) (l : List AX) : rowMk σ (some h) l = none := rfl
theorem rowMk_nil : rowMk σ none [] = none := rfl
theorem rowMk_two (x y : AX) (l : List AX) : rowMk σ none (x :: y :: l) = none := rfl
theorem rowMk_one (x : AX) : rowMk σ none [x] = rowMk1 σ (σ.get 20000) (σ.ev x) := rfl
theorem rowMk1_any (a : AV) : rowMk1 σ .any a = none := rfl
theorem rowMk1_own (b : AV) (id : Nat) : rowMk1 σ (.opt false b) (.own id) = rowMk2 id (obGet id σ.ob) := rfl
theorem rowMk1_c (b : AV) (c : CD) : rowMk1 σ (.opt false b) (.c c) = none := rfl
theorem rowMk1_agg (b : AV) (c : List AV) : rowMk1 σ (.opt false b) (.agg c) = none := rfl
theorem rowMk2_arr (id ek k : Nat) (xs : List (List CD)) : rowMk2 id (some (.arr ek k xs)) = some (id, ek, k) := rfl
theorem S1_bslice (e k : Nat) (parts : List AX) : S1 P K σ (some d) (.bslice e k parts) g (some G) = Sbr K σ d g G e k parts (rowMk σ g parts) := by
  simp only [S1, sBody, Sbr, Sbs]
  cases rowMk σ g parts with
  | some p => rfl
  | none => cases elems (parts.map fun x => (((bsT σ g parts).ev x).val G).1) <;> rfl
def Sst1 (id off : Nat) (ob : Prop) (a : AV) : Option AO → Prop
  | some (.box t cs) => ob ∧ a.one = true ∧ off < cs.length ∧ K (σ.upd id (.box t (cs.set off a)))
  | _ => False
theorem Sst1_box (id off : Nat) (ob : Prop) (a : AV) (t : Nat) (cs : List AV) : Sst1 K σ id off ob a (some (.box t cs)) = (ob ∧ a.one = true ∧ off < cs.length ∧ K (σ.upd id (.box t (cs.set off a)))) := rfl
def Sst2 (id off m : Nat) (ob : Prop) (us : List AV) : Option AO → Prop
  | some (.box t cs) => ob ∧ off + m ≤ cs.length ∧ us.length = m ∧ K (σ.upd id (.box t (cs.take off ++ us ++ cs.drop (off + m))))
  | _ => False
theorem Sst2_box (id off m : Nat) (ob : Prop) (us : List AV) (t : Nat) (cs : List AV) : Sst2 K σ id off m ob us (some (.box t cs)) = (ob ∧ off + m ≤ cs.length ∧ us.length = m ∧ K (σ.upd id (.box t (cs.take off ++ us ++ cs.drop (off + m))))) := rfl
def Sst3 (id k i off : Nat) (ob : Prop) (a : CD) : Option AO → Prop
  | some (.arr e k' xs) => ob ∧ k = k' ∧ i < xs.length ∧ off < k ∧ K (σ.upd id (.arr e k' (xs.set i ((xs.getD i []).set off a))))
  | _ => False
theorem Sst3_arr (id k i off : Nat) (ob : Prop) (a : CD) (e k' : Nat) (xs : List (List CD)) : Sst3 K σ id k i off ob a (some (.arr e k' xs)) = (ob ∧ k = k' ∧ i < xs.length ∧ off < k ∧ K (σ.upd id (.arr e k' (xs.set i ((xs.getD i []).set off a))))) := rfl
def Sst4 (id k i m : Nat) (ob : Prop) (n : Nat) : Option AO → Option (List CD) → Prop
  | some (.arr e k' xs), some ds => ob ∧ k = k' ∧ m = k ∧ n = k ∧ i < xs.length ∧ K (σ.upd id (.arr e k' (xs.set i ds)))
  | _, _ => False
theorem Sst4_arr (id k i m : Nat) (ob : Prop) (n : Nat) (e k' : Nat) (xs : List (List CD)) (ds : List CD) : Sst4 K σ id k i m ob n (some (.arr e k' xs)) (some ds) = (ob ∧ k = k' ∧ m = k ∧ n = k ∧ i < xs.length ∧ K (σ.upd id (.arr e k' (xs.set i ds)))) := rfl
def Sst5 (id k i off d : Nat) (ob : Prop) : Option AO → Prop
  | some (.rows e ek k' xss (some h) who) => ob ∧ (k = 1 ∧ off = 0 ∧ i = h) ∧ h < xss.length ∧ K (σ.upd id (.rows e ek k' xss (some h) (some d)))
  | _ => False
theorem Sst5_rows (id k i off d : Nat) (ob : Prop) (e ek k' : Nat) (xss : List (List (List CD))) (h : Nat) (who : Option Nat) : Sst5 K σ id k i off d ob (some (.rows e ek k' xss (some h) who)) = (ob ∧ (k = 1 ∧ off = 0 ∧ i = h) ∧ h < xss.length ∧ K (σ.upd id (.rows e ek k' xss (some h) (some d)))) := rfl
def Sst (n : Option Nat) (p : AV) (ob : Prop) (v : AV) : Prop := match p, n, v with
  | .ptr id off, none, a => Sst1 K σ id off ob a (obGet id σ.ob)
  | .ptr id off, some m, .agg us => Sst2 K σ id off m ob us (obGet id σ.ob)
  | .eptr id k i off, none, .c a => Sst3 K σ id k i off ob a (obGet id σ.ob)
  | .eptr id k i 0, some m, .agg us => Sst4 K σ id k i m ob us.length (obGet id σ.ob) (toCDs us)
  | .eptr id k i off, none, .own d => Sst5 K σ id k i off d ob (obGet id σ.ob)
  | _, _, _ => False
theorem Sst_p1 (id off : Nat) (ob : Prop) (a : AV) : Sst K σ none (.ptr id off) ob a = Sst1 K σ id off ob a (obGet id σ.ob) := rfl
theorem Sst_pN (id off m : Nat) (ob : Prop) (us : List AV) : Sst K σ (some m) (.ptr id off) ob (.agg us) = Sst2 K σ id off m ob us (obGet id σ.ob) := rfl
theorem Sst_e1 (id k i off : Nat) (ob : Prop) (a : CD) : Sst K σ none (.eptr id k i off) ob (.c a) = Sst3 K σ id k i off ob a (obGet id σ.ob) := rfl
theorem Sst_eN (id k i m : Nat) (ob : Prop) (us : List AV) : Sst K σ (some m) (.eptr id k i 0) ob (.agg us) = Sst4 K σ id k i m ob us.length (obGet id σ.ob) (toCDs us) := rfl
theorem Sst_eO (id k i off d : Nat) (ob : Prop) : Sst K σ none (.eptr id k i off) ob (.own d) = Sst5 K σ id k i off d ob (obGet id σ.ob) := rfl
theorem S1_st (n : Option Nat) (x v : AX) : S1 P K σ none (.st n x v) none (some G) = Sst K σ n ((σ.ev x).val true).1 ((σ.ev x).val true).2 (σ.ev v) := by
  simp only [S1, sBody, Sst]
  generalize ((σ.ev x).val true).1 = p, ((σ.ev x).val true).2 = ob, σ.ev v = a
  cases p <;> cases n <;> try rfl
  case ptr.some => cases a <;> rfl
  case eptr.none => cases a <;> rfl
  case eptr.some => rename_i off m; cases off <;> cases a <;> rfl
def Sapp1 (id e k bytes : Nat) (ys : List (List CD)) : Option AO → Prop
  | some (.arr e' k' xs) => d < σ.n ∧ id < 1000000 ∧ e = e' ∧ k = k' ∧ 0 < k ∧ (xs.length + ys.length) * bytes ≤ 140737488355328 ∧ xs.length + ys.length ≤ maxLen ∧ K ((σ.new id (.arr e k (xs ++ ys))).put d (.own id))
  | some (.rows e' ek k' xss none who) => d < σ.n ∧ id < 1000000 ∧ (e = e' ∧ k = 1 ∧ ys = [[CD.nil]]) ∧ (xss.length + 1) * bytes ≤ 140737488355328 ∧ xss.length + 1 ≤ maxLen ∧ K ((σ.new id (.rows e ek k' (xss ++ [[]]) none none)).put d (.own id))
  | _ => False
theorem Sapp1_rows (id e k bytes : Nat) (ys : List (List CD)) (e' ek k' : Nat) (xss : List (List (List CD))) (who : Option Nat) : Sapp1 K σ d id e k bytes ys (some (.rows e' ek k' xss none who)) = (d < σ.n ∧ id < 1000000 ∧ (e = e' ∧ k = 1 ∧ ys = [[CD.nil]]) ∧ (xss.length + 1) * bytes ≤ 140737488355328 ∧ xss.length + 1 ≤ maxLen ∧ K ((σ.new id (.rows e ek k' (xss ++ [[]]) none none)).put d (.own id))) := rfl
theorem Sapp1_arr (id e k bytes : Nat) (ys : List (List CD)) (e' k' : Nat) (xs : List (List CD)) : Sapp1 K σ d id e k bytes ys (some (.arr e' k' xs)) = (d < σ.n ∧ id < 1000000 ∧ e = e' ∧ k = k' ∧ 0 < k ∧ (xs.length + ys.length) * bytes ≤ 140737488355328 ∧ xs.length + ys.length ≤ maxLen ∧ K ((σ.new id (.arr e k (xs ++ ys))).put d (.own id))) := rfl
def Sapp (e k bytes : Nat) : AV → Option (List (List CD)) → Prop
  | .own id, some ys => Sapp1 K σ d id e k bytes ys (obGet id σ.ob)
  | .full k' xs, some ys => d < σ.n ∧ k = k' ∧ 0 < k ∧ 0 < ys.length ∧ (xs.length + ys.length) * bytes ≤ 140737488355328 ∧ xs.length + ys.length ≤ maxLen ∧ K ((σ.new d (.arr e k (xs ++ ys))).put d (.own d))
  | .c .nil, some ys => d < σ.n ∧ 0 < k ∧ ys.length * bytes ≤ 140737488355328 ∧ ys.length ≤ maxLen ∧ K ((σ.new d (.arr e k ys)).put d (.own d))
  | _, _ => False
theorem Sapp_full (e k bytes k' : Nat) (xs ys : List (List CD)) : Sapp K σ d e k bytes (.full k' xs) (some ys) = (d < σ.n ∧ k = k' ∧ 0 < k ∧ 0 < ys.length ∧ (xs.length + ys.length) * bytes ≤ 140737488355328 ∧ xs.length + ys.length ≤ maxLen ∧ K ((σ.new d (.arr e k (xs ++ ys))).put d (.own d))) := rfl
theorem Sapp_own (e k bytes id : Nat) (ys : List (List CD)) : Sapp K σ d e k bytes (.own id) (some ys) = Sapp1 K σ d id e k bytes ys (obGet id σ.ob) := rfl
theorem Sapp_nil (e k bytes : Nat) (ys : List (List CD)) : Sapp K σ d e k bytes (.c .nil) (some ys) = (d < σ.n ∧ 0 < k ∧ ys.length * bytes ≤ 140737488355328 ∧ ys.length ≤ maxLen ∧ K ((σ.new d (.arr e k ys)).put d (.own d))) := rfl
theorem S1_app (e k bytes : Nat) (s x : AX) : S1 P K σ (some d) (.app e k bytes s x) none (some G) = Sapp K σ d e k bytes (σ.ev s) (σ.view k (σ.ev x)) := by
  simp only [S1, sBody, Sapp]
  generalize σ.ev s = p, σ.view k (σ.ev x) = ys
  rcases ys with _ | ys
  · cases p <;> first | rfl | (rename_i c; cases c <;> rfl)
  · cases p <;> first | rfl | (rename_i c; cases c <;> rfl)
def Scpy1 (e k id lo : Nat) (x : AV) (ys : List (List CD)) : Option AO → Prop
  | some (.arr e' k' xs) => d < σ.n ∧ e = e' ∧ k = k' ∧ 0 < k ∧ lo ≤ xs.length ∧ vwEnd xs.length x ∧ K ((σ.upd id (.arr e k (xs.take lo ++ ys.take (xs.length - lo) ++ xs.drop (lo + ys.length)))).put d (.I (min ys.length (xs.length - lo) : Nat)))
  | _ => False
theorem Scpy1_arr (e k id lo : Nat) (x : AV) (ys : List (List CD)) (e' k' : Nat) (xs : List (List CD)) : Scpy1 K σ d e k id lo x ys (some (.arr e' k' xs)) = (d < σ.n ∧ e = e' ∧ k = k' ∧ 0 < k ∧ lo ≤ xs.length ∧ vwEnd xs.length x ∧ K ((σ.upd id (.arr e k (xs.take lo ++ ys.take (xs.length - lo) ++ xs.drop (lo + ys.length)))).put d (.I (min ys.length (xs.length - lo) : Nat)))) := rfl
def Scpy (e k : Nat) (x : AV) : Option (Nat × Nat) → Option (List (List CD)) → Prop
  | some (id, lo), some ys => Scpy1 K σ d e k id lo x ys (obGet id σ.ob)
  | _, _ => False
theorem Scpy_some (e k : Nat) (x : AV) (id lo : Nat) (ys : List (List CD)) : Scpy K σ d e k x (some (id, lo)) (some ys) = Scpy1 K σ d e k id lo x ys (obGet id σ.ob) := rfl
theorem S1_cpy (e k : Nat) (x y : AX) : S1 P K σ (some d) (.cpy e k x y) none (some G) = Scpy K σ d e k (σ.ev x) (σ.into k (σ.ev x)) (σ.view k (σ.ev y)) := by
  simp only [S1, sBody, Scpy, Scpy1]
  cases σ.into k (σ.ev x) <;> cases σ.view k (σ.ev y) <;> try rfl
def Smks (e k bytes : Nat) (z : List CD) : Option Int → Option Int → Prop
  | some n, some m => d < σ.n ∧ 0 < k ∧ z.length = k ∧ 0 ≤ n ∧ n ≤ m ∧ m * bytes ≤ 140737488355328 ∧ m ≤ maxLen ∧ K ((σ.new d (.arr e k (List.replicate n.toNat z))).put d (.own d))
  | _, _ => False
theorem Smks_some (e k bytes : Nat) (z : List CD) (n m : Int) : Smks K σ d e k bytes z (some n) (some m) = (d < σ.n ∧ 0 < k ∧ z.length = k ∧ 0 ≤ n ∧ n ≤ m ∧ m * bytes ≤ 140737488355328 ∧ m ≤ maxLen ∧ K ((σ.new d (.arr e k (List.replicate n.toNat z))).put d (.own d))) := rfl
theorem S1_mks (e k bytes : Nat) (z : List CD) (l c : AX) : S1 P K σ (some d) (.mks e k bytes z l c) none (some G) = Smks K σ d e k bytes z (σ.ev l).isInt (σ.ev c).isInt := by
  simp only [S1, sBody, Smks]
  cases (σ.ev l).isInt <;> cases (σ.ev c).isInt <;> rfl
def bndI (σ : St) : Option AX → Int → Option Int
  | none, n => some n
  | some y, _ => (σ.ev y).isInt
theorem bndI_none (n : Int) : bndI σ none n = some n := rfl
theorem bndI_some (y : AX) (n : Int) : bndI σ (some y) n = (σ.ev y).isInt := rfl
def Sslc2 (id e k k' : Nat) (xs : List (List CD)) : Option Int → Option Int → Prop
  | some l, some h => d < σ.n ∧ id < 1000000 ∧ k = k' ∧ 0 ≤ l ∧ l ≤ h ∧ h ≤ xs.length ∧ bif σ.mark then K (σ.put d (.vw id k l.toNat h.toNat)) else K ((σ.new id (.arr e k ((xs.take h.toNat).drop l.toNat))).put d (.own id))
  | _, _ => False
def Smv (id e k : Nat) (xs : List (List CD)) (l h : Int) : AV → Prop
  | .opt false _ => K (σ.put d (.vw id k l.toNat h.toNat))
  | _ => K ((σ.new id (.arr e k ((xs.take h.toNat).drop l.toNat))).put d (.own id))
theorem Smv_any (id e k : Nat) (xs : List (List CD)) (l h : Int) : Smv K σ d id e k xs l h .any = K ((σ.new id (.arr e k ((xs.take h.toNat).drop l.toNat))).put d (.own id)) := rfl
theorem Smv_opt (id e k : Nat) (xs : List (List CD)) (l h : Int) (a : AV) : Smv K σ d id e k xs l h (.opt false a) = K (σ.put d (.vw id k l.toNat h.toNat)) := rfl
theorem Sslc2_some (id e k k' : Nat) (xs : List (List CD)) (l h : Int) : Sslc2 K σ d id e k k' xs (some l) (some h) = (d < σ.n ∧ id < 1000000 ∧ k = k' ∧ 0 ≤ l ∧ l ≤ h ∧ h ≤ xs.length ∧ Smv K σ d id e k xs l h (σ.get 20000)) := by
  simp only [Sslc2, St.mark, Smv]
  split <;> simp_all
def Sslc1 (id k : Nat) (lo hi : Option AX) : Option AO → Prop
  | some (.arr e k' xs) => Sslc2 K σ d id e k k' xs (bndI σ lo 0) (bndI σ hi xs.length)
  | _ => False
theorem Sslc1_arr (id k : Nat) (lo hi : Option AX) (e k' : Nat) (xs : List (List CD)) : Sslc1 K σ d id k lo hi (some (.arr e k' xs)) = Sslc2 K σ d id e k k' xs (bndI σ lo 0) (bndI σ hi xs.length) := rfl
def Sslc (k : Nat) (x : AX) (lo hi : Option AX) : AV → Prop
  | .own id => Sslc1 K σ d id k lo hi (obGet id σ.ob)
  | _ => SP K σ d none G (pop G σ (.slc k x lo hi))
theorem Sslc_own (k : Nat) (x : AX) (lo hi : Option AX) (id : Nat) : Sslc K σ d G k x lo hi (.own id) = Sslc1 K σ d id k lo hi (obGet id σ.ob) := rfl
theorem Sslc_c (k : Nat) (x : AX) (lo hi : Option AX) (c : CD) : Sslc K σ d G k x lo hi (.c c) = SP K σ d none G (pop G σ (.slc k x lo hi)) := rfl
theorem S1_slc (k : Nat) (x : AX) (lo hi : Option AX) : S1 P K σ (some d) (.slc k x lo hi) none (some G) = Sslc K σ d G k x lo hi (σ.ev x) := by
  have key : (match pop G σ (.slc k x lo hi) with
        | some (v, ob) => d < σ.n ∧ (G = true → ob) ∧ K (σ.put d (AV.under none G v))
        | none => False) = SP K σ d none G (pop G σ (.slc k x lo hi)) := by
    cases pop G σ (.slc k x lo hi) <;> rfl
  simp only [S1, sBody, Sslc]
  generalize σ.ev x = p
  cases p <;> try exact key
  simp only [Sslc1]
  generalize obGet _ σ.ob = o
  cases o with
  | none => rfl
  | some o => cases o with
    | arr e k' xs =>
      cases lo with
      | none =>
        cases hi with
        | none => rfl
        | some y => simp only [bndI]; cases (σ.ev y).isInt <;> rfl
      | some z =>
        cases hi with
        | none => simp only [bndI]; cases (σ.ev z).isInt <;> rfl
        | some y => simp only [bndI]; cases (σ.ev z).isInt <;> cases (σ.ev y).isInt <;> rfl
    | _ => rfl
theorem S1_call (f : Nat) (args : List AX) : S1 P K σ (some d) (.call f args) none (some G) = (d < σ.n ∧ CallAt P f K d (args.map σ.ev) (args.map fun x => σ.arg (σ.ev x)) (args.any fun x => (σ.ev x).lends) σ) := rfl
theorem S1_callG (h : Nat × Bool) (f : Nat) (args : List AX) : S1 P K σ (some d) (.call f args) (some h) (some G) = (d < σ.n ∧ (G = true → valObs G σ args) ∧ CallAtG P f args (args.map fun x => σ.arg ((σ.ev x).val G).1) G K d σ) := rfl
def Scv2 : Option Value → Prop
  | some v => d < σ.n ∧ K (σ.put d (.c (.sc v)))
  | none => False
theorem Scv2_some (v : Value) : Scv2 K σ d (some v) = (d < σ.n ∧ K (σ.put d (.c (.sc v)))) := rfl
def Scv1 (p : List (Sum CD (List CD)) → Option Value) : Option (List (Sum CD (List CD))) → Prop
  | some us => Scv2 K σ d (p us)
  | none => False
theorem Scv1_some (p : List (Sum CD (List CD)) → Option Value) (us : List (Sum CD (List CD))) : Scv1 K σ d p (some us) = Scv2 K σ d (p us) := rfl
def Scv (args : List AX) : AV → Prop
  | .pf p => Scv1 K σ d p (toArgs (args.map σ.ev))
  | .fn f caps => d < σ.n ∧ CallAt P f K d (args.map σ.ev ++ caps) (args.map (fun x => σ.arg (σ.ev x)) ++ caps.map σ.arg) ((args.any fun x => (σ.ev x).lends) || caps.any AV.lends) σ
  | _ => False
theorem Scv_pf (args : List AX) (p : List (Sum CD (List CD)) → Option Value) : Scv P K σ d args (.pf p) = Scv1 K σ d p (toArgs (args.map σ.ev)) := rfl
theorem Scv_fn (args : List AX) (f : Nat) (caps : List AV) : Scv P K σ d args (.fn f caps) = (d < σ.n ∧ CallAt P f K d (args.map σ.ev ++ caps) (args.map (fun x => σ.arg (σ.ev x)) ++ caps.map σ.arg) ((args.any fun x => (σ.ev x).lends) || caps.any AV.lends) σ) := rfl
theorem S1_callv (x : AX) (args : List AX) : S1 P K σ (some d) (.callv x args) none (some G) = Scv P K σ d args (σ.ev x) := by
  simp only [S1, sBody, Scv]
  generalize σ.ev x = p
  cases p <;> try rfl
theorem S1_mkmap (kk : KK) : S1 P K σ (some d) (.mkmap kk) none (some G) = (d < σ.n ∧ K ((σ.new d (.map kk [])).put d (.own d))) := rfl
def Sms1 (id : Nat) (kk : KK) (n : List Int) (v : Sum CD (List CD)) : Option AO → Prop
  | some (.map kk' es) => kk = kk' ∧ K (σ.upd id (.map kk' (mset es n v)))
  | _ => False
theorem Sms1_map (id : Nat) (kk : KK) (n : List Int) (v : Sum CD (List CD)) (kk' : KK) (es : List (List Int × Sum CD (List CD))) : Sms1 K σ id kk n v (some (.map kk' es)) = (kk = kk' ∧ K (σ.upd id (.map kk' (mset es n v)))) := rfl
def Sms (kk : KK) (m : AV) (n : Option (List Int)) (v : Option (Sum CD (List CD))) : Prop := match m, n, v with
  | .own id, some n, some v' => Sms1 K σ id kk n v' (obGet id σ.ob)
  | _, _, _ => False
theorem Sms_own (id : Nat) (kk : KK) (n : List Int) (v : Sum CD (List CD)) : Sms K σ kk (.own id) (some n) (some v) = Sms1 K σ id kk n v (obGet id σ.ob) := rfl
theorem S1_mset (kk : KK) (m k v : AX) : S1 P K σ none (.mset kk m k v) none (some G) = Sms K σ kk (σ.ev m) (keyAV kk (σ.ev k)) (σ.ev v).toArg := by
  simp only [S1, sBody, Sms]
  generalize σ.ev m = a, keyAV kk (σ.ev k) = b, (σ.ev v).toArg = c
  cases a <;> try rfl
  cases b <;> try rfl
  cases c <;> rfl
def Smd1 (dst : Option Nat) (id : Nat) (kk : KK) (n : List Int) : Option AO → Prop
  | some (.map kk' es) => kk = kk' ∧ match dst with
    | none => K (σ.upd id (.map kk' (mdel es n)))
    | some d => d < σ.n ∧ K ((σ.upd id (.map kk' (mdel es n))).put d (.tup []))
  | _ => False
theorem Smd1_n (id : Nat) (kk : KK) (n : List Int) (kk' : KK) (es : List (List Int × Sum CD (List CD))) : Smd1 K σ none id kk n (some (.map kk' es)) = (kk = kk' ∧ K (σ.upd id (.map kk' (mdel es n)))) := rfl
theorem Smd1_s (d : Nat) (id : Nat) (kk : KK) (n : List Int) (kk' : KK) (es : List (List Int × Sum CD (List CD))) : Smd1 K σ (some d) id kk n (some (.map kk' es)) = (kk = kk' ∧ d < σ.n ∧ K ((σ.upd id (.map kk' (mdel es n))).put d (.tup []))) := rfl
def Smd (dst : Option Nat) (kk : KK) (m : AV) (n : Option (List Int)) : Prop := match m, n with
  | .own id, some n => Smd1 K σ dst id kk n (obGet id σ.ob)
  | _, _ => False
theorem Smd_own (dst : Option Nat) (id : Nat) (kk : KK) (n : List Int) : Smd K σ dst kk (.own id) (some n) = Smd1 K σ dst id kk n (obGet id σ.ob) := rfl
theorem S1_mdel (dst : Option Nat) (kk : KK) (m k : AX) : S1 P K σ dst (.mdel kk m k) none (some G) = Smd K σ dst kk (σ.ev m) (keyAV kk (σ.ev k)) := by
  simp only [S1, sBody, Smd]
  generalize σ.ev m = a, keyAV kk (σ.ev k) = b
  cases a <;> try rfl
  cases b <;> rfl
def Smr : AV → Prop
  | .c (.mp kk es) => d < σ.n ∧ K ((σ.new d (.iter kk es none)).put d (.own d))
  | _ => False
theorem Smr_mp (kk : KK) (es : List (List Int × Sum CD (List CD))) : Smr K σ d (.c (.mp kk es)) = (d < σ.n ∧ K ((σ.new d (.iter kk es none)).put d (.own d))) := rfl
theorem S1_mrange (m : AX) : S1 P K σ (some d) (.mrange m) none (some G) = Smr K σ d (σ.ev m) := by
  simp only [S1, sBody, Smr]
  generalize σ.ev m = a
  cases a <;> try rfl
  rename_i c; cases c <;> rfl
def Smn1 (id : Nat) : Option AO → Prop
  | some (.iter kk left _) => d < σ.n ∧ NextAt K d id kk left σ
  | _ => False
theorem Smn1_it (id : Nat) (kk : KK) (left : List (List Int × Sum CD (List CD))) (cur : Option (List Int × Sum CD (List CD))) : Smn1 K σ d id (some (.iter kk left cur)) = (d < σ.n ∧ NextAt K d id kk left σ) := rfl
def Smn : AV → Prop
  | .own id => Smn1 K σ d id (obGet id σ.ob)
  | _ => False
theorem Smn_own (id : Nat) : Smn K σ d (.own id) = Smn1 K σ d id (obGet id σ.ob) := rfl
theorem S1_mnext (m : AX) : S1 P K σ (some d) (.mnext m) none (some G) = Smn K σ d (σ.ev m) := by
  simp only [S1, sBody, Smn]
  generalize σ.ev m = a
  cases a <;> try rfl
def Sme1 : Option AO → Prop
  | some (.iter kk _ (some (n, v))) => d < σ.n ∧ K (σ.put d (.tup [keyAv kk n, argAV v]))
  | _ => False
theorem Sme1_it (kk : KK) (left : List (List Int × Sum CD (List CD))) (n : List Int) (v : Sum CD (List CD)) : Sme1 K σ d (some (.iter kk left (some (n, v)))) = (d < σ.n ∧ K (σ.put d (.tup [keyAv kk n, argAV v]))) := rfl
def Sme : AV → Prop
  | .own id => Sme1 K σ d (obGet id σ.ob)
  | _ => False
theorem Sme_own (id : Nat) : Sme K σ d (.own id) = Sme1 K σ d (obGet id σ.ob) := rfl
theorem S1_mentry (m : AX) : S1 P K σ (some d) (.mentry m) none (some G) = Sme K σ d (σ.ev m) := by
  simp only [S1, sBody, Sme]
  generalize σ.ev m = a
  cases a <;> try rfl
def Sni (neg : Bool) (xs : List (List CD)) : Prop := ∀ b : Bool, (b = true → xs = []) → K (σ.put d (.B (bif neg then !b else b)))
def Snil1 (neg : Bool) : Option AO → Prop
  | some (.arr _ _ xs) => d < σ.n ∧ Sni K σ d neg xs
  | _ => False
theorem Snil1_arr (neg : Bool) (e k : Nat) (xs : List (List CD)) : Snil1 K σ d neg (some (.arr e k xs)) = (d < σ.n ∧ Sni K σ d neg xs) := rfl
def Snil (neg : Bool) : AV → Prop
  | .c .nil => d < σ.n ∧ K (σ.put d (.B (!neg)))
  | .c .ne => d < σ.n ∧ K (σ.put d (.B neg))
  | .c (.sl _ xs) => d < σ.n ∧ Sni K σ d neg xs
  | .own id => Snil1 K σ d neg (obGet id σ.ob)
  | _ => False
theorem Snil_ne (neg : Bool) : Snil K σ d neg (.c .ne) = (d < σ.n ∧ K (σ.put d (.B neg))) := rfl
theorem Snil_nil (neg : Bool) : Snil K σ d neg (.c .nil) = (d < σ.n ∧ K (σ.put d (.B (!neg)))) := rfl
theorem Snil_sl (neg : Bool) (k : Nat) (xs : List (List CD)) : Snil K σ d neg (.c (.sl k xs)) = (d < σ.n ∧ Sni K σ d neg xs) := rfl
theorem Snil_own (neg : Bool) (id : Nat) : Snil K σ d neg (.own id) = Snil1 K σ d neg (obGet id σ.ob) := rfl
theorem Sni.mk {K : St → Prop} {σ : St} {d : Nat} {neg : Bool} {xs : List (List CD)} (h1 : xs = [] → K (σ.put d (.B (bif neg then false else true)))) (h2 : K (σ.put d (.B (bif neg then true else false)))) : Sni K σ d neg xs := by
  intro b hb
  cases b with
  | true => exact h1 (hb rfl)
  | false => exact h2
theorem S1_isnil (neg : Bool) (x : AX) : S1 P K σ (some d) (.isnil neg x) none (some G) = Snil K σ d neg (σ.ev x) := by
  simp only [S1, sBody, Snil, Snil1, Sni]
  generalize σ.ev x = p
  cases p <;> try rfl
  rename_i c; cases c <;> rfl
def CallDS (f : Nat) (us : List AV) (fl : Bool) (r : List (AP × List Nat)) : Prop := CallD P f us fl G g (fun v => stepsD P Q r (σ.put d v))
def CallPS (p : List (Sum CD (List CD)) → Option Value) (us : List (Sum CD (List CD))) (r : List (AP × List Nat)) : Prop := CallP p us G (fun v => stepsD P Q r (σ.put d (AV.under g G (.c (.sc v)))))
theorem CallDS.mk {P : Program} {Q : Exit → St → Prop} {σ : St} {d : Nat} {g : Option (Nat × Bool)} {G : Bool} {f : Nat} {us : List AV} {fl : Bool} {r : List (AP × List Nat)} (rs : List RV) (hd : ∀ r ∈ rs, RV.data r) (h : G = true → FnR P f us rs) (hf : fl = true → ∀ r ∈ rs, RV.flatP r) (hK : stepsD P Q r (σ.put d (AV.under g G (resAV rs)))) : CallDS P Q σ d g G f us fl r := ⟨rs, hd, h, hf, hK⟩
theorem CallPS.mk {P : Program} {Q : Exit → St → Prop} {σ : St} {d : Nat} {g : Option (Nat × Bool)} {G : Bool} {p : List (Sum CD (List CD)) → Option Value} {us : List (Sum CD (List CD))} {r : List (AP × List Nat)} (v : Value) (h : G = true → p us = some v) (hk : stepsD P Q r (σ.put d (AV.under g G (.c (.sc v))))) : CallPS P Q σ d g G p us r := ⟨v, h, hk⟩
def dBody (r : List (AP × List Nat)) (σ τ : St) (d : Nat) (op : AK) (g : Option (Nat × Bool)) (G : Bool) : Prop := match op with
    | .bslice _ k parts => match elems (parts.map fun x => ((τ.ev x).val G).1) with
      | some xs => (G = true → valObs G τ parts) ∧ lensOk k xs ∧ stepsD P Q r (σ.put d (bsv g G k xs (σ.get 20000)))
      | none => False
    | .call f args => (G = true → valObs G τ args) ∧ CallD P f (callArgs G τ args) (callLends G τ args) G g (fun v => stepsD P Q r (σ.put d v))
    | .callv y args => match ((τ.ev y).val G).1 with
      | .pf p => match toArgs (args.map fun y => ((τ.ev y).val G).1) with
        | some us => (G = true → ((τ.ev y).val G).2) ∧ (G = true → valObs G τ args) ∧ CallP p us G (fun v => stepsD P Q r (σ.put d (AV.under g G (.c (.sc v)))))
        | none => False
      | .fn f caps => (G = true → ((τ.ev y).val G).2) ∧ (G = true → valObs G τ args) ∧ CallD P f (callArgs G τ args ++ caps.map τ.arg) (callLends G τ args || caps.any AV.lends) G g (fun v => stepsD P Q r (σ.put d v))
      | _ => False
    | op => op.isPure = true ∧ match pop G τ op with
      | some (v, ob) => (G = true → ob) ∧ stepsD P Q r (σ.put d (AV.under g G v))
      | none => False
def D1 (r : List (AP × List Nat)) (σ τ : St) (dst : Option Nat) (op : AK) (g : Option (Nat × Bool)) (o : Option Bool) : Prop := match dst, o with
  | some d, some G => d < σ.n ∧ dBody P Q r σ τ d op g G
  | _, _ => False
theorem stepsD_nil : stepsD P Q [] σ = Q .normal σ := rfl
theorem stepsD_cons (dst : Option Nat) (op : AK) (g : Option (Nat × Bool)) (L : List Nat) (r : List (AP × List Nat)) (σ : St) : stepsD P Q ((⟨dst, op, g⟩, L) :: r) σ = D1 P Q r σ (σ.only L) dst op g (guardOf (σ.only L) g) := by
  rw [stepsD.eq_def]
  simp only [D1, dBody]
  cases dst <;> cases guardOf (σ.only L) g <;> rfl
variable (rD : List (AP × List Nat)) (τ : St)
def DP : Option (AV × Prop) → Prop
  | some (v, ob) => d < σ.n ∧ (G = true → ob) ∧ stepsD P Q rD (σ.put d (AV.under g G v))
  | none => False
theorem DP_some (v : AV) (ob : Prop) : DP P Q σ d g G rD (some (v, ob)) = (d < σ.n ∧ (G = true → ob) ∧ stepsD P Q rD (σ.put d (AV.under g G v))) := rfl
theorem D1_mv (x : AX) : D1 P Q rD σ τ (some d) (.mv x) g (some G) = DP P Q σ d g G rD (pop G τ (.mv x)) := by simp only [D1, dBody, AK.isPure, true_and]; cases pop G τ (.mv x) with | none => simp [DP] | some p => rfl
theorem D1_pick (c a b : AX) : D1 P Q rD σ τ (some d) (.pick c a b) g (some G) = DP P Q σ d g G rD (pop G τ (.pick c a b)) := by simp only [D1, dBody, AK.isPure, true_and]; cases pop G τ (.pick c a b) with | none => simp [DP] | some p => rfl
theorem D1_bin (o : BinOp) (x y : AX) : D1 P Q rD σ τ (some d) (.bin o x y) g (some G) = DP P Q σ d g G rD (pop G τ (.bin o x y)) := by simp only [D1, dBody, AK.isPure, true_and]; cases pop G τ (.bin o x y) with | none => simp [DP] | some p => rfl
theorem D1_eqs (ng : Bool) (sh : List Bool) (x y : AX) : D1 P Q rD σ τ (some d) (.eqs ng sh x y) g (some G) = DP P Q σ d g G rD (pop G τ (.eqs ng sh x y)) := by simp only [D1, dBody, AK.isPure, true_and]; cases pop G τ (.eqs ng sh x y) with | none => simp [DP] | some p => rfl
theorem D1_beq (ng : Bool) (x y : AX) : D1 P Q rD σ τ (some d) (.beq ng x y) g (some G) = DP P Q σ d g G rD (pop G τ (.beq ng x y)) := by simp only [D1, dBody, AK.isPure, true_and]; cases pop G τ (.beq ng x y) with | none => simp [DP] | some p => rfl
theorem D1_not (x : AX) : D1 P Q rD σ τ (some d) (.not x) g (some G) = DP P Q σ d g G rD (pop G τ (.not x)) := by simp only [D1, dBody, AK.isPure, true_and]; cases pop G τ (.not x) with | none => simp [DP] | some p => rfl
theorem D1_neg (x : AX) : D1 P Q rD σ τ (some d) (.neg x) g (some G) = DP P Q σ d g G rD (pop G τ (.neg x)) := by simp only [D1, dBody, AK.isPure, true_and]; cases pop G τ (.neg x) with | none => simp [DP] | some p => rfl
theorem D1_ext (x : AX) (i : Nat) : D1 P Q rD σ τ (some d) (.ext x i) g (some G) = DP P Q σ d g G rD (pop G τ (.ext x i)) := by simp only [D1, dBody, AK.isPure, true_and]; cases pop G τ (.ext x i) with | none => simp [DP] | some p => rfl
theorem D1_fad (o : Nat) (x : AX) : D1 P Q rD σ τ (some d) (.fad o x) g (some G) = DP P Q σ d g G rD (pop G τ (.fad o x)) := by simp only [D1, dBody, AK.isPure, true_and]; cases pop G τ (.fad o x) with | none => simp [DP] | some p => rfl
theorem D1_iad (k : Nat) (x i : AX) : D1 P Q rD σ τ (some d) (.iad k x i) g (some G) = DP P Q σ d g G rD (pop G τ (.iad k x i)) := by simp only [D1, dBody, AK.isPure, true_and]; cases pop G τ (.iad k x i) with | none => simp [DP] | some p => rfl
theorem D1_iadA (n k : Nat) (x i : AX) : D1 P Q rD σ τ (some d) (.iadA n k x i) g (some G) = DP P Q σ d g G rD (pop G τ (.iadA n k x i)) := by simp only [D1, dBody, AK.isPure, true_and]; cases pop G τ (.iadA n k x i) with | none => simp [DP] | some p => rfl
theorem D1_ld (n : Option Nat) (x : AX) : D1 P Q rD σ τ (some d) (.ld n x) g (some G) = DP P Q σ d g G rD (pop G τ (.ld n x)) := by simp only [D1, dBody, AK.isPure, true_and]; cases pop G τ (.ld n x) with | none => simp [DP] | some p => rfl
theorem D1_idx (n k : Nat) (b : Bool) (x i : AX) : D1 P Q rD σ τ (some d) (.idx n k b x i) g (some G) = DP P Q σ d g G rD (pop G τ (.idx n k b x i)) := by simp only [D1, dBody, AK.isPure, true_and]; cases pop G τ (.idx n k b x i) with | none => simp [DP] | some p => rfl
theorem D1_fld (o : Nat) (n : Option Nat) (x : AX) : D1 P Q rD σ τ (some d) (.fld o n x) g (some G) = DP P Q σ d g G rD (pop G τ (.fld o n x)) := by simp only [D1, dBody, AK.isPure, true_and]; cases pop G τ (.fld o n x) with | none => simp [DP] | some p => rfl
theorem D1_nilck (x : AX) : D1 P Q rD σ τ (some d) (.nilck x) g (some G) = DP P Q σ d g G rD (pop G τ (.nilck x)) := by simp only [D1, dBody, AK.isPure, true_and]; cases pop G τ (.nilck x) with | none => simp [DP] | some p => rfl
theorem D1_conv (k : IntKind) (x : AX) : D1 P Q rD σ τ (some d) (.conv k x) g (some G) = DP P Q σ d g G rD (pop G τ (.conv k x)) := by simp only [D1, dBody, AK.isPure, true_and]; cases pop G τ (.conv k x) with | none => simp [DP] | some p => rfl
theorem D1_build (z : List AV) (ps : List (Nat × Nat × AX)) : D1 P Q rD σ τ (some d) (.build z ps) g (some G) = DP P Q σ d g G rD (pop G τ (.build z ps)) := by simp only [D1, dBody, AK.isPure, true_and]; cases pop G τ (.build z ps) with | none => simp [DP] | some p => rfl
theorem D1_len (x : AX) : D1 P Q rD σ τ (some d) (.len x) g (some G) = DP P Q σ d g G rD (pop G τ (.len x)) := by simp only [D1, dBody, AK.isPure, true_and]; cases pop G τ (.len x) with | none => simp [DP] | some p => rfl
theorem D1_minmax (m : Bool) (x y : AX) : D1 P Q rD σ τ (some d) (.minmax m x y) g (some G) = DP P Q σ d g G rD (pop G τ (.minmax m x y)) := by simp only [D1, dBody, AK.isPure, true_and]; cases pop G τ (.minmax m x y) with | none => simp [DP] | some p => rfl
theorem D1_pnil (neg : Bool) (x : AX) : D1 P Q rD σ τ (some d) (.pnil neg x) g (some G) = DP P Q σ d g G rD (pop G τ (.pnil neg x)) := by simp only [D1, dBody, AK.isPure, true_and]; cases pop G τ (.pnil neg x) with | none => simp [DP] | some p => rfl
theorem D1_slc3 (k : Nat) (x hi mx : AX) : D1 P Q rD σ τ (some d) (.slc3 k x hi mx) g (some G) = DP P Q σ d g G rD (pop G τ (.slc3 k x hi mx)) := by simp only [D1, dBody, AK.isPure, true_and]; cases pop G τ (.slc3 k x hi mx) with | none => simp [DP] | some p => rfl
theorem D1_mkfn (f : Nat) (cs : List AX) : D1 P Q rD σ τ (some d) (.mkfn f cs) g (some G) = DP P Q σ d g G rD (pop G τ (.mkfn f cs)) := by simp only [D1, dBody, AK.isPure, true_and]; cases pop G τ (.mkfn f cs) with | none => simp [DP] | some p => rfl
theorem D1_look (kk : KK) (z : Sum CD (List CD)) (ok : Bool) (m k : AX) : D1 P Q rD σ τ (some d) (.look kk z ok m k) g (some G) = DP P Q σ d g G rD (pop G τ (.look kk z ok m k)) := by simp only [D1, dBody, AK.isPure, true_and]; cases pop G τ (.look kk z ok m k) with | none => simp [DP] | some p => rfl
theorem D1_mlen (x : AX) : D1 P Q rD σ τ (some d) (.mlen x) g (some G) = DP P Q σ d g G rD (pop G τ (.mlen x)) := by simp only [D1, dBody, AK.isPure, true_and]; cases pop G τ (.mlen x) with | none => simp [DP] | some p => rfl
def Dbs (k : Nat) (parts : List AX) : Option (List (List CD)) → Prop
  | some xs => d < σ.n ∧ (G = true → valObs G τ parts) ∧ lensOk k xs ∧ stepsD P Q rD (σ.put d (bsv g G k xs (σ.get 20000)))
  | none => False
theorem Dbs_some (k : Nat) (parts : List AX) (xs : List (List CD)) : Dbs P Q σ d g G rD τ k parts (some xs) = (d < σ.n ∧ (G = true → valObs G τ parts) ∧ lensOk k xs ∧ stepsD P Q rD (σ.put d (bsv g G k xs (σ.get 20000)))) := rfl
theorem bsv_any (k : Nat) (xs : List (List CD)) : bsv g G k xs .any = AV.under g G (.c (.sl k xs)) := rfl
theorem bsv_opt (k : Nat) (xs : List (List CD)) (a : AV) : bsv none G k xs (.opt false a) = .full k xs := rfl
theorem bsv_g (h : Nat × Bool) (k : Nat) (xs : List (List CD)) (a : AV) : bsv (some h) G k xs (.opt false a) = AV.under (some h) G (.c (.sl k xs)) := rfl
theorem D1_bslice (e k : Nat) (parts : List AX) : D1 P Q rD σ τ (some d) (.bslice e k parts) g (some G) = Dbs P Q σ d g G rD τ k parts (elems (parts.map fun x => ((τ.ev x).val G).1)) := by
  simp only [D1, dBody, Dbs]
  cases elems (parts.map fun x => ((τ.ev x).val G).1) <;> simp
theorem D1_call (f : Nat) (args : List AX) : D1 P Q rD σ τ (some d) (.call f args) g (some G) = (d < σ.n ∧ (G = true → valObs G τ args) ∧ CallDS P Q σ d g G f (callArgs G τ args) (callLends G τ args) rD) := rfl
def Dcv1 (ob : Prop) (args : List AX) (p : List (Sum CD (List CD)) → Option Value) : Option (List (Sum CD (List CD))) → Prop
  | some us => d < σ.n ∧ (G = true → ob) ∧ (G = true → valObs G τ args) ∧ CallPS P Q σ d g G p us rD
  | none => False
theorem Dcv1_some (ob : Prop) (args : List AX) (p : List (Sum CD (List CD)) → Option Value) (us : List (Sum CD (List CD))) : Dcv1 P Q σ d g G rD τ ob args p (some us) = (d < σ.n ∧ (G = true → ob) ∧ (G = true → valObs G τ args) ∧ CallPS P Q σ d g G p us rD) := rfl
def Dcv (ob : Prop) (args : List AX) : AV → Prop
  | .pf p => Dcv1 P Q σ d g G rD τ ob args p (toArgs (args.map fun y => ((τ.ev y).val G).1))
  | .fn f caps => d < σ.n ∧ (G = true → ob) ∧ (G = true → valObs G τ args) ∧ CallDS P Q σ d g G f (callArgs G τ args ++ caps.map τ.arg) (callLends G τ args || caps.any AV.lends) rD
  | _ => False
theorem Dcv_pf (ob : Prop) (args : List AX) (p : List (Sum CD (List CD)) → Option Value) : Dcv P Q σ d g G rD τ ob args (.pf p) = Dcv1 P Q σ d g G rD τ ob args p (toArgs (args.map fun y => ((τ.ev y).val G).1)) := rfl
theorem Dcv_fn (ob : Prop) (args : List AX) (f : Nat) (caps : List AV) : Dcv P Q σ d g G rD τ ob args (.fn f caps) = (d < σ.n ∧ (G = true → ob) ∧ (G = true → valObs G τ args) ∧ CallDS P Q σ d g G f (callArgs G τ args ++ caps.map τ.arg) (callLends G τ args || caps.any AV.lends) rD) := rfl
theorem D1_callv (y : AX) (args : List AX) : D1 P Q rD σ τ (some d) (.callv y args) g (some G) = Dcv P Q σ d g G rD τ ((τ.ev y).val G).2 args ((τ.ev y).val G).1 := by
  simp only [D1, dBody, Dcv]
  generalize ((τ.ev y).val G).2 = ob
  cases ((τ.ev y).val G).1 <;> try (simp; done)
  · rfl
  · simp only [Dcv1]; cases toArgs (args.map fun y => ((τ.ev y).val G).1) <;> simp
    intro _ _ _; rfl
end
attribute [go_sem] sGuard_n sGuard_s sG2_soft sG2_T sG2_F Snil1_arr Snil_nil Snil_ne Snil_sl Snil_own S1_isnil steps_nil steps_cons SFg_some regA_done regA_nope regA_first regA_fork atS_zero atS_succ atO_zero atO_succ contP_eq contO_some contO_none knotP_fin knotP_one knotP_all knotAll_nil knotAll_cons nthG_zero nthG_succ lookT_nil lookT_cons SP_some Sbox_agg S1_box1 S1_boxN S1_alloc Sbs_none Sbs_none0 Smv_any Smv_opt Scpy1_arr Scpy_some S1_cpy St.into vwEnd Smk_any Smk_opt Sbs_some Sbr_none Sbr_some rowMk_g rowMk_nil rowMk_two rowMk_one rowMk1_any rowMk1_own rowMk1_c rowMk1_agg rowMk2_arr S1_bslice Sst1_box Sst2_box Sst3_arr Sst4_arr Sst_p1 Sst_pN Sst_e1 Sst_eN Sst5_rows Sst_eO S1_st Sapp1_arr Sapp1_rows Sapp_own Sapp_nil S1_app Smks_some S1_mks bndI_none bndI_some Sslc2_some Sslc1_arr Sslc_own Sslc_c S1_slc S1_call S1_callG Scv2_some Scv1_some Scv_pf Scv_fn S1_callv S1_mkmap Sms1_map Sms_own S1_mset Smd1_n Smd1_s Smd_own S1_mdel Smr_mp S1_mrange Smn1_it Smn_own S1_mnext Sme1_it Sme_own S1_mentry stepsD_nil stepsD_cons DP_some Dbs_some bsv_any bsv_opt bsv_g D1_bslice D1_call Dcv1_some Dcv_pf Dcv_fn D1_callv S1_mv S1_pick S1_bin S1_eqs S1_beq S1_not S1_neg S1_ext S1_fad S1_iad S1_iadA S1_ld S1_idx S1_fld S1_nilck S1_conv S1_build S1_len S1_minmax S1_pnil D1_pnil S1_slc3 Sapp_full S1_mkfn S1_look S1_mlen D1_mv D1_pick D1_bin D1_eqs D1_beq D1_not D1_neg D1_ext D1_fad D1_iad D1_iadA D1_ld D1_idx D1_fld D1_nilck D1_conv D1_build D1_len D1_minmax D1_slc3 D1_mkfn D1_look D1_mlen
end Go.AL

namespace Go.AL
open Go Go.RowKit
inductive Sh where
  | int (k : IntKind)
  | bool
  | sl (es : List Sh)
inductive Ty : List Sh → List CD → Prop where
  | nil : Ty [] []
  | int {k : IntKind} {n : Int} {shs : List Sh} {ds : List CD} (h : inK k n) (t : Ty shs ds) : Ty (.int k :: shs) (.sc (.int k n) :: ds)
  | bool {b : Bool} {shs : List Sh} {ds : List CD} (t : Ty shs ds) : Ty (.bool :: shs) (.sc (.bool b) :: ds)
  | sl {es : List Sh} {xs : List (List CD)} {shs : List Sh} {ds : List CD} (h : ∀ x ∈ xs, Ty es x) (t : Ty shs ds) : Ty (.sl es :: shs) (.sl es.length xs :: ds)
theorem Ty.len {shs : List Sh} {ds : List CD} (h : Ty shs ds) : ds.length = shs.length := by
  induction h <;> simp_all
theorem Ty.append {shs shs' : List Sh} {ds ds' : List CD} (h : Ty shs ds) (h' : Ty shs' ds') : Ty (shs ++ shs') (ds ++ ds') := by
  induction h with
  | nil => exact h'
  | int h _ ih => exact .int h ih
  | bool _ ih => exact .bool ih
  | sl h _ _ ih => exact .sl h ih
def shFields (f : TypeId → Option (List Sh)) (P : Program) : Nat → List Field → Option (List Sh)
  | _, [] => some []
  | off, g :: r => match f g.type with
    | some shs => bif Nat.beq g.offset off && Nat.beq shs.length (P.cellsOf g.type) then (match shFields f P (off + shs.length) r with
      | some q => some (shs ++ q)
      | none => none) else none
    | none => none
def shOf (P : Program) : Nat → TypeId → Option (List Sh)
  | 0, _ => none
  | n + 1, t => match P.underlying t with
    | some .bool => some [.bool]
    | some (.int k) => some [.int k]
    | some (.slice e) => match shOf P n e with
      | some es => bif Nat.beq es.length (P.cellsOf e) && !es.isEmpty then some [.sl es] else none
      | none => none
    | some (.struct fs) => match shFields (shOf P n) P 0 fs.toList with
      | some shs => bif Nat.beq shs.length (P.cellsOf t) then some shs else none
      | none => none
    | some (.array k e) => match shOf P n e with
      | some es => bif Nat.beq es.length (P.cellsOf e) && Nat.beq (k * es.length) (P.cellsOf t) then some (List.replicate k es).flatten else none
      | none => none
    | _ => none
def RdAll (w : World) (S : Nat → Prop) (ds : List CD) (cs : List Value) : Prop := cs.length = ds.length ∧ ∀ (j : Nat) (d : CD) (v : Value), ds[j]? = some d → cs[j]? = some v → Rd w S d v
theorem RdAll.append {w : World} {S : Nat → Prop} {ds ds' : List CD} {cs cs' : List Value} (h : RdAll w S ds cs) (h' : RdAll w S ds' cs') : RdAll w S (ds ++ ds') (cs ++ cs') := by
  refine ⟨by simp [h.1, h'.1], fun j d v hd hv => ?_⟩
  rcases Nat.lt_or_ge j ds.length with hj | hj
  · rw [List.getElem?_append_left hj] at hd
    rw [List.getElem?_append_left (by rw [h.1]; exact hj)] at hv
    exact h.2 j d v hd hv
  · rw [List.getElem?_append_right hj] at hd
    rw [List.getElem?_append_right (by rw [h.1]; exact hj), h.1] at hv
    exact h'.2 _ d v hd hv
theorem RdAll.one {w : World} {S : Nat → Prop} {d : CD} {v : Value} (h : Rd w S d v) : RdAll w S [d] [v] := by
  refine ⟨rfl, fun j d' v' hd hv => ?_⟩
  cases j with
  | zero => simp at hd hv; subst hd; subst hv; exact h
  | succ j => simp at hd
theorem inK_of_wf {k : IntKind} {n : Int} (h : (Lit.int k n).wf = true) : inK k n := by
  simpa [Lit.wf, inK] using h
section
variable {H : Type} {enc : TypeId × Value → H} {P : Program} {w : World} {spare : Nat → Bool}
theorem fields_rd {f : TypeId → Option (List Sh)} {cs : List Value} {fuel : Nat}
    (hf : ∀ t cs x shs, f t = some shs → DataW.trod enc P w 0 spare true fuel t cs = some x → ∃ ds, Ty shs ds ∧ RdAll w (fun b => b < w.heap.size) ds cs) :
    ∀ (fs : List Field) (off : Nat) (shs : List Sh), shFields f P off fs = some shs → (∀ g ∈ fs, ∃ x, DataW.trod enc P w 0 spare true fuel g.type ((cs.drop g.offset).take (P.cellsOf g.type)) = some x) →
      ∃ ds, Ty shs ds ∧ RdAll w (fun b => b < w.heap.size) ds ((cs.drop off).take shs.length)
  | [], off, shs, h, _ => by
    simp [shFields] at h; subst h
    exact ⟨[], .nil, by simp [RdAll]⟩
  | g :: r, off, shs, h, hx => by
    simp only [shFields] at h
    split at h
    · rename_i es he
      cases hc : Nat.beq g.offset off && Nat.beq es.length (P.cellsOf g.type) with
      | false => rw [hc] at h; simp at h
      | true =>
        rw [hc] at h
        simp only [cond_true] at h
        simp only [Bool.and_eq_true] at hc
        have h1 := Nat.eq_of_beq_eq_true hc.1
        have h2 := Nat.eq_of_beq_eq_true hc.2
        split at h
        · rename_i q hq
          simp at h; subst h
          obtain ⟨x, hx0⟩ := hx g (by simp)
          obtain ⟨ds, ht, hr⟩ := hf _ _ _ _ he hx0
          obtain ⟨ds', ht', hr'⟩ := fields_rd hf r _ _ hq (fun g hg => hx g (by simp [hg]))
          refine ⟨ds ++ ds', ht.append ht', ?_⟩
          have : (cs.drop off).take (es ++ q).length = (cs.drop g.offset).take (P.cellsOf g.type) ++ (cs.drop (off + es.length)).take q.length := by
            rw [h1, ← h2, List.length_append, List.take_add, List.drop_drop]
          rw [this]
          exact hr.append hr'
        · cases h
    · cases h
theorem array_rd {es : List Sh} {e : TypeId} {cs : List Value} {fuel : Nat} (hk : es.length = P.cellsOf e)
    (hf : ∀ cs x, DataW.trod enc P w 0 spare true fuel e cs = some x → ∃ ds, Ty es ds ∧ RdAll w (fun b => b < w.heap.size) ds cs) :
    ∀ (n : Nat), (∀ i, i < n → ∃ x, DataW.trod enc P w 0 spare true fuel e ((cs.drop (i * P.cellsOf e)).take (P.cellsOf e)) = some x) →
      ∃ ds, Ty (List.replicate n es).flatten ds ∧ RdAll w (fun b => b < w.heap.size) ds (cs.take (n * es.length))
  | 0, _ => ⟨[], .nil, by simp [RdAll]⟩
  | n + 1, hx => by
    obtain ⟨ds, ht, hr⟩ := array_rd hk hf n (fun i hi => hx i (by omega))
    obtain ⟨x, hx0⟩ := hx n (by omega)
    obtain ⟨ds', ht', hr'⟩ := hf _ _ hx0
    refine ⟨ds ++ ds', ?_, ?_⟩
    · rw [List.replicate_succ', List.flatten_append]
      simpa using ht.append ht'
    · have : cs.take ((n + 1) * es.length) = cs.take (n * es.length) ++ (cs.drop (n * P.cellsOf e)).take (P.cellsOf e) := by
        rw [Nat.add_mul, Nat.one_mul, List.take_add, hk]
      rw [this]
      exact hr.append hr'
theorem trod_rd : ∀ (n fuel : Nat) (t : TypeId) (cs : List Value) (x : DataW H × List MemPlace) (shs : List Sh), shOf P n t = some shs → DataW.trod enc P w 0 spare true fuel t cs = some x →
    ∃ ds, Ty shs ds ∧ RdAll w (fun b => b < w.heap.size) ds cs
  | 0, _, _, _, _, _, h, _ => by simp [shOf] at h
  | n + 1, fuel, t, cs, x, shs, h, ht => by
    simp only [shOf] at h
    split at h
    · rename_i hu
      simp at h; subst h
      obtain ⟨b, rfl, _⟩ := DataW.trod_bool hu ht
      exact ⟨[.sc (.bool b)], .bool .nil, .one (.sc trivial)⟩
    · rename_i k hu
      simp at h; subst h
      obtain ⟨m, rfl, _, hw⟩ := DataW.trod_int hu ht
      have hk := inK_of_wf hw
      exact ⟨[.sc (.int k m)], .int hk .nil, .one (.sc hk)⟩
    · rename_i e hu
      split at h
      · rename_i es he
        cases hc : Nat.beq es.length (P.cellsOf e) && !es.isEmpty with
        | false => rw [hc] at h; simp at h
        | true =>
          rw [hc] at h
          simp at h; subst h
          simp only [Bool.and_eq_true] at hc
          have hk := Nat.eq_of_beq_eq_true hc.1
          have hpos : 0 < es.length := by
            cases es with
            | nil => simp at hc
            | cons a b => simp
          rcases DataW.trod_slice hu ht with ⟨rfl, _⟩ | ⟨a, len, cap, elems, rest, m, rfl, rfl, rfl, _, hlc, hcm, hel, hcell, _, _⟩
          · exact ⟨[.sl es.length []], .sl (by simp) .nil, .one (.sl0 (by unfold maxLen; omega) (fun _ => rfl))⟩
          · cases len with
            | zero => exact ⟨[.sl es.length []], .sl (by simp) .nil, .one (.sl0 hcm (fun h => by cases h))⟩
            | succ len =>
              have key : ∀ i, ∃ y : List CD × List Value, i < len + 1 → Ty es y.1 ∧ RdAll w (fun b => b < w.heap.size) y.1 y.2 ∧ w.cells? 0 (a.add (i * P.cellsOf e)) (P.cellsOf e) = some y.2 := by
                intro i
                by_cases hi : i < len + 1
                · have h1 := hcell i hi
                  have h2 : i < elems.length := by omega
                  rw [List.getElem?_eq_getElem h2] at h1
                  simp only [Option.bind_eq_some_iff] at h1
                  obtain ⟨ci, hci, hti⟩ := h1
                  obtain ⟨ds, hty, hrd⟩ := trod_rd n m e ci _ es he hti
                  exact ⟨(ds, ci), fun _ => ⟨hty, hrd, hci⟩⟩
                · exact ⟨([], []), fun h => absurd h hi⟩
              obtain ⟨g, hg⟩ := Classical.axiomOfChoice key
              have hlen : ((List.range (len + 1)).map fun i => (g i).1).length = len + 1 := by simp
              refine ⟨[.sl es.length ((List.range (len + 1)).map fun i => (g i).1)], .sl ?_ .nil, .one ?_⟩
              · intro y hy
                simp only [List.mem_map, List.mem_range] at hy
                obtain ⟨i, hi, rfl⟩ := hy
                exact (hg i hi).1
              · have cellAt : ∀ i j, i < len + 1 → j < es.length → w.cell? (a.add (i * es.length + j)) = some ((g i).2.getD j default) := by
                  intro i j hi hj
                  obtain ⟨hty, hrd, hc⟩ := hg i hi
                  obtain ⟨_, h1, h2⟩ := World.cells?_some hc
                  have h3 := h2 j (by rw [← hk]; exact hj)
                  rw [add_add', ← hk] at h3
                  rw [h3]
                  have : j < (g i).2.length := by rw [h1, ← hk]; exact hj
                  simp [List.getD, this]
                have hS : a.block < w.heap.size := by
                  have h1 := World.block_lt_of_cell? w _ (cellAt 0 0 (by omega) hpos)
                  rwa [block_add] at h1
                have := Rd.sl (w := w) (S := fun b => b < w.heap.size) (k := es.length) (xs := (List.range (len + 1)).map fun i => (g i).1) (a := a) (cap := cap) (fun i j => (g i).2.getD j default) (by rw [hlen]; exact hlc) hcm hS
                  (by intro y hy; simp only [List.mem_map, List.mem_range] at hy; obtain ⟨i, hi, rfl⟩ := hy; exact (hg i hi).1.len)
                  (by rw [hlen]; exact cellAt)
                  (by
                    intro i j y d hy hd
                    have hi : i < len + 1 := by have := (List.getElem?_eq_some_iff.1 hy).1; rwa [hlen] at this
                    simp [hi] at hy
                    subst hy
                    have hj : j < (g i).1.length := (List.getElem?_eq_some_iff.1 hd).1
                    have h2 : j < (g i).2.length := by rw [(hg i hi).2.1.1]; exact hj
                    refine (hg i hi).2.1.2 j d _ hd ?_
                    simp [List.getD, h2])
                rwa [hlen] at this
      · cases h
    · rename_i fs hu
      split at h
      · rename_i es he
        cases hc : Nat.beq es.length (P.cellsOf t) with
        | false => rw [hc] at h; simp at h
        | true =>
          rw [hc] at h
          simp at h; subst h
          have hk := Nat.eq_of_beq_eq_true hc
          obtain ⟨xs, m, rfl, _, hl, hxl, hx⟩ := DataW.trod_struct hu ht
          obtain ⟨ds, hty, hrd⟩ := fields_rd (f := shOf P n) (cs := cs) (fuel := m) (fun t cs x shs h1 h2 => trod_rd n m t cs x shs h1 h2) fs.toList 0 es he (fun g hg => by
            obtain ⟨i, hi⟩ := List.getElem?_of_mem hg
            have hi' : fs[i]? = some g := by simpa using hi
            have hil : i < xs.length := by rw [hxl]; have := (List.getElem?_eq_some_iff.1 hi).1; simpa using this
            exact ⟨xs[i], by rw [hx i g hi']; exact List.getElem?_eq_getElem hil⟩)
          refine ⟨ds, hty, ?_⟩
          rw [List.drop_zero, List.take_of_length_le (by omega)] at hrd
          exact hrd
      · cases h
    · rename_i k e hu
      split at h
      · rename_i es he
        cases hc : Nat.beq es.length (P.cellsOf e) && Nat.beq (k * es.length) (P.cellsOf t) with
        | false => rw [hc] at h; simp at h
        | true =>
          rw [hc] at h
          simp at h; subst h
          simp only [Bool.and_eq_true] at hc
          have hk := Nat.eq_of_beq_eq_true hc.1
          have hk2 := Nat.eq_of_beq_eq_true hc.2
          obtain ⟨xs, m, rfl, _, hl, hxl, hx⟩ := DataW.trod_array hu ht
          obtain ⟨ds, hty, hrd⟩ := array_rd (cs := cs) hk (fun cs x h2 => trod_rd n m e cs x es he h2) k (fun i hi => by
            have hil : i < xs.length := by omega
            exact ⟨xs[i], by rw [hx i hi]; exact List.getElem?_eq_getElem hil⟩)
          refine ⟨ds, hty, ?_⟩
          rw [List.take_of_length_le (by omega)] at hrd
          exact hrd
      · cases h
    · cases h
def isAggT (P : Program) (t : TypeId) : Bool := match P.underlying t with
  | some (.struct _) | some (.array _ _) => true
  | _ => false
def avOf : Bool → List CD → AV
  | true, ds => .agg (ds.map AV.c)
  | false, [d] => .c d
  | false, _ => .any
theorem open_arg {x : Ctx} {φ : Nat → Value} {n base : Nat} {t : TypeId} {v : Value} {d : DataW H} {ps : List MemPlace} {shs : List Sh} (hok : Value.okWide P w .any base t v) (h : DataW.Trod enc P w 0 spare true t v d ps) (hs : shOf P n t = some shs) :
    ∃ ds, Ty shs ds ∧ AVR x w (fun b => b < w.heap.size) φ (avOf (isAggT P t) ds) v := by
  obtain ⟨fuel, h⟩ := h
  obtain ⟨ds, hty, hl, hrd⟩ := trod_rd n fuel t _ _ shs hs h
  refine ⟨ds, hty, ?_⟩
  unfold isAggT
  unfold Value.okWide at hok
  split
  · rename_i fs hu
    rw [hu] at hok
    simp only at hok
    obtain ⟨cs, rfl, _, _⟩ := hok
    have := aggC (x := x) (φ := φ) (vs := cs.toList) (ds := ds) (by simpa [Value.cells] using hl) (by simpa [Value.cells] using hrd)
    simpa [avOf] using this
  · rename_i k e hu
    rw [hu] at hok
    simp only at hok
    obtain ⟨cs, rfl, _, _⟩ := hok
    have := aggC (x := x) (φ := φ) (vs := cs.toList) (ds := ds) (by simpa [Value.cells] using hl) (by simpa [Value.cells] using hrd)
    simpa [avOf] using this
  · rename_i h1 h2
    match ds, hl, hrd with
    | [d], hl, hrd =>
      by_cases hv : ∃ cs, v = .agg cs
      · obtain ⟨cs, rfl⟩ := hv
        cases n with
        | zero => simp [shOf] at hs
        | succ n =>
        simp only [shOf] at hs
        split at hs
        · rename_i hu; rw [hu] at hok; simp [Cell.okWide, hu, Cell.ok] at hok
        · rename_i hu; rw [hu] at hok; simp [Cell.okWide, hu, Cell.ok] at hok
        · rename_i hu; rw [hu] at hok; simp [Cell.okWide, hu, Cell.ok] at hok
        · rename_i fs hu; exact absurd hu (h1 fs)
        · rename_i k e hu; exact absurd hu (h2 k e)
        · cases hs
      · have : v.cells.toList = [v] := by
          cases v <;> first | rfl | exact absurd ⟨_, rfl⟩ hv
        rw [this] at hrd
        exact .c (hrd 0 d v rfl rfl)
    | [], _, _ => exact .any
    | _ :: _ :: _, _, _ => exact .any
def shParams (P : Program) (n : Nat) : List TypeId → Option (List (Bool × List Sh))
  | [] => some []
  | t :: r => match shOf P n t, shParams P n r with
    | some s, some q => some ((isAggT P t, s) :: q)
    | _, _ => none
inductive TyArgs : List (Bool × List Sh) → List AV → Prop where
  | nil : TyArgs [] []
  | cons {b : Bool} {s : List Sh} {ds : List CD} {r : List (Bool × List Sh)} {as : List AV} (h : Ty s ds) (t : TyArgs r as) : TyArgs ((b, s) :: r) (avOf b ds :: as)
theorem open_args {x : Ctx} {φ : Nat → Value} {n base : Nat} : ∀ {ts : List TypeId} {vs : List Value} {ds : List (DataW H)} {ps : List MemPlace} {shs : List (Bool × List Sh)}, (∀ (j : Nat) (t : TypeId) (v : Value), ts[j]? = some t → vs[j]? = some v → Value.okWide P w .any base t v) →
    DataW.TrodAll enc P w 0 spare true ts vs ds ps → shParams P n ts = some shs →
    ∃ as, TyArgs shs as ∧ vs.length = as.length ∧ ∀ (j : Nat) (r : AV) (v : Value), as[j]? = some r → vs[j]? = some v → AVR x w (fun b => b < w.heap.size) φ r v
  | [], vs, ds, ps, shs, _, h, hs => by
    obtain ⟨rfl, rfl, rfl⟩ := ChangeShapes.trodAll_nil h
    simp [shParams] at hs; subst hs
    exact ⟨[], .nil, rfl, by simp⟩
  | t :: ts, vs, ds, ps, shs, hok, h, hs => by
    obtain ⟨v, vs, d, ds, p, q, rfl, rfl, rfl, hd, hr⟩ := ChangeShapes.trodAll_cons h
    simp only [shParams] at hs
    split at hs
    · rename_i s q' h1 h2
      simp at hs; subst hs
      obtain ⟨es, hty, ha⟩ := open_arg (x := x) (φ := φ) (hok 0 t v rfl rfl) hd h1
      obtain ⟨as, hta, hl, hrel⟩ := open_args (x := x) (φ := φ) (fun j t v ht hv => hok (j + 1) t v (by simpa using ht) (by simpa using hv)) hr h2
      refine ⟨_ :: as, .cons hty hta, by simp [hl], fun j r u hj hu => ?_⟩
      cases j with
      | zero => simp at hj hu; subst hj; subst hu; exact ha
      | succ j => exact hrel j r u (by simpa using hj) (by simpa using hu)
    · cases hs
theorem trodAll_len : ∀ {ts : List TypeId} {vs : List Value} {ds : List (DataW H)} {ps : List MemPlace}, DataW.TrodAll enc P w 0 spare true ts vs ds ps → vs.length = ts.length ∧ ds.length = ts.length
  | [], _, _, _, h => by
    obtain ⟨rfl, rfl, rfl⟩ := ChangeShapes.trodAll_nil h
    exact ⟨rfl, rfl⟩
  | _ :: _, _, _, _, h => by
    obtain ⟨v, vs, d, ds, p, q, rfl, rfl, rfl, _, hr⟩ := ChangeShapes.trodAll_cons h
    have := trodAll_len hr
    simp [this]
theorem Below.trodAll (hl : laidOutB P = true) {W W' : World} (hb : Below W.heap.size W W') : ∀ {ts : List TypeId} {vs : List Value} {ds : List (DataW H)} {ps : List MemPlace}, (∀ t ∈ ts, P.readableRec t = true ∧ t < P.types.size) →
    DataW.TrodAll enc P W 0 (fun _ => true) true ts vs ds ps → (∀ x ∈ ps, x.block < W.heap.size) → DataW.TrodAll enc P W' 0 (fun b => decide (b < W.heap.size)) true ts vs ds ps
  | [], _, _, _, _, h, _ => by
    obtain ⟨rfl, rfl, rfl⟩ := ChangeShapes.trodAll_nil h
    exact rfl
  | t :: ts, _, _, _, hr, h, hlt => by
    obtain ⟨v, vs, d, ds, p, q, rfl, rfl, rfl, hd, hrest⟩ := ChangeShapes.trodAll_cons h
    exact ⟨p, q, Below.trod hl (hr t (by simp)).1 (hr t (by simp)).2 hd hb (fun x hx => hlt x (by simp [hx])), Below.trodAll hl hb (fun t ht => hr t (by simp [ht])) hrest (fun x hx => hlt x (by simp [hx])), rfl⟩
end
theorem law_lifted {C : Checked} {f tb n : Nat} {fn : Func} {s : ChangeSpec} {shs : List (Bool × List Sh)} (own : ownKnob C.prog.godebug = none) (hl : laidOutB C.prog = true) (noInit : C.prog.inits.idxOf? f = none) (hfn : C.prog.funcs[f]? = some fn)
    (hr : ∀ t ∈ fn.params.toList, C.prog.readableRec t = true ∧ t < C.prog.types.size) (hrt : fn.resultTypes = #[tb]) (htb : C.prog.underlying tb = some .bool) (hv : s.vars = []) (hsh : shParams C.prog n fn.params.toList = some shs)
    (hs : ∀ (H : Type) (ds : List (DataW H)), ds.length = fn.params.size → s.fn H ds = { results := [.lit (.bool true)], args := ds })
    (hF : ∀ as, TyArgs shs as → FnR C.prog f as [.c (.B true)])
    (os : Os) (started : os.Started) (H : Type) (enc : TypeId × Value → H)
    (witness : ∃ (w : World) (tape : Tape) (i : Input), w.os = os ∧ (w.forCall tape i).Shaped C.prog ∧ i.vars = [] ∧ Input.okWide C.prog (w.forCall tape i) .any w.heap.size f i ∧
      s.pre6 enc C.prog fn [] false (w.forCall tape i).memory i.args ∧ ({} : Assume).holds C.prog (lone (Frame.enter C.prog f i.args .normal) [] (w.forCall tape i))) :
    ReturnsInHanded {} C os f .any (s.pre6 enc C.prog fn [] false) (s.post enc C.prog fn false true false false) := by
  refine returnsInHanded_of_change own started noInit hfn witness ?_
  intro W base args ds gs before hval hW _ _
  have hW' := hW
  obtain ⟨p, q, hA, hV, rfl, hfz, hnd⟩ := hW
  have hV0 : gs = [] ∧ q = [] := by
    rw [hv] at hV
    cases gs with
    | nil => exact ⟨rfl, hV⟩
    | cons g r => exact hV.elim
  obtain ⟨rfl, rfl⟩ := hV0
  have hlen : args.toList.length = fn.params.toList.length ∧ ds.length = fn.params.toList.length := by
    have := trodAll_len hA
    exact this
  have hlt : ∀ x ∈ p, x.block < W.heap.size := fun x hx => by simpa using hW'.lt x (by simpa using hx)
  obtain ⟨as, hta, hal, hrel⟩ := open_args (x := ⟨C.prog, W, fun b => b < W.heap.size, fun _ => False, fun _ => undef⟩) (φ := fun _ => undef) (n := n) (base := base) (fun j t v ht hv => hval j t v (by simpa using ht) (by simpa using hv)) hA hsh
  have hc := (hF as hta).2 W (fun b => b < W.heap.size) (fun _ => undef) args.toList (fun _ h => h) hal hrel
  have : args.toList.toArray = args := by simp
  rw [this] at hc
  refine hc.mono ?_
  rintro e W' ⟨us, S', rfl, hres, hbel⟩
  match us, hres.len with
  | [u], _ =>
    have h1 := hres.rel 0 _ u rfl rfl
    cases h1
    refine ⟨_, rfl, ds, [], p ++ [], [], p, [], hW', ?_, ?_, ?_, hbel.frame _, fun h => by cases h⟩
    · rw [hrt, List.append_nil, hs H ds (by simpa using hlen.2)]
      exact ChangeShapes.trodAll_mk1 (shut_bool htb true)
    · rw [List.append_nil, hs H ds (by simpa using hlen.2)]
      exact Below.trodAll hl hbel hr hA hlt
    · rw [hv]
      rw [List.append_nil, hs H ds (by simpa using hlen.2)]
      exact rfl
end Go.AL

namespace Go.AL
open Go Go.RowKit
def keepT (σ : St) (ov : List (Nat × AV)) : List Nat → List (Nat × AV)
  | [] => []
  | t :: r => bif hasKey t ov then keepT σ ov r else (t, σ.get t) :: keepT σ ov r
def keepO (ws : List Nat) (oo : List (Nat × AO)) : List (Nat × AO) → List (Nat × AO)
  | [] => []
  | (i, o) :: r => bif inL i ws || hasKey i oo then keepO ws oo r else (i, o) :: keepO ws oo r
def St.head (σ : St) (ks ws : List Nat) (ov : List (Nat × AV)) (oo : List (Nat × AO)) : St := ⟨σ.n, ov ++ keepT σ ov ks, oo ++ keepO ws oo σ.ob⟩
theorem get_go_append (t : Nat) : ∀ (l l' : List (Nat × AV)), St.get.go t (l ++ l') = bif hasKey t l then St.get.go t l else St.get.go t l'
  | [], l' => rfl
  | (s, a) :: r, l' => by
    simp only [List.cons_append, St.get.go, hasKey]
    cases Nat.beq t s with
    | true => simp
    | false => simp [get_go_append t r l']
theorem get_keepT (σ : St) (ov : List (Nat × AV)) (t : Nat) : ∀ ks : List Nat, St.get.go t (keepT σ ov ks) = .any ∨ St.get.go t (keepT σ ov ks) = σ.get t
  | [] => .inl rfl
  | s :: r => by
    simp only [keepT]
    cases hasKey s ov with
    | true => exact get_keepT σ ov t r
    | false =>
      simp only [cond_false, St.get.go]
      cases hb : Nat.beq t s with
      | true => have := Nat.eq_of_beq_eq_true hb; subst this; exact .inr rfl
      | false => exact get_keepT σ ov t r
theorem obGet_append (t : Nat) : ∀ (l l' : List (Nat × AO)), obGet t (l ++ l') = bif hasKey t l then obGet t l else obGet t l'
  | [], l' => rfl
  | (s, a) :: r, l' => by
    simp only [List.cons_append, obGet, hasKey]
    cases Nat.beq t s with
    | true => simp
    | false => simp [obGet_append t r l']
theorem obGet_keepO (ws : List Nat) (oo : List (Nat × AO)) (i : Nat) (o : AO) : ∀ l : List (Nat × AO), (inL i ws || hasKey i oo) = false → obGet i (keepO ws oo l) = obGet i l
  | [], _ => rfl
  | (s, a) :: r, h => by
    have ih := obGet_keepO ws oo i o r h
    simp only [keepO, obGet]
    cases hb : Nat.beq i s with
    | true =>
      have := Nat.eq_of_beq_eq_true hb; subst this
      rw [h]; simp [obGet]
    | false =>
      cases inL s ws || hasKey s oo with
      | true => simpa using ih
      | false => simp [obGet, hb, ih]
theorem obGet_keepO' (ws : List Nat) (oo : List (Nat × AO)) (i : Nat) : ∀ l : List (Nat × AO), (inL i ws || hasKey i oo) = true → obGet i (keepO ws oo l) = none
  | [], _ => rfl
  | (s, a) :: r, h => by
    have ih := obGet_keepO' ws oo i r h
    simp only [keepO]
    cases hb : Nat.beq i s with
    | true =>
      have := Nat.eq_of_beq_eq_true hb; subst this
      rw [h]; simpa using ih
    | false =>
      cases inL s ws || hasKey s oo with
      | true => simpa using ih
      | false => simp [obGet, hb, ih]
section
variable {P : Program} {Q : Exit → St → Prop} {σ : St}
theorem Sim.le' {x : Ctx} {S : Nat → Prop} {φ : Nat → Value} {σ τ : St} {a : Act} {w : World} (h : Sim x S φ σ a w) (hn : σ.n = τ.n) (ht : ∀ t, τ.get t = .any ∨ τ.get t = σ.get t) (ho : ∀ i o, obGet i τ.ob = some o → obGet i σ.ob = some o) : Sim x S φ τ a w where
  tms := fun t => by
    rcases ht t with h1 | h1
    · rw [h1]; exact .any
    · rw [h1]; exact h.tms t
  size := h.size.trans hn
  obs := fun id o h1 => h.obs id o (ho id o h1)
  own := fun id o b h1 hb => h.own id o b (ho id o h1) hb
  inj := fun id id' o o' b h1 h2 => h.inj id id' o o' b (ho id o h1) (ho id' o' h2)
  inr := fun id o b h1 hb => let ⟨g1, g2⟩ := h.inr id o b (ho id o h1) hb; ⟨g1, fun id' o' h' => g2 id' o' (ho id' o' h')⟩
  dat := h.dat
  ext := h.ext
  defers := h.defers
  small := hn ▸ h.small
  pins := h.pins
theorem Sim.head {x : Ctx} {S : Nat → Prop} {φ : Nat → Value} {σ : St} {a : Act} {w : World} (h : Sim x S φ σ a w) (ks ws : List Nat) (ov : List (Nat × AV)) (oo : List (Nat × AO)) (h1 : σ.le1 ov) (h2 : σ.le2 oo) : Sim x S φ (σ.head ks ws ov oo) a w := by
  refine h.le' rfl (fun t => ?_) fun i o ho => ?_
  · have e : (σ.head ks ws ov oo).get t = St.get.go t (ov ++ keepT σ ov ks) := rfl
    rw [e, get_go_append]
    cases hasKey t ov with
    | true => exact le1_get h1 t
    | false => exact get_keepT σ ov t ks
  · have ho : obGet i (oo ++ keepO ws oo σ.ob) = some o := ho
    rw [obGet_append] at ho
    cases hk : hasKey i oo with
    | true => rw [hk] at ho; exact le2_get h2 i o ho
    | false =>
      rw [hk] at ho
      simp only [cond_false] at ho
      cases hw : inL i ws with
      | true => rw [obGet_keepO' ws oo i σ.ob (by rw [hw]; rfl)] at ho; cases ho
      | false => rwa [obGet_keepO ws oo i o σ.ob (by rw [hw, hk]; rfl)] at ho
def RoundTo {ι : Type} (R : ι → Prop) (I : ι → St) (μ : ι → Nat) (i : ι) (τ : St) : Prop := ∃ j ids, R j ∧ μ j < μ i ∧ (frzSt ids τ).le (I j)
theorem RoundTo.frz {ι : Type} {R : ι → Prop} {I : ι → St} {μ : ι → Nat} {i : ι} {τ : St} (ids : List Nat) (j : ι) (hR : R j) (hμ : μ j < μ i) (hl : (frzSt ids τ).le (I j)) : RoundTo R I μ i τ := ⟨j, ids, hR, hμ, hl⟩
theorem RoundTo.mk {ι : Type} {R : ι → Prop} {I : ι → St} {μ : ι → Nat} {i : ι} {τ : St} (j : ι) (hR : R j) (hμ : μ j < μ i) (hl : τ.le (I j)) : RoundTo R I μ i τ := ⟨j, [], hR, hμ, hl⟩
def roundQ {ι : Type} (R : ι → Prop) (I : ι → St) (μ : ι → Nat) (i : ι) (Q : Exit → St → Prop) : Exit → St → Prop
  | .normal, τ => RoundTo R I μ i τ
  | e, τ => Q e τ
theorem AW_loopI {b : AC} {ι : Type} (R : ι → Prop) (I : ι → St) (μ : ι → Nat) (i0 : ι) (hR : R i0) (h : ∀ i, R i → AW P b (roundQ R I μ i Q) (I i)) : AW P (.loop b) Q (I i0) := fun code hc x S φ a w hx hs => by
  cases code <;> simp [comp] at hc
  case loop y =>
    intro b k cs
    have key : ∀ n i, μ i = n → R i → ∀ S φ a w, Sim x S φ (I i) a w →
        ∃ e a' w', simQ x Q e a' w' ∧ Arrives P (lone (b.at a (.code y :: .inLoop y :: k)) cs w) b k cs e a' w' := by
      intro n
      induction n using Nat.strongRecOn with
      | _ n ih =>
        intro i hi hri S φ a w hs
        obtain ⟨e, a₁, w₁, hq, harr⟩ := h i hri y hc x S φ a w hx hs b (.inLoop y :: k) cs
        obtain ⟨τ, S', φ', hq, hs'⟩ := hq
        cases e with
        | normal =>
          obtain ⟨j, ids, hj0, hj, hl⟩ := hq
          obtain ⟨T, hsT, _⟩ := Sim.frzs ids (as := []) (vs := []) hs' (fun _ _ _ h => by simp at h)
          obtain ⟨e₂, a₂, w₂, hq₂, harr₂⟩ := ih (μ j) (hi ▸ hj) j rfl hj0 T φ' a₁ w₁ (hsT.le hl)
          exact ⟨e₂, a₂, w₂, hq₂, .of_steps (Steps.trans harr (.one step_inLoop)) harr₂⟩
        | exit id => exact ⟨_, a₁, w₁, ⟨τ, S', φ', hq, hs'⟩, .pass (x := .inLoop y) rfl (fun _ _ => .inl (by simp)) harr⟩
        | goto l => exact ⟨_, a₁, w₁, ⟨τ, S', φ', hq, hs'⟩, .pass (x := .inLoop y) rfl (fun _ _ => .inl (by simp)) harr⟩
        | ret => exact ⟨_, a₁, w₁, ⟨τ, S', φ', hq, hs'⟩, .pass (x := .inLoop y) rfl (fun _ _ => .inl (by simp)) harr⟩
        | panic ch => exact ⟨_, a₁, w₁, ⟨τ, S', φ', hq, hs'⟩, .pass (x := .inLoop y) rfl (fun _ _ => .inl (by simp)) harr⟩
        | outgrown => exact ⟨_, a₁, w₁, ⟨τ, S', φ', hq, hs'⟩, .pass (x := .inLoop y) rfl (fun _ _ => .inl (by simp)) harr⟩
    obtain ⟨e, a', w', hq, harr⟩ := key _ i0 rfl hR S φ a w hs
    exact ⟨e, a', w', hq, .of_steps (.one step_loop) harr⟩
  all_goals (first | exact (compReg_ne hc (by simp) (by simp)).elim | (split at hc <;> simp at hc) | (repeat (obtain ⟨_, _, hc⟩ := hc)))
theorem AW_loopK {b : AC} {ι : Type} (ks ws : List Nat) (R : ι → Prop) (ov : ι → List (Nat × AV)) (oo : ι → List (Nat × AO)) (μ : ι → Nat) (i0 : ι) (hR : R i0) (h0 : σ.le1 (ov i0) ∧ σ.le2 (oo i0))
    (h : ∀ i, R i → AW P b (roundQ R (fun j => σ.head ks ws (ov j) (oo j)) μ i Q) (σ.head ks ws (ov i) (oo i))) : AW P (.loop b) Q σ :=
  fun code hc x S φ a w hx hs => AW_loopI R (fun j => σ.head ks ws (ov j) (oo j)) μ i0 hR h code hc x S φ a w hx (hs.head ks ws _ _ h0.1 h0.2)
end
theorem ble_dec (a b : Nat) : Nat.ble a b = decide (a ≤ b) := by
  rw [Bool.eq_iff_iff, Nat.ble_eq, decide_eq_true_eq]
attribute [go_sem] List.take_nil ble_dec keepT keepO St.head roundQ
end Go.AL

namespace Go.AL
open Go Go.RowKit
theorem map_of {α β : Type} {f : α → β} : ∀ {xs : List β}, (∀ x ∈ xs, ∃ s, x = f s) → ∃ l : List α, xs = l.map f
  | [], _ => ⟨[], rfl⟩
  | x :: r, h => by
    obtain ⟨s, rfl⟩ := h x (by simp)
    obtain ⟨l, rfl⟩ := map_of (xs := r) (fun y hy => h y (by simp [hy]))
    exact ⟨s :: l, rfl⟩
theorem Ty.int_inv {k : IntKind} {shs : List Sh} {ds : List CD} (h : Ty (.int k :: shs) ds) : ∃ n r, ds = .sc (.int k n) :: r ∧ inK k n ∧ Ty shs r := by
  cases h with | int h t => exact ⟨_, _, rfl, h, t⟩
theorem Ty.sl_inv {es shs : List Sh} {ds : List CD} (h : Ty (.sl es :: shs) ds) : ∃ xs r, ds = .sl es.length xs :: r ∧ (∀ x ∈ xs, Ty es x) ∧ Ty shs r := by
  cases h with | sl h t => exact ⟨_, _, rfl, h, t⟩
theorem Ty.nil_inv {ds : List CD} (h : Ty [] ds) : ds = [] := by cases h; rfl
theorem TyArgs.cons_inv {b : Bool} {s : List Sh} {r : List (Bool × List Sh)} {as : List AV} (h : TyArgs ((b, s) :: r) as) : ∃ ds q, as = avOf b ds :: q ∧ Ty s ds ∧ TyArgs r q := by
  cases h with | cons h t => exact ⟨_, _, rfl, h, t⟩
theorem TyArgs.nil_inv {as : List AV} (h : TyArgs [] as) : as = [] := by cases h; rfl
end Go.AL

namespace Go.AL
open Go Go.RowKit
mutual
def AV.ren (ρ : Nat → Nat) : AV → AV
  | .agg cs => .agg (renL ρ cs)
  | .tup vs => .tup (renL ρ vs)
  | .own i => .own (ρ i)
  | .ptr i o => .ptr (ρ i) o
  | .eptr i k j o => .eptr (ρ i) k j o
  | .fn f caps => .fn f (renL ρ caps)
  | .mp i => .mp (ρ i)
  | .opt g v => .opt g (v.ren ρ)
  | .c d => .c d
  | .dptr cs => .dptr cs
  | .full k xs => .full k xs
  | .osl n i d => .osl n i (ρ d)
  | .odp d => .odp (ρ d)
  | .vw i k l h => .vw (ρ i) k l h
  | .pf p => .pf p
  | .any => .any
def renL (ρ : Nat → Nat) : List AV → List AV
  | [] => []
  | a :: r => a.ren ρ :: renL ρ r
end
def AO.ren (ρ : Nat → Nat) : AO → AO
  | .box t cs => .box t (renL ρ cs)
  | .arr e k xs => .arr e k xs
  | .map kk es => .map kk es
  | .iter kk l c => .iter kk l c
  | .rows e ek k xss hole who => .rows e ek k xss hole (who.map ρ)
  | .rows2 e ek k xss h h' w w' => .rows2 e ek k xss h h' (w.map ρ) (w'.map ρ)
def renOb (ρ : Nat → Nat) : List (Nat × AO) → List (Nat × AO)
  | [] => []
  | (i, o) :: r => (ρ i, o.ren ρ) :: renOb ρ r
set_option linter.unusedSectionVars false
section
variable {ρ : Nat → Nat}
theorem renL_get : ∀ (l : List AV) (j : Nat), (renL ρ l)[j]? = (l[j]?).map (AV.ren ρ)
  | [], j => by simp [renL]
  | a :: r, 0 => by simp [renL]
  | a :: r, j + 1 => by simpa [renL] using renL_get r j
theorem renL_len : ∀ (l : List AV), (renL ρ l).length = l.length
  | [] => rfl
  | a :: r => by simp [renL, renL_len r]
variable (hρ : ∀ i, ρ (ρ i) = i)
include hρ
mutual
theorem ren_ren : ∀ a : AV, (a.ren ρ).ren ρ = a
  | .agg cs => by simp only [AV.ren, renL_renL cs]
  | .tup cs => by simp only [AV.ren, renL_renL cs]
  | .own i => by simp only [AV.ren, hρ]
  | .ptr i _ => by simp only [AV.ren, hρ]
  | .eptr i _ _ _ => by simp only [AV.ren, hρ]
  | .fn f cs => by simp only [AV.ren, renL_renL cs]
  | .mp i => by simp only [AV.ren, hρ]
  | .opt g v => by simp only [AV.ren, ren_ren v]
  | .c d => rfl
  | .dptr cs => rfl
  | .full _ _ => rfl
  | .osl n i d => by simp only [AV.ren, hρ]
  | .odp d => by simp only [AV.ren, hρ]
  | .vw _ _ _ _ => by simp only [AV.ren, hρ]
  | .pf p => rfl
  | .any => rfl
theorem renL_renL : ∀ l : List AV, renL ρ (renL ρ l) = l
  | [] => rfl
  | a :: r => by simp only [renL, ren_ren a, renL_renL r]
end
theorem aoren_ren (o : AO) : (o.ren ρ).ren ρ = o := by
  cases o with
  | rows e ek k xss hole who => cases who <;> simp [AO.ren, hρ]
  | rows2 e ek k xss h h' w w' => cases w <;> cases w' <;> simp [AO.ren, hρ]
  | _ => simp [AO.ren, renL_renL hρ]
theorem AVR.ren {x : Ctx} {w : World} {S : Nat → Prop} {φ : Nat → Value} {a : AV} {v : Value} (h : AVR x w S φ a v) : AVR x w S (fun i => φ (ρ i)) (a.ren ρ) v := by
  have key : ∀ (id : Nat), φ id = (fun i => φ (ρ i)) (ρ id) := fun id => by simp only [hρ]
  induction h with
  | c h => exact .c h
  | @agg cs vs hl _ h1 ih =>
    refine .agg (by rw [renL_len]; exact hl) (fun j a v ha hv => ?_) h1
    rw [renL_get] at ha
    simp only [Option.map_eq_some_iff] at ha
    obtain ⟨b, hb, rfl⟩ := ha
    exact ih j b v hb hv
  | @tup cs vs hl _ ih =>
    refine .tup (by rw [renL_len]; exact hl) (fun j a v ha hv => ?_)
    rw [renL_get] at ha
    simp only [Option.map_eq_some_iff] at ha
    obtain ⟨b, hb, rfl⟩ := ha
    exact ih j b v hb hv
  | own h =>
    rename_i id
    have e := key id
    rw [e]
    refine .own ?_
    simp only [hρ]; exact h
  | ptr h => rename_i id b off; exact .ptr (by simp only [hρ]; exact h)
  | eptr h => rename_i id k i off g o n cap; exact .eptr (by simp only [hρ]; exact h)
  | dptr vs hS hcell h => exact .dptr vs hS hcell h
  | full h => exact .full h
  | osl hA h => exact .osl hA (by simp only [hρ]; exact h)
  | odp hS hc h1 => exact .odp hS (by simp only [hρ]; exact hc) (by simp only [hρ]; exact h1)
  | vw h hh => exact .vw (by simp only [hρ]; exact h) hh
  | @fn f cs vs hl _ ih =>
    refine .fn (by rw [renL_len]; exact hl) (fun j a v ha hv => ?_)
    rw [renL_get] at ha
    simp only [Option.map_eq_some_iff] at ha
    obtain ⟨b, hb, rfl⟩ := ha
    exact ih j b v hb hv
  | pf h => exact .pf h
  | mp h =>
    rename_i id
    have e := key id
    rw [e]
    refine .mp ?_
    simp only [hρ]; exact h
  | opt _ h0 ih => exact .opt (fun hg => ih hg) h0
  | any => exact .any
theorem ObR.ren {x : Ctx} {w : World} {S : Nat → Prop} {φ : Nat → Value} {o : AO} {v : Value} (h : ObR x w S φ o v) : ObR x w S (fun i => φ (ρ i)) (o.ren ρ) v := by
  cases h with
  | arr h => exact .arr h
  | map hb hst h => exact .map hb hst h
  | iter hr hS hg hst hsc h hc => exact .iter hr hS hg hst hsc h hc
  | rows0 => exact .rows0
  | rows hg hn hc hs h1 hr hd hw =>
    refine .rows hg hn hc hs h1 hr hd fun h d h2 h3 hl => ?_
    simp only [Option.map_eq_some_iff] at h3
    obtain ⟨c, h4, rfl⟩ := h3
    simp only [hρ]; exact hw h c h2 h4 hl
  | rows2 hg hn hc hs h1 hr hd hw hw' =>
    refine .rows2 hg hn hc hs h1 hr hd (fun d h3 hl => ?_) fun d h3 hl => ?_
    · simp only [Option.map_eq_some_iff] at h3
      obtain ⟨c, h4, rfl⟩ := h3
      simp only [hρ]; exact hw c h4 hl
    · simp only [Option.map_eq_some_iff] at h3
      obtain ⟨c, h4, rfl⟩ := h3
      simp only [hρ]; exact hw' c h4 hl
  | @box t cs vs b hb hs h h1 =>
    refine .box hb (by rw [renL_len]; exact hs) (fun j a v ha hv => ?_) h1
    rw [renL_get] at ha
    simp only [Option.map_eq_some_iff] at ha
    obtain ⟨c, hc, rfl⟩ := ha
    exact (h j c v hc hv).ren hρ
theorem beq_ren (i j : Nat) : Nat.beq i (ρ j) = Nat.beq (ρ i) j := by
  cases hb : Nat.beq (ρ i) j with
  | true =>
    have := Nat.eq_of_beq_eq_true hb; subst this
    rw [hρ]; exact Nat.beq_refl i
  | false =>
    cases hc : Nat.beq i (ρ j) with
    | false => rfl
    | true =>
      have := Nat.eq_of_beq_eq_true hc; subst this
      rw [hρ, Nat.beq_refl] at hb; cases hb
theorem obGet_ren (i : Nat) : ∀ l : List (Nat × AO), obGet i (renOb ρ l) = (obGet (ρ i) l).map (AO.ren ρ)
  | [] => rfl
  | (s, o) :: r => by
    simp only [renOb, obGet, beq_ren hρ]
    cases Nat.beq (ρ i) s with
    | true => rfl
    | false => exact obGet_ren i r
theorem hasKey_ren (i : Nat) : ∀ l : List (Nat × AO), hasKey i (renOb ρ l) = hasKey (ρ i) l
  | [] => rfl
  | (s, o) :: r => by simp only [renOb, hasKey, beq_ren hρ, hasKey_ren i r]
theorem inL_ren (i : Nat) : ∀ l : List Nat, inL i (l.map ρ) = inL (ρ i) l
  | [] => rfl
  | s :: r => by simp only [List.map_cons, inL, beq_ren hρ, inL_ren i r]
theorem blkIO_ren (φ : Nat → Value) (ob : List (Nat × AO)) : blkIO φ (renOb ρ ob) = blkIO (fun i => φ (ρ i)) ob := by
  funext b
  refine propext ⟨?_, ?_⟩
  · rintro ⟨id, o, ho, hb⟩
    rw [obGet_ren hρ] at ho
    simp only [Option.map_eq_some_iff] at ho
    obtain ⟨p, hp, rfl⟩ := ho
    exact ⟨ρ id, p, hp, by simpa only [hρ] using hb⟩
  · rintro ⟨id, o, ho, hb⟩
    exact ⟨ρ id, o.ren ρ, by rw [obGet_ren hρ, hρ, ho]; rfl, hb⟩
theorem FnW.ren {P : Program} {f : Nat} {as : List AV} {ob : List (Nat × AO)} {rs : List RV} {ob' : List (Nat × AO)} {kp : List Nat} (h : FnW P f as ob rs ob' kp) : FnW P f (renL ρ as) (renOb ρ ob) rs (renOb ρ ob') (kp.map ρ) := by
  refine ⟨h.1, fun w S φ vs hS hl hargs hobs => ?_⟩
  have eIO := blkIO_ren hρ φ ob
  have toC : ∀ {w : World} {S' : Nat → Prop} {φ' : Nat → Value} {o : AO} {v : Value}, ObR ⟨P, w, S, blkIO φ (renOb ρ ob), φ⟩ w S' φ' o v → ObR ⟨P, w, S, blkIO (fun i => φ (ρ i)) ob, fun i => φ (ρ i)⟩ w S' φ' o v := fun h => h.ctx fun p f caps hp => by rw [eIO] at hp; exact hp
  rw [renL_len] at hl
  have back : ∀ {l : List (Nat × AO)} {id : Nat} {o : AO}, obGet id l = some o → obGet (ρ id) (renOb ρ l) = some (o.ren ρ) := fun {l id o} ho => by rw [obGet_ren hρ, hρ, ho]; rfl
  refine (h.2 w S (fun i => φ (ρ i)) vs hS hl (fun j r v hr hv => ?_) ⟨fun id o ho => ?_, fun id o b ho hb => ?_, fun id id' o o' b ho ho' hb hb' => ?_⟩).mono ?_
  · have h1 := (hargs j (r.ren ρ) v (by rw [renL_get, hr]; rfl) hv).ren hρ
    rw [ren_ren hρ] at h1
    exact h1.ctx fun p f caps hp => by rw [eIO] at hp; exact hp
  · have h1 := (hobs.obs (ρ id) _ (back ho)).ren hρ
    rw [aoren_ren hρ] at h1
    exact h1.ctx fun p f caps hp => by rw [eIO] at hp; exact hp
  · have h1 := hobs.own (ρ id) _ b (back ho) hb
    rw [← eIO]; exact h1
  · have := hobs.inj (ρ id) (ρ id') _ _ b (back ho) (back ho') hb hb'
    have := congrArg ρ this
    rwa [hρ, hρ] at this
  · rintro E w' ⟨us, S', ψ, rfl, hres, hext, hobs', hro, hkp, hrest⟩
    have fwd : ∀ {l : List (Nat × AO)} {id : Nat} {o : AO}, obGet id (renOb ρ l) = some o → ∃ p, obGet (ρ id) l = some p ∧ o = p.ren ρ := fun {l id o} ho => by
      rw [obGet_ren hρ] at ho
      simp only [Option.map_eq_some_iff] at ho
      obtain ⟨p, hp, rfl⟩ := ho
      exact ⟨p, hp, rfl⟩
    refine ⟨us, S', fun i => ψ (ρ i), rfl, by rw [eIO]; exact hres, by rw [eIO]; exact hext, ⟨fun id o ho => ?_, fun id o b ho hb => ?_, fun id id' o o' b ho ho' hb hb' => ?_⟩, ?_, ?_, ?_⟩
    · obtain ⟨p, hp, rfl⟩ := fwd ho
      have h1 := (hobs'.obs _ _ hp).ren hρ
      exact h1.ctx fun p f caps hp => by rw [eIO]; exact hp
    · obtain ⟨p, hp, rfl⟩ := fwd ho
      have h1 := hobs'.own _ _ b hp hb
      rw [eIO]; exact h1
    · obtain ⟨p, hp, rfl⟩ := fwd ho
      obtain ⟨p', hp', rfl⟩ := fwd ho'
      have := congrArg ρ (hobs'.inj _ _ _ _ b hp hp' hb hb')
      rwa [hρ, hρ] at this
    · intro i e k xs v b id o hr hv hb ho
      obtain ⟨p, hp, rfl⟩ := fwd ho
      exact hro i e k xs v b (ρ id) p hr hv hb hp
    · intro id hk
      rw [inL_ren hρ] at hk
      have := hkp _ hk
      simpa only [hρ] using this
    · intro id hk
      rw [hasKey_ren hρ] at hk
      have := hrest _ hk
      simpa only [hρ] using this
end
def rn (i : Nat) : Nat := if 1000000 ≤ i ∧ i < 1001000 then i - 1000000 else if i < 1000 then i + 1000000 else i
theorem rn_rn (i : Nat) : rn (rn i) = i := by
  unfold rn
  repeat' split
  all_goals omega
theorem FnW.low {P : Program} {f : Nat} {as : List AV} {ob : List (Nat × AO)} {rs : List RV} {ob' : List (Nat × AO)} {kp : List Nat} (h : FnW P f as ob rs ob' kp) : FnW P f (renL rn as) (renOb rn ob) rs (renOb rn ob') (kp.map rn) := FnW.ren rn_rn h
attribute [go_sem] AV.ren renL AO.ren renOb
end Go.AL
namespace Go.AL
open Go Go.RowKit
theorem FnR_lens {P : Program} {f k : Nat} {pre post : List AV} {xs : List (List CD)} {rs : List RV} (hc : callB P f = true) (h : xs.length ≤ maxLen → (∀ x ∈ xs, ∀ (k : Nat) (ys : List (List CD)), CD.sl k ys ∈ x → ys.length ≤ maxLen) → FnR P f (pre ++ .c (.sl k xs) :: post) rs) : FnR P f (pre ++ .c (.sl k xs) :: post) rs := by
  refine ⟨hc, fun w S φ vs hS hl ha => ?_⟩
  have hj : pre.length < vs.length := by rw [hl]; simp
  have h0 := ha pre.length (.c (.sl k xs)) vs[pre.length] (by simp) (List.getElem?_eq_getElem hj)
  obtain ⟨_, _, _, h1, h2⟩ := sl_cases h0
  refine (h (by omega) fun x hx k' ys hy => ?_).2 w S φ vs hS hl ha
  cases h0 with
  | c h0 =>
    generalize vs[pre.length] = v at h0
    cases h0 with
    | sl0 => simp at hx
    | sl us hn hc hS hk hcell hrd =>
      obtain ⟨i, hi⟩ := List.getElem?_of_mem hx
      obtain ⟨j, hj⟩ := List.getElem?_of_mem hy
      have h3 := hrd i j x _ hi hj
      generalize us i j = v at h3
      cases h3 with
      | sl0 => simp
      | sl vs hn hc => omega
end Go.AL
namespace Go.AL
open Go Go.RowKit
theorem nil_args {x : Ctx} {w : World} {S : Nat → Prop} {φ : Nat → Value} {k : Nat} {pre post : List AV} {vs : List Value} (h : ∀ (j : Nat) (r : AV) (v : Value), (pre ++ .c .nil :: post)[j]? = some r → vs[j]? = some v → AVR x w S φ r v) :
    ∀ (j : Nat) (r : AV) (v : Value), (pre ++ .c (.sl k []) :: post)[j]? = some r → vs[j]? = some v → AVR x w S φ r v := by
  intro j r v hr hv
  rcases Nat.lt_trichotomy j pre.length with hj | hj | hj
  · rw [List.getElem?_append_left hj] at hr
    exact h j r v (by rw [List.getElem?_append_left hj]; exact hr) hv
  · subst hj
    simp at hr; subst hr
    have := h pre.length (.c .nil) v (by simp) hv
    cases this with
    | c h => cases h; exact .c (.sl0 (by unfold maxLen; omega) (fun _ => rfl))
  · rw [List.getElem?_append_right (by omega)] at hr
    refine h j r v ?_ hv
    rw [List.getElem?_append_right (by omega)]
    obtain ⟨m, hm⟩ : ∃ m, j - pre.length = m + 1 := ⟨j - pre.length - 1, by omega⟩
    rw [hm] at hr ⊢
    simpa using hr
theorem FnW.nil {P : Program} {f k : Nat} {pre post : List AV} {ob : List (Nat × AO)} {rs : List RV} {ob' : List (Nat × AO)} {kp : List Nat} (h : FnW P f (pre ++ .c (.sl k []) :: post) ob rs ob' kp) : FnW P f (pre ++ .c .nil :: post) ob rs ob' kp :=
  ⟨h.1, fun w S φ vs hS hl ha ho => h.2 w S φ vs hS (by simpa using hl) (nil_args ha) ho⟩
theorem FnR.nil {P : Program} {f k : Nat} {pre post : List AV} {rs : List RV} (h : FnR P f (pre ++ .c (.sl k []) :: post) rs) : FnR P f (pre ++ .c .nil :: post) rs :=
  ⟨h.1, fun w S φ vs hS hl ha => h.2 w S φ vs hS (by simpa using hl) (nil_args ha)⟩
end Go.AL
namespace Go.AL
open Go Go.RowKit
theorem AW_frz {P : Program} {c : AC} {Q : Exit → St → Prop} {σ : St} (ids : List Nat) (h : AW P c Q (frzSt ids σ)) : AW P c Q σ := fun code hc x S φ a w hx hs => by
  obtain ⟨T, hsT, _⟩ := Sim.frzs ids (as := []) (vs := []) hs (fun _ _ _ h => by simp at h)
  exact h code hc x T φ a w hx hsT
end Go.AL
namespace Go.AL
open Go Go.RowKit
end Go.AL

namespace Go.AL
open Go Go.RowKit Go.Sort
abbrev iRow (l : List Int) : List (List CD) := l.map fun x => [CD.I x]
theorem put_get (l : List Int) (o : Nat) (cur : Array Value) (i : Nat) (hi : i < l.length) (hs : o + l.length ≤ cur.size) : (putCells (Value.int .i64) o l.toArray cur)[o + i]? = some (.int .i64 (nth l i)) := by
  unfold putCells
  rw [Array.getElem?_mapIdx, Array.getElem?_eq_getElem (by omega)]
  simp only [Option.map_some, List.size_toArray]
  rw [if_pos ⟨by omega, by omega⟩]
  have : o + i - o = i := by omega
  rw [this, nth_eq l i hi]
  simp [hi]
theorem put_block (w : World) (g o : Nat) (d : Array Int) {cur : Array Value} {e : TypeId} {fr : Nat × Nat} (hg : w.heap[g]? = some (.cells cur e fr)) (q : Nat) (os : Array Obj) :
    (grow (putRow (Value.int .i64) (Sort.ahead w q) g o d) os).heap[g]? = some (.cells (putCells (Value.int .i64) o d cur) e fr) ∧ Ext (fun b => b ≠ g) w (grow (putRow (Value.int .i64) (Sort.ahead w q) g o d) os) := by
  have hl : g < w.heap.size := (Array.getElem?_eq_some_iff.1 hg).1
  have hsz : (putRow (Value.int .i64) (Sort.ahead w q) g o d).heap.size = w.heap.size := by simp
  refine ⟨?_, rfl, rfl, rfl, by simp, fun b hb hbl => ?_⟩
  · rw [heap_grow_old _ _ (by rw [hsz]; exact hl)]
    show (w.heap.modify g _)[g]? = _
    rw [Array.getElem?_modify, if_pos rfl, hg]; rfl
  · rw [heap_grow_old _ _ (by rw [hsz]; exact hbl)]
    show (w.heap.modify g _)[b]? = _
    rw [Array.getElem?_modify, if_neg (Ne.symm hb)]
theorem put_one (o : Nat) (d : Array Int) (cur : Array Value) (h : ∀ v ∈ cur.toList, v.oneCell' = true) : ∀ v ∈ (putCells (Value.int .i64) o d cur).toList, v.oneCell' = true := by
  intro v hv
  unfold putCells at hv
  simp only [Array.mem_toList_iff, Array.mem_mapIdx] at hv
  obtain ⟨i, hi, rfl⟩ := hv
  split
  · rfl
  · exact h _ (by simp)
theorem arr_put {w : World} {S : Nat → Prop} {g o cap e : Nat} {l m m' : List Int} {n : Nat} (h : ArrR w S e 1 (iRow l) (.slice (some ⟨g, o, none⟩) n cap)) (hm : m.length = l.length) (hp : ∃ z, m = m' ++ z) (hi : ∀ x ∈ m', inK .i64 x) (q : Nat) (os : Array Obj) :
    ArrR (grow (putRow (Value.int .i64) (Sort.ahead w q) g o m.toArray) os) S e 1 (iRow m') (.slice (some ⟨g, o, none⟩) m'.length cap) ∧ Ext (fun b => b ≠ g) w (grow (putRow (Value.int .i64) (Sort.ahead w q) g o m.toArray) os) := by
  obtain ⟨z, rfl⟩ := hp
  have hlen : (iRow l).length = l.length := by simp
  generalize iRow l = X at h hlen
  cases h with
  | @row _ _ _ _ cur hg hn hc hs hk h1 hrd =>
    obtain ⟨p1, p2⟩ := put_block w g o (m' ++ z).toArray hg q os
    refine ⟨?_, p2⟩
    rw [hlen] at hn
    have hle : m'.length ≤ l.length := by rw [← hm]; simp
    have hl' : (iRow m').length = m'.length := by simp
    rw [← hl']
    refine .row p1 (by rw [hl']; omega) hc (by simpa [putCells] using hs) (fun x hx => ?_) (put_one _ _ _ h1) fun i j x d hx hd => ?_
    · simp only [List.mem_map] at hx
      obtain ⟨_, _, rfl⟩ := hx; rfl
    · simp only [List.getElem?_map, Option.map_eq_some_iff] at hx
      obtain ⟨y, hy, rfl⟩ := hx
      have hil : i < m'.length := (List.getElem?_eq_some_iff.1 hy).1
      cases j with
      | succ j => simp at hd
      | zero =>
        simp only [List.getElem?_cons_zero, Option.some.injEq] at hd
        subst hd
        refine ⟨.int .i64 y, ?_, .sc ?_⟩
        · have := put_get (m' ++ z) o cur i (by simp; omega) (by rw [hm]; omega)
          simp only [Nat.mul_one, Nat.add_zero]
          rw [this, nth_eq _ i (by simp; omega), List.getElem_append_left hil]
          obtain ⟨_, e⟩ := List.getElem?_eq_some_iff.1 hy
          rw [e]
        · exact hi y (List.mem_of_getElem? hy)
theorem arr_holds {w : World} {S : Nat → Prop} {g o cap e : Nat} {l : List Int} {n : Nat} (h : ArrR w S e 1 (iRow l) (.slice (some ⟨g, o, none⟩) n cap)) : n = l.length ∧ l.length ≤ cap ∧ cap ≤ maxLen ∧ g < w.heap.size ∧ Holds (Value.int .i64) w g o l.toArray ∧ ∀ x ∈ l, inK .i64 x := by
  generalize hX : iRow l = X at h
  cases h with
  | @row _ _ _ _ cur hg hn hc hs hk h1 hrd =>
    subst hX
    have hlen : (iRow l).length = l.length := by simp
    have key : ∀ i, i < l.length → cur[o + i]? = some (.int .i64 (nth l i)) ∧ inK .i64 (nth l i) := fun i hi => by
      obtain ⟨v, hv, hr⟩ := hrd i 0 [CD.I (nth l i)] (CD.I (nth l i)) (by simp [nth_eq l i hi, hi]) rfl
      cases hr with
      | sc hr => exact ⟨by simpa using hv, hr⟩
    refine ⟨hlen, by omega, hc, (Array.getElem?_eq_some_iff.1 hg).1, fun j hj => ?_, fun x hx => ?_⟩
    · have hj' : j < l.length := by simpa using hj
      refine ⟨?_, ?_⟩
      · rw [cell_of_row w g _ cur e (0, 0) hg, (key j hj').1, nth_eq l j hj']
        simp [hj']
      · simp [World.frozen?, hg]
    · obtain ⟨i, hi, rfl⟩ := List.getElem_of_mem hx
      rw [← nth_eq l i hi]; exact (key i hi).2
theorem FnW_cut {P : Program} {f e : Nat} {l m' : List Int} {as : List AV} (id : Nat) (hcb : callB P f = true) (hi : (∀ x ∈ l, inK .i64 x) → ∀ x ∈ m', inK .i64 x)
    (hc : ∀ (g o cap : Nat) (w : World) (vs : List Value), Holds (Value.int .i64) w g o l.toArray → l.length ≤ cap → cap ≤ maxLen → g < w.heap.size → vs.length = as.length → (∀ (j : Nat) (d : CD) (v : Value), as[j]? = some (.c d) → vs[j]? = some v → d.flatP → Rd w (fun _ => True) d v) →
      Calls P f (Value.slice (some ⟨g, o, none⟩) l.length cap :: vs).toArray w fun E w' => E = .returned (.slice (some ⟨g, o, none⟩) m'.length cap) ∧ ∃ (m : List Int) (q : Nat) (os : Array Obj), m.length = l.length ∧ (∃ z, m = m' ++ z) ∧ w' = grow (putRow (Value.int .i64) (Sort.ahead w q) g o m.toArray) os)
    (h0 : l = [] → ∀ (w : World) (vs : List Value), vs.length = as.length → (∀ (j : Nat) (d : CD) (v : Value), as[j]? = some (.c d) → vs[j]? = some v → d.flatP → Rd w (fun _ => True) d v) → m' = [] ∧ Calls P f (Value.slice none 0 0 :: vs).toArray w fun E w' => E = .returned (.slice none 0 0) ∧ w' = w) :
    FnW P f (.own id :: as) [(id, .arr e 1 (iRow l))] [.own e 1 (iRow m')] [] [] := by
  refine ⟨hcb, fun w S φ vs hS hl hargs hobs => ?_⟩
  have hget : obGet id [(id, AO.arr e 1 (iRow l))] = some (AO.arr e 1 (iRow l)) := by simp [obGet]
  obtain ⟨v0, us, rfl⟩ : ∃ v0 us, vs = v0 :: us := by
    cases vs with
    | nil => simp at hl
    | cons v us => exact ⟨v, us, rfl⟩
  have h1 := hargs 0 _ v0 rfl rfl
  have h2 := hobs.obs id _ hget
  have h3 := fun b => hobs.own id _ b hget
  have hus : ∀ (j : Nat) (d : CD) (v : Value), as[j]? = some (.c d) → us[j]? = some v → d.flatP → Rd w (fun _ => True) d v := fun j d v hj hv hf => by
    have := hargs (j + 1) (.c d) v (by simpa using hj) (by simpa using hv)
    cases this with
    | c h => exact h.flat hf
  cases h1
  generalize hφ : φ id = z at h2 h3
  have hIO : ∀ b, Value.blk z = some b → blkIO φ [(id, AO.arr e 1 (iRow l))] b := fun b hb => ⟨id, _, hget, by rw [hφ]; exact hb⟩
  have hIO' : ∀ b, blkIO φ [(id, AO.arr e 1 (iRow l))] b → Value.blk z = some b := by
    rintro b ⟨i, o, ho, hb⟩
    simp only [obGet] at ho
    cases hb' : Nat.beq i id with
    | true => have := Nat.eq_of_beq_eq_true hb'; subst this; rw [← hφ]; exact hb
    | false => rw [hb'] at ho; cases ho
  cases h2 with
  | arr h2 =>
    have hfin : ∀ (E : Ending) (w' : World) (u : Value), E = .returned u → ArrR w' S e 1 (iRow m') u → (∀ b, Value.blk u = some b → Value.blk z = some b) → Ext (fun b => Value.blk z ≠ some b) w w' →
        ∃ us S' φ', E = .returned (retValue us) ∧ ResW w S (blkIO φ [(id, AO.arr e 1 (iRow l))]) w' [.own e 1 (iRow m')] us S' ∧ Ext (fun b => ¬ blkIO φ [(id, AO.arr e 1 (iRow l))] b) w w' ∧ ObsR ⟨P, w, S, blkIO φ [(id, AO.arr e 1 (iRow l))], φ⟩ w' S' φ' [] ∧
        (∀ (i : Nat) (e' k : Nat) (xs : List (List CD)) (v : Value) (b id' : Nat) (o : AO), [RV.own e 1 (iRow m')][i]? = some (.own e' k xs) → us[i]? = some v → Value.blk v = some b → obGet id' [] = some o → Value.blk (φ' id') ≠ some b) ∧
        (∀ id', inL id' [] = true → φ' id' = φ id') ∧ ∀ id', hasKey id' ([] : List (Nat × AO)) = false → φ' id' = φ id' := by
      intro E w' u hE hu hb hext
      have hlt : ∀ b, Value.blk z = some b → ¬ S b ∧ b < w.heap.size := fun b hb => by
        have := h3 b hb; exact ⟨this.1, this.2.1⟩
      refine ⟨[u], S, φ, hE, ⟨fun _ h => h, fun b h => .inl h, fun b h => Nat.lt_of_lt_of_le (hS b h) hext.size, rfl, fun i r v hr hv => ?_, fun i e' k xs v b hr hv hbv => ?_, fun i j _ _ _ _ _ _ v u' b hr hr' hv hv' _ _ => ?_⟩, ?_, ⟨fun i o h => by simp [obGet] at h, fun i o b h => by simp [obGet] at h, fun i i' o o' b h => by simp [obGet] at h⟩, fun i _ _ _ v b id' o _ _ _ h => by simp [obGet] at h, fun _ _ => rfl, fun _ _ => rfl⟩
      · cases i with
        | zero => simp at hr hv; subst hr; subst hv; exact hu
        | succ i => simp at hr
      · cases i with
        | zero =>
          simp at hv; subst hv
          have := hb b hbv
          exact ⟨(hlt b this).1, .inr (hIO b this), Nat.lt_of_lt_of_le (hlt b this).2 hext.size⟩
        | succ i => simp at hr
      · cases i <;> cases j <;> simp_all
      · exact hext.mono fun b hb hbz => hb (hIO b hbz)
    cases z with
    | slice A n cap =>
      cases A with
      | none =>
        have hl0 : l = [] ∧ n = 0 ∧ cap = 0 := by
          generalize hX : iRow l = X at h2
          cases h2 with
          | nil => exact ⟨by cases l with | nil => rfl | cons => simp at hX, rfl, rfl⟩
        obtain ⟨rfl, rfl, rfl⟩ := hl0
        obtain ⟨rfl, hcall⟩ := h0 rfl w us (by simpa using hl) hus
        refine hcall.mono ?_
        rintro E w' ⟨rfl, rfl⟩
        exact hfin _ _ _ rfl .nil (fun b hb => hb) (Ext.refl _ _)
      | some a =>
        have ha : ∃ g o, a = ⟨g, o, none⟩ := by
          generalize iRow l = X at h2
          cases h2; exact ⟨_, _, rfl⟩
        obtain ⟨g, o, rfl⟩ := ha
        obtain ⟨q1, q2, q3, q4, q5, q6⟩ := arr_holds h2
        subst q1
        refine (hc g o cap w us q5 q2 q3 q4 (by simpa using hl) hus).mono ?_
        rintro E w' ⟨rfl, m, q, os, hm, hp, rfl⟩
        obtain ⟨r1, r2⟩ := arr_put (m := m) h2 hm hp (hi q6) q os
        exact hfin _ _ _ rfl r1 (fun b hb => hb) (r2.mono fun b hb => fun e => hb (by subst e; rfl))
    | _ => (generalize iRow l = X at h2; cases h2)
end Go.AL

namespace Go.AL
open Go Go.RowKit
structure Hold (p : Prop) : Prop where
  out : p
theorem Sim.own_nilB {x : Ctx} {S : Nat → Prop} {φ : Nat → Value} {σ : St} {a : Act} {w : World} (hs : Sim x S φ σ a w) (sid j id e k T : Nat) (cs : List AV) (hid : id < 1000000) (ho : obGet sid (σ.new id (.arr e k [])).ob = some (.box T cs)) (hj : cs[j]? = some (.c .nil)) :
    Sim x S (setφ φ id (.slice none 0 0)) ((σ.new id (.arr e k [])).upd sid (.box T (cs.set j (.own id)))) a w := by
  have h1 := hs.renew id hid (.arr e k []) (.slice none 0 0) w (Ext.refl _ _) (.arr .nil) (fun b hb => by cases hb)
  refine h1.upd sid _ _ w ho (Ext.refl _ _) ?_
  have h2 := h1.obs sid _ ho
  generalize setφ φ id (.slice none 0 0) sid = z at h2
  cases h2 with
  | box hb hs' h h1' =>
    refine .box hb (by simpa using hs') (fun i a v ha hv => ?_) h1'
    by_cases e : i = j
    · subst e
      have hl : i < cs.length := (List.getElem?_eq_some_iff.1 hj).1
      rw [List.getElem?_set_self hl] at ha
      simp at ha; subst ha
      have h3 := h i _ v hj hv
      cases h3 with
      | c h3 =>
        cases h3
        have : AVR x w S (setφ φ id (.slice none 0 0)) (.own id) (setφ φ id (.slice none 0 0) id) := .own (by rw [setφ_same]; rfl)
        rwa [setφ_same] at this
    · rw [List.getElem?_set_ne (fun h => e h.symm)] at ha
      exact h i a v ha hv
theorem AW_nilB {P : Program} {c : AC} {Q : Exit → St → Prop} {σ : St} (sid j id e k T : Nat) (cs : List AV) (ho : obGet sid (σ.new id (.arr e k [])).ob = some (.box T cs)) (hj : cs[j]? = some (.c .nil)) (h : AW P c Q ((σ.new id (.arr e k [])).upd sid (.box T (cs.set j (.own id))))) (hid : id < 1000000 := by decide) : AW P c Q σ :=
  fun code hc x S φ a w hx hs => h code hc x S _ a w hx (hs.own_nilB sid j id e k T cs hid ho hj)
end Go.AL

namespace Go.AL
open Go Go.RowKit
theorem FnP.ren {ρ : Nat → Nat} (hρ : ∀ i, ρ (ρ i) = i) {P : Program} {f p : Nat} {as : List AV} {ob : List (Nat × AO)} {ob' : List (Nat × AO)} {kp : List Nat} (h : FnP P f as ob p ob' kp) : FnP P f (renL ρ as) (renOb ρ ob) (ρ p) (renOb ρ ob') (kp.map ρ) := by
  have back : ∀ {l : List (Nat × AO)} {id : Nat} {o : AO}, obGet id l = some o → obGet (ρ id) (renOb ρ l) = some (o.ren ρ) := fun {l id o} ho => by rw [obGet_ren hρ, hρ, ho]; rfl
  refine ⟨h.1, by obtain ⟨o, hb⟩ := h.2.1; exact ⟨_, back hb⟩, fun w S φ vs hS hl hargs hobs => ?_⟩
  have eIO := blkIO_ren hρ φ ob
  rw [renL_len] at hl
  refine (h.2.2 w S (fun i => φ (ρ i)) vs hS hl (fun j r v hr hv => ?_) ⟨fun id o ho => ?_, fun id o b ho hb => ?_, fun id id' o o' b ho ho' hb hb' => ?_⟩).mono ?_
  · have h1 := (hargs j (r.ren ρ) v (by rw [renL_get, hr]; rfl) hv).ren hρ
    rw [ren_ren hρ] at h1
    exact h1.ctx fun p f caps hp => by rw [eIO] at hp; exact hp
  · have h1 := (hobs.obs (ρ id) _ (back ho)).ren hρ
    rw [aoren_ren hρ] at h1
    exact h1.ctx fun p f caps hp => by rw [eIO] at hp; exact hp
  · have h1 := hobs.own (ρ id) _ b (back ho) hb
    rw [← eIO]; exact h1
  · have := hobs.inj (ρ id) (ρ id') _ _ b (back ho) (back ho') hb hb'
    have := congrArg ρ this
    rwa [hρ, hρ] at this
  · rintro E w' ⟨S', ψ, rfl, hres, hext, hobs', hkp, hrest⟩
    have fwd : ∀ {l : List (Nat × AO)} {id : Nat} {o : AO}, obGet id (renOb ρ l) = some o → ∃ p, obGet (ρ id) l = some p ∧ o = p.ren ρ := fun {l id o} ho => by
      rw [obGet_ren hρ] at ho
      simp only [Option.map_eq_some_iff] at ho
      obtain ⟨p, hp, rfl⟩ := ho
      exact ⟨p, hp, rfl⟩
    refine ⟨S', fun i => ψ (ρ i), by simp only [hρ], by rw [eIO]; exact hres, by rw [eIO]; exact hext, ⟨fun id o ho => ?_, fun id o b ho hb => ?_, fun id id' o o' b ho ho' hb hb' => ?_⟩, ?_, ?_⟩
    · obtain ⟨p, hp, rfl⟩ := fwd ho
      have h1 := (hobs'.obs _ _ hp).ren hρ
      exact h1.ctx fun p f caps hp => by rw [eIO]; exact hp
    · obtain ⟨p, hp, rfl⟩ := fwd ho
      have h1 := hobs'.own _ _ b hp hb
      rw [eIO]; exact h1
    · obtain ⟨p, hp, rfl⟩ := fwd ho
      obtain ⟨p', hp', rfl⟩ := fwd ho'
      have := congrArg ρ (hobs'.inj _ _ _ _ b hp hp' hb hb')
      rwa [hρ, hρ] at this
    · intro id hk
      rw [inL_ren hρ] at hk
      have := hkp _ hk
      simpa only [hρ] using this
    · intro id hk
      rw [hasKey_ren hρ] at hk
      have := hrest _ hk
      simpa only [hρ] using this
end Go.AL

namespace Go.AL
open Go Go.RowKit
section
variable {x : Ctx} {S : Nat → Prop} {φ : Nat → Value} {σ : St} {a : Act} {w : World} {P : Program}
def tailQ (P : Program) (Q : Exit → St → Prop) (tl : List AP) : Exit → St → Prop
  | .normal, τ => steps P Q tl τ
  | _, _ => False
end
attribute [go_sem] tailQ List.drop_succ_cons List.drop_zero List.take_succ_cons List.take_zero
end Go.AL

namespace Go.AL
open Go Go.RowKit
def dropOb (id : Nat) : List (Nat × AO) → List (Nat × AO)
  | [] => []
  | (i, o) :: r => bif Nat.beq i id then dropOb id r else (i, o) :: dropOb id r
theorem obGet_drop (id : Nat) : ∀ (l : List (Nat × AO)) (i : Nat) (o : AO), obGet i (dropOb id l) = some o → i ≠ id ∧ obGet i l = some o
  | [], i, o, h => by simp [dropOb, obGet] at h
  | (j, p) :: r, i, o, h => by
    simp only [dropOb] at h
    cases hj : Nat.beq j id with
    | true =>
      rw [hj] at h
      obtain ⟨h1, h2⟩ := obGet_drop id r i o (by simpa using h)
      have := Nat.eq_of_beq_eq_true hj; subst this
      exact ⟨h1, by simp only [obGet, beq_false h1]; exact h2⟩
    | false =>
      rw [hj] at h
      simp only [cond_false, obGet] at h ⊢
      cases hij : Nat.beq i j with
      | true =>
        rw [hij] at h; simp at h
        have := Nat.eq_of_beq_eq_true hij; subst this
        exact ⟨fun e => (by subst e; rw [Nat.beq_refl] at hj; cases hj), by simpa using h⟩
      | false => rw [hij] at h; exact obGet_drop id r i o (by simpa using h)
theorem obGet_drop_ne {id i : Nat} (hi : i ≠ id) : ∀ (l : List (Nat × AO)), obGet i (dropOb id l) = obGet i l
  | [] => rfl
  | (j, p) :: r => by
    simp only [dropOb]
    cases hj : Nat.beq j id with
    | true =>
      have := Nat.eq_of_beq_eq_true hj; subst this
      simp only [cond_true, obGet, beq_false hi, cond_false]; exact obGet_drop_ne hi r
    | false =>
      simp only [cond_false, obGet]
      cases Nat.beq i j with
      | true => rfl
      | false => exact obGet_drop_ne hi r
def St.drop (σ : St) (id : Nat) : St := { σ with ob := dropOb id σ.ob }
section
variable {x : Ctx} {S : Nat → Prop} {φ : Nat → Value} {σ : St} {a : Act} {w : World} {P : Program}
theorem Sim.drop (hs : Sim x S φ σ a w) (id : Nat) : Sim x S φ (σ.drop id) a w := hs.le' rfl (fun _ => .inr rfl) fun i o h => (obGet_drop id σ.ob i o h).2
def St.out (σ : St) (id d : Nat) (e ek k : Nat) (xss : List (List (List CD))) (h : Nat) : St :=
  ((σ.upd id (.rows e ek k xss (some h) none)).new d (.arr ek k (xss.getD h []))).upd id (.rows e ek k xss (some h) (some d))
theorem obGet_setOb_same (id : Nat) (o p : AO) : ∀ {l : List (Nat × AO)}, obGet id l = some p → obGet id (setOb id o l) = some o
  | [], h => by simp [obGet] at h
  | (j, q) :: r, h => by
    simp only [obGet] at h
    simp only [setOb]
    cases hj : Nat.beq j id with
    | true => have := Nat.eq_of_beq_eq_true hj; subst this; simp [obGet]
    | false =>
      have hne : id ≠ j := fun e => by subst e; rw [Nat.beq_refl] at hj; cases hj
      rw [beq_false hne] at h
      simp only [cond_false, obGet, beq_false hne]
      exact obGet_setOb_same id o p h
theorem obGet_purge_rows {id d e ek k : Nat} {xss : List (List (List CD))} {hole : Option Nat} (hne : id ≠ d) : ∀ {l : List (Nat × AO)}, obGet id l = some (.rows e ek k xss hole none) → obGet id (purgeOb d l) = some (.rows e ek k xss hole none)
  | [], h => by simp [obGet] at h
  | (j, q) :: r, h => by
    simp only [obGet] at h
    simp only [purgeOb]
    cases hij : Nat.beq id j with
    | true =>
      rw [hij] at h; simp at h; subst h
      have := Nat.eq_of_beq_eq_true hij; subst this
      simp [beq_false hne, obGet, AO.purge, whoPurge]
    | false =>
      rw [hij] at h
      have ih := obGet_purge_rows (e := e) (ek := ek) (k := k) (xss := xss) (hole := hole) hne (l := r) (by simpa using h)
      cases Nat.beq j d with
      | true => exact ih
      | false => simp only [cond_false, obGet, hij]; exact ih
theorem Sim.out (hs : Sim x S φ σ a w) (id d h : Nat) {e ek k : Nat} {xss : List (List (List CD))} {who : Option Nat} (ho : obGet id σ.ob = some (.rows e ek k xss none who)) (hh : h < xss.length) (hne : id ≠ d) (hd1 : d < 1000000) : ∃ ψ, Sim x S ψ (σ.out id d e ek k xss h) a w := by
  have hob := hs.obs id _ ho
  generalize hq : φ id = q at hob
  cases hob with
  | rows0 => simp at hh
  | @rows _ _ _ _ _ _ g o cap cur hg hn hc hz h1 hr hd hw =>
    have hx : xss[h]? = some xss[h] := List.getElem?_eq_getElem hh
    have hgd : xss.getD h [] = xss[h] := by simp [List.getD, hh]
    obtain ⟨v, hv, hrow⟩ := hr h _ hx (by simp)
    have hone : v.oneCell' = true := h1 _ (by simpa using Array.mem_of_getElem? hv)
    have hin0 : ∀ c u j, j < xss.length → cur[o + j]? = some u → Value.blk u = some c → innerB w (.rows e ek k xss none who) (φ id) c := fun c u j hj hu hc => by
      rw [hq]; exact ⟨cur, j, u, hg, hj, by simp, hu, hc⟩
    have hsub : ∀ who' b, innerB w (.rows e ek k xss (some h) who') (φ id) b → ∃ u j, j < xss.length ∧ j ≠ h ∧ cur[o + j]? = some u ∧ Value.blk u = some b := fun who' b hb => by
      rw [hq] at hb
      obtain ⟨cur', j, u, g1, g2, g3, g4, g5⟩ := hb
      rw [hg] at g1; cases g1
      exact ⟨u, j, g2, fun e => g3 (by rw [e]), g4, g5⟩
    have s1 : Sim x S φ (σ.upd id (.rows e ek k xss (some h) none)) a w := by
      refine hs.updR id _ _ w ho (Ext.refl _ _) ?_ fun b hb => ?_
      · rw [hq]
        exact .rows hg hn hc hz h1 (fun i xs hi _ => hr i xs hi (by simp)) (fun i j u v b hi hj _ _ => hd i j u v b hi hj (by simp) (by simp)) fun _ _ _ h => by cases h
      · obtain ⟨u, j, g2, g3, g4, g5⟩ := hsub _ b hb
        obtain ⟨⟨k1, k2, k3⟩, k4⟩ := hs.inr id _ b ho (hin0 b u j g2 g4 g5)
        exact ⟨(k4 id _ ho).1, k1, k2, k3, fun i p hi hp => ⟨(k4 i p hp).1, fun h => hi ((k4 i p hp).2 h)⟩⟩
    have s2 : Sim x S (setφ φ d v) ((σ.upd id (.rows e ek k xss (some h) none)).new d (.arr ek k (xss.getD h []))) a w := by
      refine s1.renew d hd1 _ v w (Ext.refl _ _) (by rw [hgd]; exact .arr hrow) fun b hb => ?_
      obtain ⟨⟨k1, k2, k3⟩, k4⟩ := hs.inr id _ b ho (hin0 b v h hh hv hb)
      refine ⟨k1, k2, k3, fun i p hi hp => ?_⟩
      rcases obGet_setOb id _ σ.ob i p hp with ⟨rfl, rfl, _⟩ | ⟨hi', hp⟩
      · refine ⟨(k4 i _ ho).1, fun hb' => ?_⟩
        obtain ⟨u, j, g2, g3, g4, g5⟩ := hsub _ b hb'
        exact g3 (hd j h u v b g2 hh (by simp) (by simp) g4 hv g5 hb)
      · exact ⟨(k4 i p hp).1, fun h => hi' ((k4 i p hp).2 h)⟩
    refine ⟨_, s2.updR id (.rows e ek k xss (some h) (some d)) (.rows e ek k xss (some h) none) w ?_ (Ext.refl _ _) ?_ ?_⟩
    · simp only [St.new, obGet, beq_false hne]
      exact obGet_purge_rows hne (obGet_setOb_same id _ _ ho)
    · rw [setφ_ne hne, hq]
      refine .rows hg hn hc hz h1 (fun i xs hi _ => hr i xs hi (by simp)) (fun i j u v b hi hj _ _ => hd i j u v b hi hj (by simp) (by simp)) fun h' d' e1 e2 _ => ?_
      cases e1; cases e2
      rw [setφ_same]; exact hv
    · intro b hb
      have ho2 : obGet id ((σ.upd id (.rows e ek k xss (some h) none)).new d (.arr ek k (xss.getD h []))).ob = some (.rows e ek k xss (some h) none) := by
        simp only [St.new, obGet, beq_false hne]
        exact obGet_purge_rows hne (obGet_setOb_same id _ _ ho)
      rw [innerB_who (who' := none)] at hb
      obtain ⟨⟨k1, k2, k3⟩, k4⟩ := s2.inr id _ b ho2 hb
      exact ⟨(k4 id _ ho2).1, k1, k2, k3, fun i p hi hp => ⟨(k4 i p hp).1, fun h => hi ((k4 i p hp).2 h)⟩⟩
def St.inn (σ : St) (id d : Nat) (e ek k : Nat) (xss : List (List (List CD))) (h : Nat) (ys : List (List CD)) : St := (σ.drop d).upd id (.rows e ek k (xss.set h ys) none none)
theorem Sim.inn (hs : Sim x S φ σ a w) (id d h : Nat) {e ek k : Nat} {xss : List (List (List CD))} {ys : List (List CD)} (ho : obGet id σ.ob = some (.rows e ek k xss (some h) (some d))) (hd' : obGet d σ.ob = some (.arr ek k ys)) : Sim x S φ (σ.inn id d e ek k xss h ys) a w := by
  have hne : id ≠ d := fun e' => by subst e'; rw [ho] at hd'; cases hd'
  have hob := hs.obs id _ ho
  have hrow : ArrR w S ek k ys (φ d) := by have := hs.obs d _ hd'; cases this with | arr h => exact h
  have ho1 : obGet id (σ.drop d).ob = some (.rows e ek k xss (some h) (some d)) := (obGet_drop_ne hne σ.ob).trans ho
  have hapart : ∀ b, innerB w (.rows e ek k xss (some h) (some d)) (φ id) b → Value.blk (φ d) ≠ some b := fun b hb => ((hs.inr id _ b ho hb).2 d _ hd').1
  have hset : ∀ i xs, (xss.set h ys)[i]? = some xs → (i = h ∧ xs = ys) ∨ (i ≠ h ∧ xss[i]? = some xs) := fun i xs hx => by
    rw [List.getElem?_set] at hx
    split at hx
    · rename_i he
      subst he
      split at hx
      · simp at hx; exact .inl ⟨rfl, hx.symm⟩
      · cases hx
    · rename_i he; exact .inr ⟨fun e => he e.symm, hx⟩
  refine (hs.drop d).updR id _ _ w ho1 (Ext.refl _ _) ?_ fun b hb => ?_
  · generalize hq : φ id = q at hob
    cases hob with
    | rows0 => simp only [List.set_nil]; exact .rows0
    | @rows _ _ _ _ _ _ g o cap cur hg hn hc hz h1 hr hd hw =>
      have hin : ∀ c u j, j < xss.length → j ≠ h → cur[o + j]? = some u → Value.blk u = some c → innerB w (.rows e ek k xss (some h) (some d)) (φ id) c := fun c u j hj hjh hu hc => by
        rw [hq]; exact ⟨cur, j, u, hg, hj, fun e => hjh (by cases e; rfl), hu, hc⟩
      have hl : xss.length = (xss.set h ys).length := by simp
      rw [hl]
      refine .rows hg (by simpa using hn) hc hz h1 (fun i xs hx _ => ?_) (fun i j u v b hi hj _ _ h3 h4 h5 h6 => ?_) fun _ _ h => by cases h
      · rcases hset i xs hx with ⟨rfl, rfl⟩ | ⟨hi, hx'⟩
        · exact ⟨_, hw i d rfl rfl (by simpa using (List.getElem?_eq_some_iff.1 hx).1), hrow⟩
        · exact hr i xs hx' fun e => hi (by cases e; rfl)
      · have hi2 : i < xss.length := by simpa using hi
        have hj2 : j < xss.length := by simpa using hj
        by_cases ih : i = h <;> by_cases jh : j = h
        · omega
        · subst ih
          rw [hw i d rfl rfl hi2] at h3; cases h3
          exact absurd h5 (hapart b (hin b v j hj2 jh h4 h6))
        · subst jh
          rw [hw j d rfl rfl hj2] at h4; cases h4
          exact absurd h6 (hapart b (hin b u i hi2 ih h3 h5))
        · exact hd i j u v b hi2 hj2 (fun e => ih (by cases e; rfl)) (fun e => jh (by cases e; rfl)) h3 h4 h5 h6
  · have key : innerB w (.rows e ek k xss (some h) (some d)) (φ id) b ∨ Value.blk (φ d) = some b := by
      generalize hq : φ id = q at hob hb
      cases hob with
      | rows0 => exact hb.elim
      | @rows _ _ _ _ _ _ g o cap cur hg hn hc hz h1 hr hd hw =>
        obtain ⟨cur', j, u, g1, g2, g3, g4, g5⟩ := hb
        rw [hg] at g1; cases g1
        have g6 : j < xss.length := by simpa using g2
        by_cases jh : j = h
        · subst jh
          rw [hw j d rfl rfl g6] at g4; cases g4
          exact .inr g5
        · exact .inl ⟨cur, j, u, hg, g6, fun e => jh (by cases e; rfl), g4, g5⟩
    rcases key with hb | hb
    · obtain ⟨⟨k1, k2, k3⟩, k4⟩ := hs.inr id _ b ho hb
      exact ⟨(k4 id _ ho).1, k1, k2, k3, fun i p hi hp => by
        have hp := (obGet_drop d σ.ob i p hp).2
        exact ⟨(k4 i p hp).1, fun h => hi ((k4 i p hp).2 h)⟩⟩
    · obtain ⟨k1, k2, k3⟩ := hs.own d _ b hd' hb
      exact ⟨(hs.apart hd' hb hne ho).1, k1, k2, k3, fun i p hi hp => by
        obtain ⟨hi', hp⟩ := obGet_drop d σ.ob i p hp
        exact hs.apart hd' hb hi' hp⟩
end
section
variable {P : Program} {c : AC} {Q : Exit → St → Prop} {σ : St}
end
end Go.AL
namespace Go.AL
attribute [go_sem] St.out St.inn St.drop dropOb whoPurge
end Go.AL

namespace Go.AL
open Go Go.RowKit
set_option linter.unusedVariables false
section
variable {x : Ctx} {S : Nat → Prop} {φ : Nat → Value} {σ : St} {a : Act} {w : World}
def St.out2 (σ : St) (id d d' : Nat) (e ek k : Nat) (xss : List (List (List CD))) (h h' : Nat) : St :=
  ((σ.upd id (.rows2 e ek k xss h h' (some d) none)).new d' (.arr ek k (xss.getD h' []))).upd id (.rows2 e ek k xss h h' (some d) (some d'))
theorem obGet_purge_rows2 {id d d' e ek k h h' : Nat} {xss : List (List (List CD))} (hne : id ≠ d') (hd : d ≠ d') : ∀ {l : List (Nat × AO)}, obGet id l = some (.rows2 e ek k xss h h' (some d) none) → obGet id (purgeOb d' l) = some (.rows2 e ek k xss h h' (some d) none)
  | [], h => by simp [obGet] at h
  | (j, q) :: r, h => by
    simp only [obGet] at h
    simp only [purgeOb]
    cases hij : Nat.beq id j with
    | true =>
      rw [hij] at h; simp at h; subst h
      have := Nat.eq_of_beq_eq_true hij; subst this
      simp [beq_false hne, obGet, AO.purge, whoPurge, beq_false hd]
    | false =>
      rw [hij] at h
      have ih := obGet_purge_rows2 (e := e) (ek := ek) (k := k) (xss := xss) hne hd (l := r) (by simpa using h)
      cases Nat.beq j d' with
      | true => exact ih
      | false => simp only [cond_false, obGet, hij]; exact ih
theorem Sim.out2 (hs : Sim x S φ σ a w) (id d d' h h' : Nat) {e ek k : Nat} {xss : List (List (List CD))} (ho : obGet id σ.ob = some (.rows e ek k xss (some h) (some d))) (hh : h' < xss.length) (hhh : h ≠ h') (hne : id ≠ d') (hdd : d ≠ d') (hd1 : d' < 1000000) :
    ∃ ψ, Sim x S ψ (σ.out2 id d d' e ek k xss h h') a w := by
  have hob := hs.obs id _ ho
  generalize hq : φ id = q at hob
  cases hob with
  | rows0 => simp at hh
  | @rows _ _ _ _ _ _ g o cap cur hg hn hc hz h1 hr hd hw =>
    have hx : xss[h']? = some xss[h'] := List.getElem?_eq_getElem hh
    have hgd : xss.getD h' [] = xss[h'] := by simp [List.getD, hh]
    obtain ⟨v, hv, hrow⟩ := hr h' _ hx (fun e => hhh (by cases e; rfl))
    have hone : v.oneCell' = true := h1 _ (by simpa using Array.mem_of_getElem? hv)
    have hin0 : ∀ c u j, j < xss.length → h ≠ j → cur[o + j]? = some u → Value.blk u = some c → innerB w (.rows e ek k xss (some h) (some d)) (φ id) c := fun c u j hj hjh hu hc => by
      rw [hq]; exact ⟨cur, j, u, hg, hj, fun e => hjh (by cases e; rfl), hu, hc⟩
    have hsub : ∀ w1 w2 b, innerB w (.rows2 e ek k xss h h' w1 w2) (φ id) b → ∃ u j, j < xss.length ∧ h ≠ j ∧ h' ≠ j ∧ cur[o + j]? = some u ∧ Value.blk u = some b := fun w1 w2 b hb => by
      rw [hq] at hb
      obtain ⟨cur', j, u, g1, g2, g3, g4, g5⟩ := hb
      rw [hg] at g1; cases g1
      exact ⟨u, j, g2, g3.1, g3.2, g4, g5⟩
    have hob2 : ∀ (ψ : Nat → Value) w2, ψ d = φ d → (∀ d2, w2 = some d2 → ψ d2 = v) → ObR x w S ψ (.rows2 e ek k xss h h' (some d) w2) (.slice (some ⟨g, o, none⟩) xss.length cap) := fun ψ w2 e1 e2 =>
      .rows2 hg hn hc hz h1 (fun i xs hi hne => hr i xs hi (fun e => hne.1 (by cases e; rfl))) (fun i j u v b hi hj n1 n2 => hd i j u v b hi hj (fun e => n1.1 (by cases e; rfl)) (fun e => n2.1 (by cases e; rfl)))
        (fun d2 e3 hl => by cases e3; rw [e1]; exact hw h d rfl rfl hl) (fun d2 e3 hl => by rw [e2 d2 e3]; exact hv)
    have s1 : Sim x S φ (σ.upd id (.rows2 e ek k xss h h' (some d) none)) a w := by
      refine hs.updR id _ _ w ho (Ext.refl _ _) ?_ fun b hb => ?_
      · rw [hq]; exact hob2 φ none rfl fun d2 e => by cases e
      · obtain ⟨u, j, g2, g3, g3', g4, g5⟩ := hsub _ _ b hb
        obtain ⟨⟨k1, k2, k3⟩, k4⟩ := hs.inr id _ b ho (hin0 b u j g2 g3 g4 g5)
        exact ⟨(k4 id _ ho).1, k1, k2, k3, fun i p hi hp => ⟨(k4 i p hp).1, fun h => hi ((k4 i p hp).2 h)⟩⟩
    have s2 : Sim x S (setφ φ d' v) ((σ.upd id (.rows2 e ek k xss h h' (some d) none)).new d' (.arr ek k (xss.getD h' []))) a w := by
      refine s1.renew d' hd1 _ v w (Ext.refl _ _) (by rw [hgd]; exact .arr hrow) fun b hb => ?_
      obtain ⟨⟨k1, k2, k3⟩, k4⟩ := hs.inr id _ b ho (hin0 b v h' hh hhh hv hb)
      refine ⟨k1, k2, k3, fun i p hi hp => ?_⟩
      rcases obGet_setOb id _ σ.ob i p hp with ⟨rfl, rfl, _⟩ | ⟨hi', hp⟩
      · refine ⟨(k4 i _ ho).1, fun hb' => ?_⟩
        obtain ⟨u, j, g2, g3, g3', g4, g5⟩ := hsub _ _ b hb'
        exact g3' (hd j h' u v b g2 hh (fun e => g3 (by cases e; rfl)) (fun e => hhh (by cases e; rfl)) g4 hv g5 hb).symm
      · exact ⟨(k4 i p hp).1, fun h => hi' ((k4 i p hp).2 h)⟩
    have ho2 : obGet id ((σ.upd id (.rows2 e ek k xss h h' (some d) none)).new d' (.arr ek k (xss.getD h' []))).ob = some (.rows2 e ek k xss h h' (some d) none) := by
      simp only [St.new, obGet, beq_false hne]
      exact obGet_purge_rows2 hne hdd (obGet_setOb_same id _ _ ho)
    refine ⟨_, s2.updR id (.rows2 e ek k xss h h' (some d) (some d')) (.rows2 e ek k xss h h' (some d) none) w ho2 (Ext.refl _ _) ?_ ?_⟩
    · rw [setφ_ne hne, hq]
      exact hob2 _ _ (setφ_ne hdd) fun d2 e => by cases e; exact setφ_same _ _ _
    · intro b hb
      rw [innerB_who2 (u1 := some d) (u2 := none)] at hb
      obtain ⟨⟨k1, k2, k3⟩, k4⟩ := s2.inr id _ b ho2 hb
      exact ⟨(k4 id _ ho2).1, k1, k2, k3, fun i p hi hp => ⟨(k4 i p hp).1, fun h => hi ((k4 i p hp).2 h)⟩⟩
def St.inn2 (σ : St) (id d d' : Nat) (e ek k : Nat) (xss : List (List (List CD))) (h h' : Nat) (ys : List (List CD)) : St := (σ.drop d').upd id (.rows e ek k (xss.set h' ys) (some h) (some d))
theorem Sim.inn2 (hs : Sim x S φ σ a w) (id d d' h h' : Nat) {e ek k : Nat} {xss : List (List (List CD))} {ys : List (List CD)} (ho : obGet id σ.ob = some (.rows2 e ek k xss h h' (some d) (some d'))) (hd' : obGet d' σ.ob = some (.arr ek k ys)) :
    Sim x S φ (σ.inn2 id d d' e ek k xss h h' ys) a w := by
  have hne : id ≠ d' := fun e' => by subst e'; rw [ho] at hd'; cases hd'
  have hob := hs.obs id _ ho
  have hrow : ArrR w S ek k ys (φ d') := by have := hs.obs d' _ hd'; cases this with | arr h => exact h
  have ho1 : obGet id (σ.drop d').ob = some (.rows2 e ek k xss h h' (some d) (some d')) := (obGet_drop_ne hne σ.ob).trans ho
  have hapart : ∀ b, innerB w (.rows2 e ek k xss h h' (some d) (some d')) (φ id) b → Value.blk (φ d') ≠ some b := fun b hb => ((hs.inr id _ b ho hb).2 d' _ hd').1
  have hset : ∀ i xs, (xss.set h' ys)[i]? = some xs → (i = h' ∧ xs = ys) ∨ (i ≠ h' ∧ xss[i]? = some xs) := fun i xs hx => by
    rw [List.getElem?_set] at hx
    split at hx
    · rename_i he
      subst he
      split at hx
      · simp at hx; exact .inl ⟨rfl, hx.symm⟩
      · cases hx
    · rename_i he; exact .inr ⟨fun e => he e.symm, hx⟩
  refine (hs.drop d').updR id _ _ w ho1 (Ext.refl _ _) ?_ fun b hb => ?_
  · generalize hq : φ id = q at hob
    cases hob with
    | @rows2 _ _ _ _ _ _ _ _ g o cap cur hg hn hc hz h1 hr hd hw hw' =>
      have hin : ∀ c u j, j < xss.length → h ≠ j → h' ≠ j → cur[o + j]? = some u → Value.blk u = some c → innerB w (.rows2 e ek k xss h h' (some d) (some d')) (φ id) c := fun c u j hj hjh hjh' hu hc => by
        rw [hq]; exact ⟨cur, j, u, hg, hj, ⟨hjh, hjh'⟩, hu, hc⟩
      have hl : xss.length = (xss.set h' ys).length := by simp
      rw [hl]
      refine .rows hg (by simpa using hn) hc hz h1 (fun i xs hx hni => ?_) (fun i j u v b hi hj hni hnj h3 h4 h5 h6 => ?_) fun h2 d2 e1 e2 hl2 => ?_
      · rcases hset i xs hx with ⟨rfl, rfl⟩ | ⟨hi, hx'⟩
        · exact ⟨_, hw' d' rfl (by simpa using (List.getElem?_eq_some_iff.1 hx).1), hrow⟩
        · exact hr i xs hx' ⟨fun e => hni (by rw [e]), fun e => hi e.symm⟩
      · have hi2 : i < xss.length := by simpa using hi
        have hj2 : j < xss.length := by simpa using hj
        have ni : h ≠ i := fun e => hni (by rw [e])
        have nj : h ≠ j := fun e => hnj (by rw [e])
        by_cases ih : i = h' <;> by_cases jh : j = h'
        · omega
        · subst ih
          rw [hw' d' rfl hi2] at h3; cases h3
          exact absurd h5 (hapart b (hin b v j hj2 nj (fun e => jh e.symm) h4 h6))
        · subst jh
          rw [hw' d' rfl hj2] at h4; cases h4
          exact absurd h6 (hapart b (hin b u i hi2 ni (fun e => ih e.symm) h3 h5))
        · exact hd i j u v b hi2 hj2 ⟨ni, fun e => ih e.symm⟩ ⟨nj, fun e => jh e.symm⟩ h3 h4 h5 h6
      · cases e1; cases e2
        exact hw d rfl (by simpa using hl2)
  · have key : innerB w (.rows2 e ek k xss h h' (some d) (some d')) (φ id) b ∨ Value.blk (φ d') = some b := by
      generalize hq : φ id = q at hob hb
      cases hob with
      | @rows2 _ _ _ _ _ _ _ _ g o cap cur hg hn hc hz h1 hr hd hw hw' =>
        obtain ⟨cur', j, u, g1, g2, g3, g4, g5⟩ := hb
        rw [hg] at g1; cases g1
        have g6 : j < xss.length := by simpa using g2
        have nj : h ≠ j := fun e => g3 (by rw [e])
        by_cases jh : j = h'
        · subst jh
          rw [hw' d' rfl g6] at g4; cases g4
          exact .inr g5
        · exact .inl ⟨cur, j, u, hg, g6, ⟨nj, fun e => jh e.symm⟩, g4, g5⟩
    rcases key with hb | hb
    · obtain ⟨⟨k1, k2, k3⟩, k4⟩ := hs.inr id _ b ho hb
      exact ⟨(k4 id _ ho).1, k1, k2, k3, fun i p hi hp => by
        have hp := (obGet_drop d' σ.ob i p hp).2
        exact ⟨(k4 i p hp).1, fun h => hi ((k4 i p hp).2 h)⟩⟩
    · obtain ⟨k1, k2, k3⟩ := hs.own d' _ b hd' hb
      exact ⟨(hs.apart hd' hb hne ho).1, k1, k2, k3, fun i p hi hp => by
        obtain ⟨hi', hp⟩ := obGet_drop d' σ.ob i p hp
        exact hs.apart hd' hb hi' hp⟩
end
section
variable {P : Program} {c : AC} {Q : Exit → St → Prop} {σ : St}
end
section
variable {x : Ctx} {S : Nat → Prop} {φ : Nat → Value} {σ : St} {a : Act} {w : World}
def St.rowsArr (σ : St) (id e : Nat) (k : Nat) (xss : List (List (List CD))) (t : Nat) : St := ((σ.drop id).new id (.arr e 1 (xss.map fun xs => [CD.sl k xs]))).put t (.own id)
theorem Sim.putSame {d : Nat} {r : AV} (hs : Sim x S φ σ a w) (hr : AVR x w S φ r (a.tmps.getD d undef)) : Sim x S φ (σ.put d r) a w := by
  refine ⟨fun t => ?_, hs.size, hs.obs, hs.own, hs.inj, hs.inr, hs.dat, hs.ext, hs.defers, hs.small, hs.pins⟩
  rw [get_put]
  by_cases h : t = d
  · subst h
    rw [if_pos rfl]; exact hr
  · rw [if_neg h]; exact hs.tms t
theorem Sim.rowsArr (hs : Sim x S φ σ a w) (id t : Nat) {e ek k : Nat} {xss : List (List (List CD))} {who : Option Nat} (ho : obGet id σ.ob = some (.rows e ek k xss none who)) (ht : σ.get t = .own id) (hid : id < 1000000) :
    ∃ T ψ, Sim x T ψ (σ.rowsArr id e k xss t) a w := by
  have hob := hs.obs id _ ho
  have h1 : Sim x (fun b => S b ∨ innerB w (.rows e ek k xss none who) (φ id) b) φ (σ.drop id) a w := by
    refine (hs.drop id).more (fun b h => .inl h) fun b hb hn => ?_
    rcases hb with hb | hb
    · exact absurd hb hn
    · obtain ⟨⟨k1, k2, k3⟩, k4⟩ := hs.inr id _ b ho hb
      refine ⟨k2, .inr k3, fun i p hp => ?_⟩
      obtain ⟨hi, hp⟩ := obGet_drop id σ.ob i p hp
      exact ⟨(k4 i p hp).1, fun h => hi ((k4 i p hp).2 h)⟩
  refine ⟨_, _, (h1.renewR id hid (.arr e 1 (xss.map fun xs => [CD.sl k xs])) (φ id) w (Ext.refl _ _) ?_ ?_ ?_).putSame (d := t) ?_⟩
  · refine .arr ?_
    generalize hq : φ id = q at hob
    cases hob with
    | rows0 => exact .nil
    | @rows _ _ _ _ _ _ g o cap cur hg hn hc hz h1 hr hd hw =>
      have hl : xss.length = (xss.map fun xs => [CD.sl k xs]).length := by simp
      rw [hl]
      refine .row hg (by simpa using hn) hc (by omega) (fun y hy => ?_) h1 fun i j y d hy hd => ?_
      · simp only [List.mem_map] at hy
        obtain ⟨_, _, rfl⟩ := hy; rfl
      · simp only [List.getElem?_map, Option.map_eq_some_iff] at hy
        obtain ⟨xs, hxs, rfl⟩ := hy
        have hi' := (List.getElem?_eq_some_iff.1 hxs).1
        cases j with
        | succ j => simp at hd
        | zero =>
          simp at hd; subst hd
          obtain ⟨v, hv, hrow⟩ := hr i xs hxs (by simp)
          refine ⟨v, by rw [Nat.mul_one, Nat.add_zero]; exact hv, ?_⟩
          exact (hrow.mono fun b h => .inl h).data fun b hb => .inr ⟨cur, i, v, hg, hi', by simp, hv, hb⟩
  · intro b hb
    obtain ⟨k1, k2, k3⟩ := hs.own id _ b ho hb
    refine ⟨fun h => ?_, k2, k3, fun i p hi hp => ?_⟩
    · rcases h with h | h
      · exact k1 h
      · exact ((hs.inr id _ b ho h).2 id _ ho).1 hb
    · obtain ⟨_, hp⟩ := obGet_drop id σ.ob i p hp
      exact hs.apart ho hb hi hp
  · intro b hb; exact absurd hb (innerB_plain rfl _ _)
  · have h2 := hs.tms t
    rw [ht] at h2
    generalize a.tmps.getD t undef = q at h2 ⊢
    cases h2 with
    | own h =>
      have : AVR x w (fun b => S b ∨ innerB w (.rows e ek k xss none who) (φ id) b) (setφ φ id (φ id)) (.own id) (setφ φ id (φ id) id) := .own (by rw [setφ_same]; exact h)
      rwa [setφ_same] at this
end
attribute [go_sem] St.rowsArr
attribute [go_sem] St.out2 St.inn2
end Go.AL
namespace Go.AL
open Go Go.RowKit
theorem AW_raw {P : Program} {k : Code} {Q : Exit → St → Prop} {σ : St} (h : ∀ (x : Ctx) (S : Nat → Prop) (φ : Nat → Value) (a : Act) (w : World), x.P = P → Sim x S φ σ a w → k.wp P (simQ x Q) a w) : AW P (.raw k) Q σ := fun code hc x S φ a w hx hs => by
  have hk : code = k := by
    cases code <;> simp [comp] at hc
    case region i ops d =>
      unfold compRegF at hc
      cases h1 : compReg P ops d with
      | some c =>
        rw [h1] at hc
        simp only [Option.getD_some, Option.some.injEq] at hc
        subst hc
        exact (compReg_ne0 h1 (by simp) (by simp)).elim
      | none => rw [h1] at hc; simpa using hc
    all_goals (repeat (first | (split at hc <;> simp at hc) | (obtain ⟨_, _, hc⟩ := hc; simp at hc)))
  subst hk
  exact h x S φ a w hx hs
def rawsOf (P : Program) : Code → List Code
  | .region r ops d => match compReg P ops d with
    | some _ => []
    | none => [.region r ops d]
  | .seq a b => rawsOf P a ++ rawsOf P b
  | .cond _ a b => rawsOf P a ++ rawsOf P b
  | .block _ b => rawsOf P b
  | .loop b => rawsOf P b
  | .scope b => rawsOf P b
  | _ => []
noncomputable def rawAt (P : Program) (f k : Nat) : Code := match P.funcs[f]? with
  | some fn => match fn.body with
    | some c => (rawsOf P c).getD k .skip
    | none => .skip
  | none => .skip
end Go.AL

namespace Go.AL
open Go Go.RowKit
section
variable {P : Program} {Q : Exit → St → Prop} {σ : St}
def AWs (P : Program) (Q : Exit → St → Prop) (σ : St) : AC → Prop
  | .seq a b => AW P a (seqQ P b Q) σ
  | .block i b => AW P b (blockQ i Q) σ
  | .reg l false => steps P Q l σ
  | .cond c a b => condW (σ.ev c) (AW P a Q σ) (AW P b Q σ)
  | .skip => Q .normal σ
  | .exit i => Q (.exit i) σ
  | .ret => Q .ret σ
  | _ => False
theorem AWs_seq (a b : AC) : AWs P Q σ (.seq a b) = AW P a (seqQ P b Q) σ := rfl
theorem AWs_block (i : Nat) (b : AC) : AWs P Q σ (.block i b) = AW P b (blockQ i Q) σ := rfl
theorem AWs_reg (l : List AP) : AWs P Q σ (.reg l false) = steps P Q l σ := rfl
theorem AWs_cond (c : AX) (a b : AC) : AWs P Q σ (.cond c a b) = condW (σ.ev c) (AW P a Q σ) (AW P b Q σ) := rfl
theorem AWs_skip : AWs P Q σ .skip = Q .normal σ := rfl
theorem AWs_exit (i : Nat) : AWs P Q σ (.exit i) = Q (.exit i) σ := rfl
theorem AWs_ret : AWs P Q σ .ret = Q .ret σ := rfl
def stepC : AC → Bool
  | .seq _ _ | .block _ _ | .reg _ false | .cond _ _ _ | .skip | .exit _ | .ret => true
  | _ => false
theorem aw {c : AC} (h : AWs P Q σ c) (_ : stepC c = true := by rfl) : AW P c Q σ := by
  unfold AWs at h
  split at h
  · exact AW_seq h
  · exact AW_block h
  · exact AW_reg h
  · exact AW_cond h
  · exact AW_skip h
  · exact AW_exit h
  · exact AW_ret h
  · exact h.elim
theorem aD {l : List (AP × List Nat)} (h : stepsD P Q l σ) (hm : P.follows .mixedOrders = true := by kernel_rfl) : AW P (.regD l) Q σ := AW_regD hm h
theorem aX {p : PlanA} (h : regA P Q p σ) (hm : P.follows .mixedOrders = true := by kernel_rfl) : AW P (.regX p) Q σ := AW_regX hm h
theorem aI {a b : Prop} {c c' : AC} {Q' : Exit → St → Prop} {σ' : St} (h : a → AW P c Q σ) (h' : b → AW P c' Q' σ') : (a → AW P c Q σ) ∧ (b → AW P c' Q' σ') := ⟨h, h'⟩
theorem aA {q : Prop} {c : AC} (h : AW P c Q σ) (h' : q) : AW P c Q σ ∧ q := ⟨h, h'⟩
theorem aC {q : Prop} {f d : Nat} {K : St → Prop} {as0 as : List AV} {fl : Bool} (h : CallAt P f K d as0 as fl σ) (h' : q) : CallAt P f K d as0 as fl σ ∧ q := ⟨h, h'⟩
theorem aC' {q r : Prop} {f d : Nat} {K : St → Prop} {as0 as : List AV} {fl : Bool} (h : CallAt P f K d as0 as fl σ ∧ r) (h' : q) : (CallAt P f K d as0 as fl σ ∧ r) ∧ q := ⟨h, h'⟩
theorem cR {f : Nat} {as0 as : List AV} {fl : Bool} {K : St → Prop} {d : Nat} {rs : List RV} (h : FnR P f as rs) (hk : K (σ.putRes d rs))
    (hf : fl = true → ∀ r ∈ rs, RV.flatP r := by first | (intro h; cases h; done) | (intro _; repeat' (first | exact List.forall_mem_nil _ | trivial | refine List.forall_mem_cons.2 ⟨?_, ?_⟩)) | (intro _; simp [RV.flatP, CD.flatP]; done)) (hn : rs.length ≤ 100 := by simp) : CallAt P f K d as0 as fl σ := CallAt.mk rs h hf hk hn
theorem cG {f : Nat} {args : List AX} {as : List AV} {G : Bool} {K : St → Prop} {d : Nat} {v : Value} (h : FnR P f as [.c (.sc v)]) (hk : K (σ.put d (.opt G (.c (.sc v))))) : CallAtG P f args as G K d σ := .mk v (fun _ => h) hk
theorem cT {f : Nat} {args : List AX} {as : List AV} {K : St → Prop} {d : Nat} (h : CallAt P f K d (args.map σ.strip.ev) ((args.map σ.strip.ev).map σ.strip.arg) ((args.map σ.strip.ev).any AV.lends) σ.strip) : CallAtG P f args as true K d σ := .t rfl h
theorem cF {f : Nat} {args : List AX} {as : List AV} {K : St → Prop} {d : Nat} (h : K (σ.put d (.opt false .any))) : CallAtG P f args as false K d σ := .f rfl h
theorem cD {d : Nat} {g : Option (Nat × Bool)} {G : Bool} {f : Nat} {us : List AV} {fl : Bool} {r : List (AP × List Nat)} {rs : List RV} (h : FnR P f us rs) (hK : stepsD P Q r (σ.put d (AV.under g G (resAV rs)))) (hd : ∀ r ∈ rs, RV.data r := by simp [RV.data])
    (hf : fl = true → ∀ r ∈ rs, RV.flatP r := by first | (intro h; cases h; done) | (intro _; repeat' (first | exact List.forall_mem_nil _ | trivial | refine List.forall_mem_cons.2 ⟨?_, ?_⟩)) | (intro _; simp [RV.flatP, CD.flatP]; done)) : CallDS P Q σ d g G f us fl r := .mk rs hd (fun _ => h) hf hK
theorem cW {f : Nat} {as0 as : List AV} {fl : Bool} {K : St → Prop} {d : Nat} {asW : List AV} {ob : List (Nat × AO)} {rs : List RV} {ob' : List (Nat × AO)} {kp : List Nat} (h : FnW P f asW ob rs ob' kp) (hob : σ.le2 ob) (hk : K ((σ.after ob ob' kp).putRes d rs)) (has : as0.map (σ.argW ob) = asW := by rfl) (hpin : pinOk kp ob' = true := by rfl) (hplain : plainOb ob' = true := by rfl)
    (hf : as0.any (AV.lendsW ob) = true → (∀ r ∈ rs, RV.flatP r) ∧ flatOb ob' := by first | (intro h; cases h; done) | (intro _; simp [RV.flatP, CD.flatP, flatOb, AO.flatP]; done)) (hn : rs.length ≤ 100 := by simp) : CallAt P f K d as0 as fl σ := .mkW h has hob hpin hplain hf hk hn
end
attribute [go_sem] AWs_seq AWs_block AWs_reg AWs_cond AWs_skip AWs_exit AWs_ret beq_dec Int.toNat_natCast IntKind.signed IntKind.bits
end Go.AL

