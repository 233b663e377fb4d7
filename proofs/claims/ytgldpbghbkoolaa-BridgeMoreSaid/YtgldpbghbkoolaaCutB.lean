/-
  Lemmas for the proof: no statement of its own.
-/
import Derived.Test.YtgldpbghbkoolaaAlD
set_option linter.unusedVariables false
set_option linter.unusedSimpArgs false
namespace Go.AL
open Go Go.RowKit
set_option linter.unusedVariables false
section
variable {x : Ctx} {S : Nat → Prop} {φ : Nat → Value} {σ : St} {a : Act} {w : World} {P : Program}
/-! ### code in pieces -/
/-- the judgement on a piece of code that need not be compiled as a whole -/
def CW (P : Program) (code : Code) (Q : Exit → St → Prop) (σ : St) : Prop :=
  ∀ (x : Ctx) (S : Nat → Prop) (φ : Nat → Value) (a : Act) (w : World), x.P = P → Sim x S φ σ a w → code.wp P (simQ x Q) a w
theorem CW.of {code : Code} {c : AC} {Q : Exit → St → Prop} (hc : comp P code = some c) (h : AW P c Q σ) : CW P code Q σ := h code hc
def cwQ (P : Program) (z : Code) (Q : Exit → St → Prop) : Exit → St → Prop
  | .normal, τ => CW P z Q τ
  | e, τ => Q e τ
attribute [go_sem] cwQ
theorem CW.seq {y z : Code} {Q : Exit → St → Prop} (h : CW P y (cwQ P z Q) σ) : CW P (.seq y z) Q σ := fun x S φ a w hx hs => by
  refine wp_seq (Code.wp_mono (fun e a' w' hq => ?_) (h x S φ a w hx hs))
  obtain ⟨τ, S', φ', hq, hs'⟩ := hq
  cases e with
  | normal => exact hq x S' φ' a' w' hx hs'
  | _ => exact ⟨τ, S', φ', hq, hs'⟩
/-! ### clear on the tail of an owned row -/
theorem clear_run {t ty e k l cap : Nat} {inf : TypeInfo} {z : Value} {zc : List CD} {xs : List (List CD)} {A : Option Addr} (ht : P.underlying t = some (.slice e)) (hi : P.info? e = some inf) (hz : inf.zero = some z) (hk0 : 0 < k)
    (hzc : constCDs z.cells.toList = some zc) (hzl : zc.length = k) (h : ArrR w S e k xs (.slice A xs.length cap)) (hl : l ≤ xs.length) (hS : ∀ b, Value.blk (.slice A xs.length cap) = some b → ¬ S b) :
    ∃ w', (Builtin.clear_ #[t] ty #[.slice (if cap = l then A else A.map (·.add (l * k))) (xs.length - l) (cap - l)]).run P w = .ok (.tuple #[]) w' ∧ Ext (fun b => Value.blk (.slice A xs.length cap) ≠ some b) w w' ∧ ArrR w' S e k (xs.take l ++ List.replicate (xs.length - l) zc) (.slice A xs.length cap) := by
  by_cases hn : xs.length - l = 0
  · refine ⟨w, ?_, Ext.refl _ _, ?_⟩
    · rw [hn]
      split <;> cases A <;> simp [Builtin.clear_, run_underlying ht]
    · rw [hn, List.replicate_zero, List.append_nil, List.take_of_length_le (by omega)]; exact h
  · obtain ⟨c1, c2⟩ := constCDs_sound hzc w S
    have hzs : z.cells.size = k := by simpa [hzl] using c1
    generalize hxl : xs.length = n at *
    generalize hv : Value.slice A n cap = v at h
    cases h with
    | nil => simp at hxl; omega
    | @row _ g o cap' cur hg hn' hcm hs hk' h1 hrd =>
      simp only [Value.slice.injEq] at hv
      obtain ⟨rfl, hv2, rfl⟩ := hv
      have hcl : ¬ cap = l := by omega
      have hnl : l * k + (n - l) * k = n * k := by rw [← Nat.add_mul]; congr 1; omega
      have hnk : n * k ≤ cap * k := Nat.mul_le_mul_right _ (by omega)
      have hsz : (Builtin.zeroCells z.cells (n - l)).toList.length = (n - l) * k := by rw [Array.length_toList, size_zeroC, hzs]
      have hz1 : ∀ u ∈ z.cells.toList, u.oneCell' = true := fun u hu => by
        obtain ⟨j, hj, rfl⟩ := List.getElem_of_mem hu
        exact (c2 j _ _ (List.getElem?_eq_getElem (by rw [← c1]; exact hj)) (List.getElem?_eq_getElem hj)).oneCell
      have hv1 := zero_one z.cells (n - l) hz1 (by omega)
      have hst := run_storeCells_at P g (o + l * k) e (Builtin.zeroCells z.cells (n - l)).toList 0 cur w hg (by rw [hsz]; omega) hv1
      simp only [Nat.add_zero] at hst
      have hgz : ∀ q, q < (n - l) * k → (Builtin.zeroCells z.cells (n - l)).toList[q]? = z.cells.toList[q % k]? := fun q hq => by
        have hm : q % k < z.cells.size := by rw [hzs]; exact Nat.mod_lt _ hk0
        simp only [Builtin.zeroCells, Array.toList_map, Array.toList_range, List.getElem?_map, hzs]
        rw [List.getElem?_range (by omega)]
        simp only [Option.map_some]
        rw [getElem!_pos z.cells (q % k) hm, Array.getElem?_toList, Array.getElem?_eq_getElem hm]
      generalize hvs : (Builtin.zeroCells z.cells (n - l)).toList = vs at *
      have hext : Ext (fun b => b ≠ g) w (w.setRow g (cur.toList.take (o + l * k) ++ vs ++ cur.toList.drop (o + l * k + vs.length)).toArray) := ext_setRow w g _
      have hgS : ¬ S g := hS g (by simp [Value.blk])
      have heS := hext.mono (T := S) fun b hb e => hgS (e ▸ hb)
      refine ⟨_, ?_, hext.mono fun b hb e => hb (by subst e; rfl), ?_⟩
      · rw [if_neg hcl]
        obtain ⟨m, hm⟩ : ∃ m, n - l = m + 1 := ⟨n - l - 1, by omega⟩
        have hzv : (zeroValue e).run P w = .ok z w := by simp [zeroValue, typeInfo, hi, hz, Result.andThen]
        rw [hm] at hvs ⊢
        simp only [Option.map_some, addr_add]
        simp [Builtin.clear_, run_underlying ht, hzv, hvs, hst]
      · have hlen : (xs.take l ++ List.replicate (n - l) zc).length = n := by simp; omega
        suffices hR : ArrR (w.setRow g (cur.toList.take (o + l * k) ++ vs ++ cur.toList.drop (o + l * k + vs.length)).toArray) S e k (xs.take l ++ List.replicate (n - l) zc) (.slice (some ⟨g, o, none⟩) (xs.take l ++ List.replicate (n - l) zc).length cap) by
          rw [hlen] at hR
          rw [← hv2]; exact hR
        refine .row (setRow_heap w g cur _ e _ hg) (by omega) hcm (by simp; omega) (fun y hy => ?_) (fun u hu => ?_) fun i' j y d hy hd => ?_
        · rcases List.mem_append.1 hy with hy | hy
          · exact hk' y (List.mem_of_mem_take hy)
          · rw [List.eq_of_mem_replicate hy]; exact hzl
        · simp only [List.mem_append] at hu
          rcases hu with (hu | hu) | hu
          · exact h1 u (List.mem_of_mem_take hu)
          · exact hv1 u hu
          · exact h1 u (List.mem_of_mem_drop hu)
        · have e0 : (cur.toList.take (o + l * k)).length = o + l * k := by simp; omega
          have etl : (xs.take l).length = l := by simp; omega
          simp only [List.getElem?_toArray]
          rcases Nat.lt_or_ge i' l with hil | hil
          · rw [List.getElem?_append_left (by omega), List.getElem?_take, if_pos hil] at hy
            have hjk : j < k := by rw [← hk' y (List.mem_of_getElem? hy)]; exact (List.getElem?_eq_some_iff.1 hd).1
            obtain ⟨u, hu, hru⟩ := hrd i' j y d hy hd
            have := idx_lt hil hjk
            refine ⟨u, ?_, hru.ext heS⟩
            rw [List.append_assoc, List.getElem?_append_left (by omega), List.getElem?_take, if_pos (by omega)]
            simpa using hu
          · rw [List.getElem?_append_right (by omega), etl] at hy
            have hyz : y = zc := List.eq_of_mem_replicate (List.mem_of_getElem? hy)
            have hi2 : i' - l < n - l := by
              have := (List.getElem?_eq_some_iff.1 hy).1
              simpa using this
            subst hyz
            have hjk : j < k := by rw [← hzl]; exact (List.getElem?_eq_some_iff.1 hd).1
            have hlt := idx_lt hi2 hjk
            have hmul : i' * k = l * k + (i' - l) * k := by rw [← Nat.add_mul]; congr 1; omega
            have hjl : j < z.cells.toList.length := by simp [hzs, hjk]
            refine ⟨z.cells.toList[j], ?_, (c2 j d _ hd (List.getElem?_eq_getElem hjl)).ext heS⟩
            rw [List.append_assoc, List.getElem?_append_right (by omega), List.getElem?_append_left (by omega), e0, show o + (i' * k + j) - (o + l * k) = (i' - l) * k + j by omega, hgz _ hlt,
              show ((i' - l) * k + j) % k = j by rw [Nat.mul_comm, Nat.mul_add_mod, Nat.mod_eq_of_lt hjk], List.getElem?_eq_getElem hjl]
theorem fn_introC {f : Nat} {fn : Func} {code : Code} {ts : List Nat} {as : List AV} {rs : List RV} {ob ob' : List (Nat × AO)} {kp : List Nat} (hf : P.funcs[f]? = some fn) (hb : fn.body = some code) (hcb : callB P f = true)
    (hr : rvsOf P fn.results.toList = some ts) (hn : as.length ≤ fn.ntmps ∧ fn.ntmps ≤ 10000) (hkp : bigIds kp = true) (h : CW P code (retQW ts rs ob') ⟨fn.ntmps, enumFrom 0 as, ob⟩) (hpl : rowless ob = true := by rfl) : FnW P f as ob rs ob' kp := by
  refine ⟨hcb, fun w S φ vs hS hlen hargs hobs => calls_of_wp hf hb (Code.wp_mono ?_ (h ⟨P, w, S, blkIO φ ob, φ⟩ S φ _ w rfl ?_))⟩
  · rintro e a w' ⟨τ, S', ψ, hq, hs⟩
    have main : retOkW τ (ts.map τ.resv) rs ob' → a.defers = [] ∧ ∃ v, (results fn a.tmps).run P w' = .ok v w' ∧ ∃ us S' φ', Ending.returned v = .returned (retValue us) ∧ ResW w S (blkIO φ ob) w' rs us S' ∧ Ext (fun b => ¬ blkIO φ ob b) w w' ∧ ObsR ⟨P, w, S, blkIO φ ob, φ⟩ w' S' φ' ob' ∧
      (∀ (i : Nat) (e k : Nat) (xs : List (List CD)) (v : Value) (b id : Nat) (o : AO), rs[i]? = some (.own e k xs) → us[i]? = some v → Value.blk v = some b → obGet id ob' = some o → Value.blk (φ' id) ≠ some b) ∧
      (∀ id, inL id kp = true → φ' id = φ id) ∧ ∀ id, hasKey id ob' = false → φ' id = φ id := by
      rintro ⟨⟨hok, hnd⟩, hle, hcl, hap⟩
      have hlo := fun i o h => le2_get hle i o h
      obtain ⟨hl, hres⟩ := retOkL_get hok
      obtain ⟨hr1, hr2⟩ := rvsOf_get hr
      have hne : ∀ (i t : Nat), ts[i]? = some t → ∃ r, rs[i]? = some r ∧ resOk1 τ (τ.resv t) r ∧ τ.resv t ≠ .any := fun i t ht => by
        have hil : i < rs.length := by
          have h1 := (List.getElem?_eq_some_iff.1 ht).1
          simp at hl; omega
        have hok := hres i (τ.resv t) rs[i] (by simp [ht]) (List.getElem?_eq_getElem hil)
        refine ⟨_, List.getElem?_eq_getElem hil, hok, fun e => ?_⟩
        rw [e] at hok
        cases hri : rs[i] <;> rw [hri] at hok <;> exact hok
      have hus : ∃ us : List Value, us.length = fn.results.toList.length ∧ (∀ (i : Nat) (r : ResultVar) (u : Value), fn.results.toList[i]? = some r → us[i]? = some u → (resOne a.tmps r).run P w' = .ok u w') ∧ ∀ (i t : Nat) (u : Value), ts[i]? = some t → us[i]? = some u → AVR ⟨P, w, S, blkIO φ ob, φ⟩ w' S' ψ (τ.resv t) u := by
        have key : ∀ (l : List ResultVar) (us : List Nat), us.length = l.length → (∀ (i : Nat) (r : ResultVar) (t : Nat), l[i]? = some r → us[i]? = some t → rvEnc P r = some t ∧ τ.resv t ≠ .any) → ∃ vs : List Value, vs.length = l.length ∧ (∀ (i : Nat) (r : ResultVar) (u : Value), l[i]? = some r → vs[i]? = some u → (resOne a.tmps r).run P w' = .ok u w') ∧ ∀ (i t : Nat) (u : Value), us[i]? = some t → vs[i]? = some u → AVR ⟨P, w, S, blkIO φ ob, φ⟩ w' S' ψ (τ.resv t) u := by
          intro l
          induction l with
          | nil =>
            intro us hl _
            obtain rfl := List.eq_nil_of_length_eq_zero hl
            exact ⟨[], rfl, fun i r u h => by simp at h, fun i t u h => by simp at h⟩
          | cons r l ih =>
            intro us hl h
            match us, hl with
            | t :: us, hl =>
              obtain ⟨vs, h1, h2, h3⟩ := ih us (by simpa using hl) fun i r t hr ht => h (i + 1) r t (by simpa using hr) (by simpa using ht)
              obtain ⟨g1, g2⟩ := h 0 r t rfl rfl
              obtain ⟨v, hv1, hv2⟩ := resv_run hs g1 g2
              refine ⟨v :: vs, by simp [h1], fun i r' u hr' hu => ?_, fun i t' u ht' hu => ?_⟩
              · cases i with
                | zero => simp at hr' hu; subst hr'; subst hu; exact hv1
                | succ i => exact h2 i r' u (by simpa using hr') (by simpa using hu)
              · cases i with
                | zero => simp at ht' hu; subst ht'; subst hu; exact hv2
                | succ i => exact h3 i t' u (by simpa using ht') (by simpa using hu)
        refine key _ ts hr1 fun i r t hr' ht => ⟨hr2 i r t hr' ht, ?_⟩
        obtain ⟨_, _, _, h⟩ := hne i t ht
        exact h
      obtain ⟨us0, hus1, hus2, hus3⟩ := hus
      have hval : ∀ (i : Nat) (r : RV) (v : Value), rs[i]? = some r → us0[i]? = some v → ∃ q, (ts.map τ.resv)[i]? = some q ∧ AVR ⟨P, w, S, blkIO φ ob, φ⟩ w' S' ψ q v ∧ resOk1 τ q r := by
        intro i r v hri hv
        have hit : i < ts.length := by
          have h1 := (List.getElem?_eq_some_iff.1 hv).1
          omega
        have ht : ts[i]? = some ts[i] := List.getElem?_eq_getElem hit
        exact ⟨τ.resv ts[i], by simp [ht], hus3 i _ v ht hv, hres i _ r (by simp [ht]) hri⟩
      have hSown : ∀ id o b, obGet id τ.ob = some o → Value.blk (ψ id) = some b → ¬ S b := by
        intro id o b ho hb h
        rcases (hs.own id o b ho hb).2.2 with h' | ⟨i, p, hp, h'⟩
        · have := hS b h; simp at h'; omega
        · exact (hobs.own i p b hp h').1 h
      refine ⟨hs.defers, _, results_run rfl hus1 hus2, us0, fun b => S b ∨ S' b ∨ ∃ (i id : Nat) (d : CD), (ts.map τ.resv)[i]? = some (.own id) ∧ rs[i]? = some (.c d) ∧ (∃ o, obGet id τ.ob = some o) ∧ Value.blk (ψ id) = some b, (fun id => bif hasKey id ob' then ψ id else φ id), rfl, ?_, hs.ext, ?_, ?_, ?_, ?_⟩
      · refine ⟨fun b hb => .inl hb, fun b hb => ?_, fun b hb => ?_, by simp at hl; omega, fun i r v hri hv => ?_, fun i e k xs v b hri hv hb => ?_, fun i j e k xs e' k' xs' v u b hri hrj hv hu hbv hbu => ?_⟩
        · rcases hb with hb | hb | ⟨i, id, d, _, _, ⟨o, ho⟩, hb⟩
          · exact .inl hb
          · exact (hs.dat b hb).2
          · exact .inr (hs.own id o b ho hb).2.2
        · rcases hb with hb | hb | ⟨i, id, d, _, _, ⟨o, ho⟩, hb⟩
          · exact Nat.lt_of_lt_of_le (hS b hb) hs.ext.size
          · exact (hs.dat b hb).1
          · exact (hs.own id o b ho hb).2.1
        · obtain ⟨q, hq, hr, hok⟩ := hval i r v hri hv
          cases r with
          | c d =>
            simp only [resOk1] at hok
            split at hok
            · subst hok
              cases hr with
              | c h => exact h.mono fun b hb => .inr (.inl hb)
            · rename_i id
              split at hok
              · rename_i e k xs ho
                subst hok
                have := hs.obs id _ ho
                cases hr
                cases this with
                | arr h => exact (h.mono fun b hb => .inr (.inl hb)).data fun b hb => .inr (.inr ⟨i, id, _, hq, hri, ⟨_, ho⟩, hb⟩)
              · rename_i kk es ho
                subst hok
                have := hs.obs id _ ho
                have hbk : ∀ b, Value.blk (ψ id) = some b → _ := fun b hb => (.inr (.inr ⟨i, id, _, hq, hri, ⟨_, ho⟩, hb⟩) : S b ∨ S' b ∨ ∃ (i id : Nat) (d : CD), (ts.map τ.resv)[i]? = some (.own id) ∧ rs[i]? = some (.c d) ∧ (∃ o, obGet id τ.ob = some o) ∧ Value.blk (ψ id) = some b)
                cases hr
                generalize ψ id = z at this hbk
                cases this with
                | map hb hst hm => exact MapR.data hb (hbk _ rfl) hst (hm.mono fun b hb => .inr (.inl hb))
              · exact hok.elim
            · exact hok.elim
          | agg ds =>
            simp only [resOk1] at hok
            split at hok
            · rename_i cs
              obtain ⟨h1, h2⟩ := toCDs_get hok
              cases hr with
              | @agg _ us hl hr _ =>
                refine ⟨us, rfl, hl.trans h1, fun j d u hd hu => ?_⟩
                have := hr j _ u (h2 j d hd) hu
                cases this with
                | c h => exact h.mono fun b hb => .inr (.inl hb)
            · exact hok.elim
          | own e k xs =>
            simp only [resOk1] at hok
            split at hok
            · rename_i id
              split at hok
              · rename_i e' k' xs' ho
                obtain ⟨rfl, rfl, rfl⟩ := hok
                have := hs.obs id _ ho
                cases hr
                cases this with
                | arr h => exact h.mono fun b hb => .inr (.inl hb)
              · exact hok.elim
            · subst hok
              cases hr with
              | c h => cases h; exact .nil
            · exact hok.elim
        · obtain ⟨q, hq, hr, hok⟩ := hval i _ v hri hv
          simp only [resOk1] at hok
          split at hok
          · rename_i id
            split at hok
            · rename_i e' k' xs' ho
              cases hr
              obtain ⟨h1, h2, h3⟩ := hs.own id _ b ho hb
              refine ⟨?_, h3, h2⟩
              rintro (h | h | ⟨j, id', d, hj, hrj, ⟨o', ho'⟩, hb'⟩)
              · exact hSown id _ b ho hb h
              · exact h1 h
              · have := hs.inj id id' _ _ b ho ho' hb hb'
                subst this
                have := ownIds_inj hnd hq hj
                subst this
                rw [hri] at hrj; cases hrj
            · exact hok.elim
          · cases hr with
            | c h => cases h; cases hb
          · exact hok.elim
        · obtain ⟨q, hq, hr, hok⟩ := hval i _ v hri hv
          obtain ⟨q', hq', hr', hok'⟩ := hval j _ u hrj hu
          simp only [resOk1] at hok hok'
          split at hok
          · rename_i id
            split at hok
            · rename_i ho
              split at hok'
              · rename_i id'
                split at hok'
                · rename_i ho'
                  cases hr; cases hr'
                  have := hs.inj id id' _ _ b ho ho' hbv hbu
                  subst this
                  exact ownIds_inj hnd hq hq'
                · exact hok'.elim
              · cases hr' with
                | c h => cases h; cases hbu
              · exact hok'.elim
            · exact hok.elim
          · cases hr with
            | c h => cases h; cases hbv
          · exact hok.elim
      · -- the objects
        refine ⟨fun id o ho => ?_, fun id o b ho hb => ?_, fun id id' o o' b ho ho' hb hb' => ?_⟩
        · simp only [hasKey_of ho, cond_true]
          have h1 := (hs.obs id o (hlo id o ho)).mono (T := fun b => S b ∨ S' b ∨ ∃ (i id : Nat) (d : CD), (ts.map τ.resv)[i]? = some (.own id) ∧ rs[i]? = some (.c d) ∧ (∃ o, obGet id τ.ob = some o) ∧ Value.blk (ψ id) = some b) fun b hb => .inr (.inl hb)
          generalize hz : ψ id = z at h1
          cases h1 with
          | arr h => exact .arr h
          | map hb hst h => exact .map hb hst h
          | iter hr hS hg hst hsc h hc => exact .iter hr hS hg hst hsc h hc
          | rows0 => exact .rows0
          | rows hg hn hc hs h1 hr hd hw => cases closedOb_plain hcl ho
          | box hb hs' h h1 =>
            refine .box hb hs' (fun j a v ha hv => (h j a v ha hv).agree fun i hi => ?_) h1
            have hc := closedOb_get hcl ho
            rw [List.all_eq_true] at hc
            have hc := hc a (List.mem_of_getElem? ha)
            have hk : hasKey i ob' = true := by
              cases a with
              | own k => simp [AV.noId] at hi; have := Nat.eq_of_beq_eq_true (by simpa using hi : Nat.beq i k = true); subst this; exact hc
              | ptr k off => simp [AV.noId] at hi; have := Nat.eq_of_beq_eq_true (by simpa using hi : Nat.beq i k = true); subst this; exact hc
              | c d => simp [AV.noId] at hi
              | dptr d => simp [AV.noId] at hi
              | any => simp [AV.noId] at hi
              | _ => simp [closedCell] at hc
            simp [hk]
        · simp only [hasKey_of ho, cond_true] at hb
          obtain ⟨h1, h2, h3⟩ := hs.own id o b (hlo id o ho) hb
          refine ⟨?_, h2, h3⟩
          rintro (h | h | ⟨j, id', d, hj, hrj, ⟨o', ho'⟩, hb'⟩)
          · exact hSown id _ b (hlo id o ho) hb h
          · exact h1 h
          · have := hs.inj id id' _ _ b (hlo id o ho) ho' hb hb'
            subst this
            have := apartIds_mem hap (ownIds_mem hj)
            rw [hasKey_of ho] at this; cases this
        · simp only [hasKey_of ho, cond_true] at hb
          simp only [hasKey_of ho', cond_true] at hb'
          exact hs.inj id id' o o' b (hlo id o ho) (hlo id' o' ho') hb hb'
      · intro i e k xs v b id o hri hv hb ho hb'
        simp only [hasKey_of ho, cond_true] at hb'
        obtain ⟨q, hq, hr, hok⟩ := hval i _ v hri hv
        simp only [resOk1] at hok
        split at hok
        · rename_i id'
          split at hok
          · rename_i ho2
            cases hr
            have := hs.inj id' id _ _ b ho2 (hlo id o ho) hb hb'
            subst this
            have := apartIds_mem hap (ownIds_mem hq)
            rw [hasKey_of ho] at this; cases this
          · exact hok.elim
        · cases hr with
          | c h => cases h; cases hb
        · exact hok.elim
      · intro id hk
        cases hb2 : hasKey id ob' with
        | false => simp [hb2]
        | true => simp only [hb2, cond_true]; exact hs.pins id (bigIds_mem hkp hk)
      · intro id hk
        simp [hk]
    cases e with
    | normal => exact main hq
    | ret => exact main hq
    | exit id => exact hq.elim
    | goto l => exact hq.elim
    | panic c => exact hq.elim
    | outgrown => exact hq.elim
  · refine ⟨fun t => ?_, by simp [hlen]; omega, hobs.obs, fun id o b h1 h2 => ⟨(hobs.own id o b h1 h2).1, (hobs.own id o b h1 h2).2.1, .inr ⟨id, o, h1, h2⟩⟩, hobs.inj, fun id o b h1 h2 => absurd h2 (innerB_plain (rowless_get hpl h1) _ _), fun b hb => ⟨hS b hb, .inl hb⟩, Ext.refl _ _, rfl, hn.2, fun _ _ => rfl⟩
    show AVR _ w S φ (St.get.go t (enumFrom 0 as)) _
    rw [enum_get]
    simp only [Nat.zero_le, if_true, Nat.sub_zero]
    rcases Nat.lt_or_ge t as.length with ht | ht
    · have hv : t < vs.length := by omega
      have e1 : (vs.toArray ++ Array.replicate (fn.ntmps - vs.toArray.size) undef).getD t undef = vs[t] := by
        rw [Array.getD_eq_getD_getElem?, Array.getElem?_append_left (by simpa using hv)]
        simp [hv]
      rw [e1]
      simp only [List.getD, List.getElem?_eq_getElem ht, Option.getD_some]
      exact hargs t _ _ (List.getElem?_eq_getElem ht) (List.getElem?_eq_getElem hv)
    · simp only [List.getD, List.getElem?_eq_none ht, Option.getD_none]
      exact .any

/-- the slice of an owned row's tail, exactly -/
theorem tail_run {t e k : Nat} {inf : TypeInfo} {n cap l : Nat} {A : Option Addr} {kk : IntKind} (ht : P.underlying t = some (.slice e)) (hi : P.info? e = some inf) (hsz : inf.size = k) (hl : l ≤ n) (hn : n ≤ cap) (w' : World) :
    (Instr.sliceAt t (.slice A n cap) (some (.int kk l)) none none).run P w' = .ok (.slice (if cap = l then A else A.map (·.add (l * k))) (n - l) (cap - l)) w' := by
  have h1 : (0 : Int) ≤ (l : Int) := by omega
  have h2 : (l : Int) ≤ (n : Int) := by omega
  have h3 : (n : Int) ≤ (cap : Int) := by omega
  have h4 : (l : Int) ≤ (cap : Int) := by omega
  simp [Instr.sliceAt, Instr.slice, run_underlying ht, Instr.sliceBounds, Instr.sliceBound, asIntOf, run_sizeOf hi, hsz, h1, h2, h3, h4]
  intro hbad; omega
theorem eval_put {a : Act} {d : Nat} {v : Value} (hd : d < a.tmps.size) (t : Nat) : (a.put (some d) v).eval (.tmp t) = if t = d then v else a.eval (.tmp t) := by
  show (a.tmps.setIfInBounds d v).getD t undef = _
  rw [getD_setIfInBounds _ _ _ _ hd]; rfl
/-- the region 'clear(s[i:])' -/
theorem CW_clr {r s i d1 d2 d3 t e k id l : Nat} {o1 o2 o3 o4 : Oper} {inf : TypeInfo} {z : Value} {zc : List CD} {xs : List (List CD)} {Q : Exit → St → Prop}
    (q1 : o1.dst = some d1 ∧ o1.op = .move (.tmp s) ∧ o1.guard = none) (q2 : o2.dst = some d2 ∧ o2.op = .move (.tmp i) ∧ o2.guard = none) (q3 : o3.dst = some d3 ∧ o3.op = .slice t (.tmp d1) (some (.tmp d2)) none none ∧ o3.guard = none)
    (q4 : o4.dst = none ∧ o4.op = .call { callee := .builtin .clear, args := #[.tmp d3], argTypes := #[t] } ∧ o4.guard = none)
    (ht : P.underlying t = some (.slice e)) (hi : P.info? e = some inf) (hz : inf.zero = some z) (hsz : inf.size = k) (hk0 : 0 < k) (hzc : constCDs z.cells.toList = some zc) (hzl : zc.length = k)
    (hs : σ.get s = .own id) (hi' : σ.get i = .I l) (ho : obGet id σ.ob = some (.arr e k xs)) (hl : l ≤ xs.length) (h1 : d1 < σ.n) (h2 : d2 < σ.n) (h3 : d3 < σ.n) (h12 : d2 ≠ d1) (hi1 : i ≠ d1)
    (h : Q .normal ((((σ.put d1 (.own id)).put d2 (.I l)).put d3 .any).upd id (.arr e k (xs.take l ++ List.replicate (xs.length - l) zc)))) :
    CW P (.region r #[o1, o2, o3, o4] false) Q σ := fun x S φ a w hx hsim => by
  refine wp_region_list ?_
  show wpList P _ (simQ x Q) [o1, o2, o3, o4] a w
  have hsz' := hsim.size
  obtain ⟨A, cap, hφ, hnc, _⟩ : ∃ A cap, φ id = .slice A xs.length cap ∧ xs.length ≤ cap ∧ cap ≤ maxLen := by
    have h3 := hsim.obs id _ ho
    generalize φ id = q at h3
    cases h3 with
    | arr h3 => exact arr_cases h3
  have harr : ArrR w S e k xs (.slice A xs.length cap) := by
    have h3 := hsim.obs id _ ho
    rw [hφ] at h3
    cases h3 with
    | arr h3 => exact h3
  have ev1 : a.eval (.tmp s) = φ id := by
    have := ev_sound hsim (o := .tmp s) (y := .t s) rfl
    simp only [St.ev, hs] at this
    generalize a.eval (.tmp s) = q at this
    cases this; rfl
  obtain ⟨kk, ev2, _⟩ : ∃ kk, a.eval (.tmp i) = .int kk l ∧ inK kk l := by
    have := ev_sound hsim (o := .tmp i) (y := .t i) rfl
    simp only [St.ev, hi'] at this
    exact int_of this rfl
  have r1 : (execOp a.eval o1).run P w = .ok (.value (φ id)) w := by simp [execOp, q1.2.1, ev1]
  refine wpl_val q1.2.2 r1 ?_
  rw [q1.1]
  have r2 : (execOp (a.put (some d1) (φ id)).eval o2).run P w = .ok (.value (.int kk l)) w := by simp [execOp, q2.2.1, eval_put (by omega : d1 < a.tmps.size), hi1, ev2]
  refine wpl_val q2.2.2 r2 ?_
  rw [q2.1]
  have hs1 : ((a.put (some d1) (φ id)).tmps.size) = a.tmps.size := by simp [Act.put]
  have e1 : ((a.put (some d1) (φ id)).put (some d2) (.int kk l)).eval (.tmp d1) = .slice A xs.length cap := by
    rw [eval_put (by omega), if_neg (fun e => h12 e.symm), eval_put (by omega), if_pos rfl, hφ]
  have e2 : ((a.put (some d1) (φ id)).put (some d2) (.int kk l)).eval (.tmp d2) = .int kk l := by
    rw [eval_put (by omega), if_pos rfl]
  have hs2 : ((a.put (some d1) (φ id)).put (some d2) (.int kk l)).tmps.size = a.tmps.size := by simp [Act.put]
  have hv1 : AVR x w S φ (.own id) (φ id) := .own (by rw [hφ]; rfl)
  have hv2 : AVR x w S φ (.I l) (.int kk l) := by
    have := ev_sound hsim (o := .tmp i) (y := .t i) rfl
    simp only [St.ev, hi', ev2] at this
    exact this
  have hsm := (hsim.put h1 hv1).put (σ := σ.put d1 (.own id)) h2 hv2
  generalize (a.put (some d1) (φ id)).put (some d2) (.int kk l) = a2 at *
  have r3 : (execOp a2.eval o3).run P w = .ok (.value (.slice (if cap = l then A else A.map (·.add (l * k))) (xs.length - l) (cap - l))) w := by
    have := tail_run (P := P) (A := A) (kk := kk) ht hi hsz hl hnc w
    simp [execOp, q3.2.1, e1, e2, this]
  refine wpl_val q3.2.2 r3 ?_
  rw [q3.1]
  obtain ⟨w', hrun, hext, harr'⟩ := clear_run (P := P) (ty := o4.type) ht hi hz hk0 hzc hzl harr hl (fun b hb => (hsim.own id _ b ho (by rw [hφ]; exact hb)).1)
  generalize hV : Value.slice (if cap = l then A else A.map (·.add (l * k))) (xs.length - l) (cap - l) = v' at *
  have hsm3 := hsm.put (d := d3) (r := .any) (v := v') h3 .any
  have e3 : (a2.put (some d3) v').eval (.tmp d3) = v' := by rw [eval_put (by omega), if_pos rfl]
  have r4 : (execOp (a2.put (some d3) v').eval o4).run P w = .ok (.value (.tuple #[])) w' := by
    simp [execOp, q4.2.1, resolve, invoke, builtin, e3, hrun, Result.andThen]
  refine wpl_val q4.2.2 r4 ?_
  rw [q4.1, put_none]
  refine ⟨_, S, φ, h, hsm3.upd id (.arr e k (xs.take l ++ List.replicate (xs.length - l) zc)) (.arr e k xs) w' ho (by rw [hφ]; exact hext) (by rw [hφ]; exact .arr harr')⟩
theorem CW_clr' {r s i d1 d2 d3 t e k id l : Nat} {o1 o2 o3 o4 : Oper} {zc : List CD} {xs : List (List CD)} {Q : Exit → St → Prop}
    (q1 : o1.dst = some d1 ∧ o1.op = .move (.tmp s) ∧ o1.guard = none) (q2 : o2.dst = some d2 ∧ o2.op = .move (.tmp i) ∧ o2.guard = none) (q3 : o3.dst = some d3 ∧ o3.op = .slice t (.tmp d1) (some (.tmp d2)) none none ∧ o3.guard = none)
    (q4 : o4.dst = none ∧ o4.op = .call { callee := .builtin .clear, args := #[.tmp d3], argTypes := #[t] } ∧ o4.guard = none)
    (ht : P.underlying t = some (.slice e)) (hk : cellsNum P e = some k) (hz : zeroOf P e = some zc) (hk0 : 0 < k) (hzl : zc.length = k)
    (hs : σ.get s = .own id) (hi' : σ.get i = .I l) (ho : obGet id σ.ob = some (.arr e k xs)) (hl : l ≤ xs.length) (h1 : d1 < σ.n) (h2 : d2 < σ.n) (h3 : d3 < σ.n) (h12 : d2 ≠ d1) (hi1 : i ≠ d1)
    (h : Q .normal ((((σ.put d1 (.own id)).put d2 (.I l)).put d3 .any).upd id (.arr e k (xs.take l ++ List.replicate (xs.length - l) zc)))) :
    CW P (.region r #[o1, o2, o3, o4] false) Q σ := by
  unfold cellsNum at hk
  simp only [Option.map_eq_some_iff] at hk
  obtain ⟨inf, hinf, hsz⟩ := hk
  unfold zeroOf at hz
  rw [hinf] at hz
  simp only [Option.bind_some] at hz
  split at hz
  · rename_i z hz'
    exact CW_clr q1 q2 q3 q4 ht hinf hz' hsz hk0 hz hzl hs hi' ho hl h1 h2 h3 h12 hi1 h
  · cases hz
end
end Go.AL

