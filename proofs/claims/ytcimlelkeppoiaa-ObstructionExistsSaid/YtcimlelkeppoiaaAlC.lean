/-
  Lemmas for the proof: no statement of its own.
-/
import Derived.Test.YtcimlelkeppoiaaAlB
import Derived.Maps.RangeRun
import Derived.Deep.Quiet
set_option linter.unusedVariables false
set_option linter.unusedSimpArgs false
namespace Go.AL
open Go Go.RowKit
section
variable {x : Ctx} {S : Nat → Prop} {φ : Nat → Value} {σ : St} {a : Act} {w : World} {P : Program}
theorem put_none (a : Act) (v : Value) : a.put none v = a := rfl
theorem mks_sound {t e k bytes : Nat} {z : List CD} {i : TypeInfo} {kl kc : IntKind} {n m : Int} (hu : P.underlying t = some (.slice e)) (hk : cellsNum P e = some k) (hz : zeroOf P e = some z) (hi : P.info? e = some i) (hb : i.bytes = bytes)
    (hk0 : 0 < k) (hzl : z.length = k) (h0 : 0 ≤ n) (hnm : n ≤ m) (hby : m * bytes ≤ 140737488355328) (hm : m ≤ maxLen) (d : Nat) :
    ∃ v ob, (Instr.makeSlice t (.int kl n) (.int kc m)).run P w = .ok v (w.alloc ob) ∧ Value.blk v = some w.heap.size ∧ v.oneCell' = true ∧ ObR x (w.alloc ob) S (setφ φ d v) (.arr e k (List.replicate n.toNat z)) v := by
  unfold zeroOf at hz
  rw [hi] at hz
  simp only [Option.bind_some] at hz
  split at hz
  · rename_i zv hzv
    have hk' := hk
    unfold cellsNum at hk'
    rw [hi] at hk'
    simp only [Option.map_some, Option.some.injEq] at hk'
    obtain ⟨c1, c2⟩ := constCDs_sound hz (w.alloc (.cells (madeCells zv.cells (m.toNat * i.size)) e)) S
    have hr := run_make (P := P) w t e i zv hu hi hzv kl kc n m h0 hnm (by rw [hb, Int.mul_comm]; omega) (by unfold maxLen at hm; omega)
    refine ⟨_, _, hr, rfl, rfl, .arr ?_⟩
    have hzs : zv.cells.size = k := by simpa [hzl] using c1
    have hget : ∀ q, q < m.toNat * k → (madeCells zv.cells (m.toNat * i.size))[q]? = zv.cells[q % k]? := by
      intro q hq
      have : q % k < zv.cells.size := by rw [hzs]; exact Nat.mod_lt _ hk0
      simp only [madeCells, hk']
      rw [Array.getElem?_map]
      simp only [Array.getElem?_range, hq, if_true, Option.map_some, hzs]
      rw [getElem!_pos zv.cells (q % k) this, Array.getElem?_eq_getElem this]
    suffices hR : ArrR (w.alloc (.cells (madeCells zv.cells (m.toNat * i.size)) e)) S e k (List.replicate n.toNat z) (.slice (some ⟨w.heap.size, 0, none⟩) (List.replicate n.toNat z).length m.toNat) by
      rwa [List.length_replicate] at hR
    refine .row (alloc_heap w _) (by simp; omega) (by unfold maxLen at *; omega) (by simp [size_madeCells, hk']) (fun y hy => by rw [List.eq_of_mem_replicate hy]; exact hzl) (fun u hu => ?_) fun i' j y dd hy hd => ?_
    · obtain ⟨q, hq⟩ := List.getElem?_of_mem hu
      have hql : q < m.toNat * k := by
        have := (List.getElem?_eq_some_iff.1 hq).1
        simpa [size_madeCells, hk'] using this
      have h1 := hget q hql
      rw [Array.getElem?_toList, h1] at hq
      have : q % k < z.length := by rw [hzl]; exact Nat.mod_lt _ hk0
      exact (c2 (q % k) _ u (List.getElem?_eq_getElem this) (by simpa using hq)).oneCell
    · have hi' : i' < n.toNat := by have := (List.getElem?_eq_some_iff.1 hy).1; simpa using this
      have hyz : y = z := List.eq_of_mem_replicate (List.mem_of_getElem? hy)
      subst hyz
      have hj : j < k := by rw [← hzl]; exact (List.getElem?_eq_some_iff.1 hd).1
      have hjl : j < zv.cells.toList.length := by simp [hzs, hj]
      have hlt : i' * k + j < m.toNat * k := idx_lt (by omega) hj
      refine ⟨zv.cells.toList[j], ?_, c2 j dd _ hd (List.getElem?_eq_getElem hjl)⟩
      rw [Nat.zero_add, hget _ hlt, show (i' * k + j) % k = j by rw [Nat.mul_comm, Nat.mul_add_mod, Nat.mod_eq_of_lt hj]]
      simp at hjl
      simp [hjl]
  · cases hz
theorem slice_own {t e k cap n : Nat} {A : Option Addr} (ht : P.underlying t = some (.slice e)) (hk : cellsNum P e = some k) (hn : n ≤ cap) {l u : Int} (h0 : 0 ≤ l) (hlu : l ≤ u) (hu : u ≤ n)
    {lo hi : Option Value} (hlo : lo = none ∧ l = 0 ∨ ∃ kk, lo = some (.int kk l)) (hhi : hi = none ∧ u = n ∨ ∃ kk, hi = some (.int kk u)) (w' : World) :
    (Instr.sliceAt t (.slice A n cap) lo hi none).run P w' = .ok (.slice (if cap = l.toNat then A else A.map (·.add (l.toNat * k))) (u.toNat - l.toNat) (cap - l.toNat)) w' := by
  unfold cellsNum at hk
  simp only [Option.map_eq_some_iff] at hk
  obtain ⟨inf, hinf, hsz⟩ := hk
  have hu' : u ≤ (cap : Int) := by omega
  have h0u : 0 ≤ u := by omega
  have hll : l ≤ (n : Int) := by omega
  rcases hlo with ⟨rfl, rfl⟩ | ⟨k1, rfl⟩ <;> rcases hhi with ⟨rfl, rfl⟩ | ⟨k2, rfl⟩ <;>
    simp [Instr.sliceAt, Instr.slice, run_underlying ht, Instr.sliceBounds, Instr.sliceBound, asIntOf, run_sizeOf hinf, hsz, h0, hu', h0u, hll]
  intro hbad; omega
theorem reslice_sound {t e e' k : Nat} {xs : List (List CD)} {v : Value} (ht : P.underlying t = some (.slice e)) (hk : cellsNum P e = some k) (h : ArrR w S e' k xs v) {l u : Int} (h0 : 0 ≤ l) (hlu : l ≤ u) (hu : u ≤ xs.length)
    {lo hi : Option Value} (hlo : lo = none ∧ l = 0 ∨ ∃ kk, lo = some (.int kk l)) (hhi : hi = none ∧ u = xs.length ∨ ∃ kk, hi = some (.int kk u)) :
    ∃ v', (∀ w', (Instr.sliceAt t v lo hi none).run P w' = .ok v' w') ∧ ArrR w S e' k ((xs.take u.toNat).drop l.toNat) v' ∧ Value.blk v' = Value.blk v ∧ v'.oneCell' = true := by
  unfold cellsNum at hk
  simp only [Option.map_eq_some_iff] at hk
  obtain ⟨inf, hinf, hsz⟩ := hk
  have hlen : ((xs.take u.toNat).drop l.toNat).length = u.toNat - l.toNat := by simp; omega
  obtain ⟨A, cap, rfl, hn, hcm⟩ := arr_cases h
  have hrun : ∀ w', (Instr.sliceAt t (.slice A xs.length cap) lo hi none).run P w' = .ok (.slice (if cap = l.toNat then A else A.map (·.add (l.toNat * k))) (u.toNat - l.toNat) (cap - l.toNat)) w' := by
    intro w'
    have hu' : u ≤ (cap : Int) := by omega
    have h0u : 0 ≤ u := by omega
    have hll : l ≤ (xs.length : Int) := by omega
    rcases hlo with ⟨rfl, rfl⟩ | ⟨k1, rfl⟩ <;> rcases hhi with ⟨rfl, rfl⟩ | ⟨k2, rfl⟩ <;>
      simp [Instr.sliceAt, Instr.slice, run_underlying ht, Instr.sliceBounds, Instr.sliceBound, asIntOf, run_sizeOf hinf, hsz, h0, hu', h0u, hll]
    intro hbad; omega
  refine ⟨_, hrun, ?_, ?_, rfl⟩
  · cases h with
    | nil =>
      simp at hu
      have hl0 : l = 0 := by omega
      have hu0 : u = 0 := by omega
      subst hl0; subst hu0
      simpa using ArrR.nil
    | @row _ g o _ cur hg _ _ hs hxk h1 hrd =>
      rw [← hlen]
      have hcapk : l.toNat * k + (cap - l.toNat) * k = cap * k := by rw [← Nat.add_mul]; congr 1; omega
      have hlk : ∀ y ∈ (xs.take u.toNat).drop l.toNat, y.length = k := fun y hy => hxk y (List.mem_of_mem_take (List.mem_of_mem_drop hy))
      by_cases hc : cap = l.toNat
      · rw [if_pos hc]
        have hnil : (xs.take u.toNat).drop l.toNat = [] := List.eq_nil_of_length_eq_zero (by omega)
        rw [hnil]
        exact .row (xs := []) hg (Nat.zero_le _) (by omega) (by rw [hc, Nat.sub_self, Nat.zero_mul]; omega) (by simp) h1 (by simp)
      · rw [if_neg hc]
        simp only [Option.map_some, addr_add]
        refine .row hg (by omega) (by omega) (by omega) hlk h1 fun i j y d hy hd => ?_
        rw [List.getElem?_drop, List.getElem?_take] at hy
        split at hy
        · obtain ⟨z, hz, hr⟩ := hrd _ j y d hy hd
          refine ⟨z, ?_, hr⟩
          rw [← hz]
          congr 1
          rw [Nat.add_mul]; omega
        · cases hy
  · cases A with
    | none => split <;> rfl
    | some ad => split <;> simp [Value.blk, block_add]
theorem run_callFunc {f : Nat} (h : callB P f = true) (args : Array Value) (w : World) : (callFunc f args).run P w = .ok (.enter f args) w := by
  unfold callB at h
  split at h
  · rename_i fn hfn
    simp only [Bool.and_eq_true, Bool.not_eq_true'] at h
    have hb : fn.body.isNone = false := by
      cases hq : fn.body with
      | none => rw [hq] at h; simp at h
      | some c => rfl
    simp only [callFunc, Sem.run_bind, run_program, Result.andThen_ok, hfn, h.2, hb, Bool.false_eq_true, if_false, Sem.run_pure]
  · cases h
theorem get_frzTm (id : Nat) (d : CD) (t : Nat) : ∀ l : List (Nat × AV), St.get.go t (frzTm id d l) = .any ∨ St.get.go t (frzTm id d l) = (St.get.go t l).frz id d
  | [] => .inl rfl
  | (s, a) :: r => by
    simp only [frzTm, St.get.go]
    cases hb : Nat.beq t s with
    | true => exact .inr rfl
    | false => exact get_frzTm id d t r
theorem frzCs_len (id : Nat) (d : CD) : ∀ l : List AV, (frzCs id d l).length = l.length
  | [] => rfl
  | _ :: r => by simp [frzCs, frzCs_len id d r]
theorem frzCs_get (id : Nat) (d : CD) : ∀ (l : List AV) (j : Nat) (a : AV), (frzCs id d l)[j]? = some a → ∃ b, l[j]? = some b ∧ a = b.frz id d
  | [], j, a, h => by simp [frzCs] at h
  | b :: r, 0, a, h => by simp [frzCs] at h; exact ⟨b, rfl, h.symm⟩
  | b :: r, j + 1, a, h => by
    simp only [frzCs, List.getElem?_cons_succ] at h
    simpa using frzCs_get id d r j a h
theorem obGet_frz (id : Nat) (d : CD) : ∀ (l : List (Nat × AO)) (i : Nat) (o : AO), obGet i (frzOb id d l) = some o → i ≠ id ∧ ∃ p, obGet i l = some p ∧ o = p.frz id d
  | [], i, o, h => by simp [frzOb, obGet] at h
  | (j, p) :: r, i, o, h => by
    simp only [frzOb] at h
    cases hj : Nat.beq j id with
    | true =>
      rw [hj] at h
      have := Nat.eq_of_beq_eq_true hj; subst this
      obtain ⟨h0, q, h1, h2⟩ := obGet_frz _ d r i o h
      exact ⟨h0, q, by simp only [obGet, beq_false h0]; exact h1, h2⟩
    | false =>
      rw [hj] at h
      simp only [cond_false, obGet] at h ⊢
      cases hij : Nat.beq i j with
      | true =>
        rw [hij] at h; simp at h
        have := Nat.eq_of_beq_eq_true hij; subst this
        exact ⟨fun e => (by subst e; rw [Nat.beq_refl] at hj; cases hj), p, rfl, h.symm⟩
      | false => rw [hij] at h; exact obGet_frz id d r i o h
theorem frz_rel0 {S T : Nat → Prop} {id : Nat} {d : CD} (hST : ∀ b, S b → T b) (hd : Rd w T d (φ id)) {r : AV} {v : Value} (h : AVR x w S φ r v) : AVR x w T φ (r.frz0 id d) v := by
  have gen : AVR x w T φ (bif r.noId id then r else .any) v := by
    cases r.noId id with
    | true => exact h.mono hST
    | false => exact .any
  cases r with
  | own i =>
    simp only [AV.frz0]
    cases hb : Nat.beq id i with
    | true =>
      have := Nat.eq_of_beq_eq_true hb; subst this
      cases h with
      | own _ => exact .c hd
    | false => exact h.mono hST
  | ptr i off =>
    simp only [AV.frz0]
    cases hb : Nat.beq id i with
    | false => exact h.mono hST
    | true =>
      have := Nat.eq_of_beq_eq_true hb; subst this
      cases ho : Nat.beq off 0 with
      | false => exact .any
      | true =>
        have := Nat.eq_of_beq_eq_true ho; subst this
        cases h with
        | ptr h => rw [h] at hd; exact .c hd
  | _ => exact gen
theorem frzCs0_len (id : Nat) (d : CD) : ∀ l : List AV, (frzCs0 id d l).length = l.length
  | [] => rfl
  | _ :: r => by simp [frzCs0, frzCs0_len id d r]
theorem frzCs0_get (id : Nat) (d : CD) : ∀ (l : List AV) (j : Nat) (a : AV), (frzCs0 id d l)[j]? = some a → ∃ b, l[j]? = some b ∧ a = b.frz0 id d
  | [], j, a, h => by simp [frzCs0] at h
  | b :: r, 0, a, h => by simp [frzCs0] at h; exact ⟨b, rfl, h.symm⟩
  | b :: r, j + 1, a, h => by
    simp only [frzCs0, List.getElem?_cons_succ] at h
    simpa using frzCs0_get id d r j a h
theorem frz_rel {S T : Nat → Prop} {id : Nat} {d : CD} (hST : ∀ b, S b → T b) (hd : Rd w T d (φ id)) {r : AV} {v : Value} (h : AVR x w S φ r v) : AVR x w T φ (r.frz id d) v := by
  cases r with
  | agg cs =>
    cases h with
    | agg hl h1 h2 =>
      refine .agg (by rw [frzCs0_len]; exact hl) (fun j a u ha hu => ?_) h2
      obtain ⟨b, hb, rfl⟩ := frzCs0_get id d cs j a ha
      exact frz_rel0 hST hd (h1 j b u hb hu)
  | ptr i off => exact frz_rel0 hST hd h
  | _ => exact frz_rel0 hST hd h
theorem innerB_frz {w : World} {o : AO} {id : Nat} {d : CD} {v : Value} {b : Nat} : innerB w (o.frz id d) v b = innerB w o v b := by cases o <;> rfl
theorem freeze_core (hs : Sim x S φ σ a w) (id : Nat) {o : AO} (ho : obGet id σ.ob = some o) {cd : CD} (hd : Rd w (fun b => S b ∨ Value.blk (φ id) = some b ∨ innerB w o (φ id) b) cd (φ id)) :
    ∃ T, (∀ b, S b → T b) ∧ Sim x T φ { σ with tm := frzTm id cd σ.tm, ob := frzOb id cd σ.ob } a w ∧ ∀ {r : AV} {v : Value}, AVR x w S φ r v → AVR x w T φ (r.frz id cd) v := by
  have hST : ∀ b, S b → (S b ∨ Value.blk (φ id) = some b ∨ innerB w o (φ id) b) := fun b h => .inl h
  have hbl : ∀ i p b, i ≠ id → obGet i σ.ob = some p → Value.blk (φ i) = some b → ¬ (Value.blk (φ id) = some b ∨ innerB w o (φ id) b) := fun i p b hi hp hb hb' => by
    rcases hb' with hb' | hb'
    · exact hi (hs.inj i id p _ b hp ho hb hb')
    · exact ((hs.inr id o b ho hb').2 i p hp).1 hb
  refine ⟨fun b => S b ∨ Value.blk (φ id) = some b ∨ innerB w o (φ id) b, hST, ?_, fun h => frz_rel hST hd h⟩
  refine ⟨fun t => ?_, hs.size, fun i p hp => ?_, fun i p b hp hb => ?_, fun i i' p p' b hp hp' hb hb' => ?_, fun i p b hp hb => ?_, fun b hb => ?_, hs.ext, hs.defers, hs.small, hs.pins⟩
  · show AVR x w _ φ (St.get.go t (frzTm id cd σ.tm)) _
    rcases get_frzTm id cd t σ.tm with h | h
    · rw [h]; exact .any
    · rw [h]; exact frz_rel hST hd (hs.tms t)
  · obtain ⟨hi, q, hq, rfl⟩ := obGet_frz _ _ _ _ _ hp
    have h1 := hs.obs i q hq
    generalize φ i = z at h1
    cases h1 with
    | arr h => exact .arr (h.mono hST)
    | box hg hz h h1 =>
      refine .box hg (by simp [frzCs_len, hz]) (fun j u z hu hz' => ?_) h1
      obtain ⟨u0, hu0, rfl⟩ := frzCs_get _ _ _ _ _ hu
      exact frz_rel hST hd (h j u0 z hu0 hz')
    | map hg hst h => exact .map hg hst (h.mono hST)
    | iter hr hS hg hst hsc h hc =>
      refine .iter hr (hST _ hS) hg hst hsc (h.mono hST) fun n d e => ?_
      obtain ⟨sn, e', h1, h2, h3⟩ := hc n d e
      exact ⟨sn, e', h1, h2, h3.mono hST⟩
    | rows0 => exact .rows0
    | rows hg hn hc hz h1 hr hd hw =>
      refine .rows hg hn hc hz h1 (fun i xs hx hne => ?_) hd hw
      obtain ⟨v, hv, hrow⟩ := hr i xs hx hne
      exact ⟨v, hv, hrow.mono hST⟩
    | rows2 hg hn hc hz h1 hr hd hw hw' =>
      refine .rows2 hg hn hc hz h1 (fun i xs hx hne => ?_) hd hw hw'
      obtain ⟨v, hv, hrow⟩ := hr i xs hx hne
      exact ⟨v, hv, hrow.mono hST⟩
  · obtain ⟨hi, q, hq, rfl⟩ := obGet_frz _ _ _ _ _ hp
    obtain ⟨h1, h2, h3⟩ := hs.own i q b hq hb
    exact ⟨fun h => h.elim h1 (hbl i q b hi hq hb), h2, h3⟩
  · obtain ⟨hi, q, hq, rfl⟩ := obGet_frz _ _ _ _ _ hp
    obtain ⟨hi', q', hq', rfl⟩ := obGet_frz _ _ _ _ _ hp'
    exact hs.inj i i' q q' b hq hq' hb hb'
  · obtain ⟨hi, q, hq, rfl⟩ := obGet_frz _ _ _ _ _ hp
    rw [innerB_frz] at hb
    obtain ⟨⟨h1, h2, h3⟩, h4⟩ := hs.inr i q b hq hb
    refine ⟨⟨fun h => ?_, h2, h3⟩, fun i' p' hp' => ?_⟩
    · rcases h with h | h | h
      · exact h1 h
      · exact (h4 id o ho).1 h
      · exact hi ((h4 id o ho).2 h).symm
    · obtain ⟨_, q', hq', rfl⟩ := obGet_frz _ _ _ _ _ hp'
      rw [innerB_frz]
      exact h4 i' q' hq'
  · rcases hb with hb | hb | hb
    · exact hs.dat b hb
    · obtain ⟨_, h2, h3⟩ := hs.own id _ b ho hb
      exact ⟨h2, .inr h3⟩
    · obtain ⟨⟨_, h2, h3⟩, _⟩ := hs.inr id _ b ho hb
      exact ⟨h2, .inr h3⟩
theorem Sim.freeze (hs : Sim x S φ σ a w) (id : Nat) : ∃ T, (∀ b, S b → T b) ∧ Sim x T φ (σ.freeze id) a w ∧ ∀ {r : AV} {v : Value}, AVR x w S φ r v → AVR x w T φ (r.frzW id (obGet id σ.ob)) v := by
  unfold St.freeze
  cases ho : obGet id σ.ob with
  | none => exact ⟨S, fun _ h => h, hs, fun h => h⟩
  | some o =>
    cases o with
    | box t cs =>
      cases hds : toCDs cs with
      | none =>
        refine ⟨S, fun _ h => h, ?_, fun h => ?_⟩
        · show Sim x S φ (σ.frzO id (toCDs cs)) a w
          rw [hds]; exact hs
        · show AVR x w S φ (AV.frzO _ id (toCDs cs)) _
          rw [hds]; exact h
      | some ds =>
        obtain ⟨T, g1, g2, g3⟩ := freeze_core hs id ho (cd := .dp ds) (by
          have h3 := hs.obs id _ ho
          generalize φ id = q at h3
          cases h3 with
          | @box _ b _ cur hb hz h h1 =>
            obtain ⟨k1, k2⟩ := toCDs_get hds
            refine .dp (fun j => cur.getD j default) (.inr (.inl rfl)) (fun j hj => ?_) fun j d hd => ?_
            · have hlt : j < cur.size := by omega
              rw [addr_add, cell_of_row w b _ cur t (0, 0) hb]
              simp [Array.getD, hlt]
            · have hj := (List.getElem?_eq_some_iff.1 hd).1
              have hlt : j < cur.size := by omega
              have := h j _ _ (k2 j d hd) (Array.getElem?_eq_getElem hlt)
              have he : cur.getD j default = cur[j] := by simp [Array.getD, hlt]
              rw [he]
              cases this with
              | c hr => exact hr.mono fun b h => .inl h)
        refine ⟨T, g1, ?_, fun h => ?_⟩
        · show Sim x T φ (σ.frzO id (toCDs cs)) a w
          rw [hds]; exact g2
        · show AVR x w T φ (AV.frzO _ id (toCDs cs)) _
          rw [hds]; exact g3 h
    | iter => exact ⟨S, fun _ h => h, hs, fun h => h⟩
    | rows => exact ⟨S, fun _ h => h, hs, fun h => h⟩
    | rows2 => exact ⟨S, fun _ h => h, hs, fun h => h⟩
    | map kk es =>
      refine freeze_core hs id ho ?_
      have h3 := hs.obs id _ ho
      generalize φ id = q at h3
      cases h3 with
      | map hb hst hm => exact MapR.data hb (.inr (.inl rfl)) hst (hm.mono fun b h => .inl h)
    | arr e k xs =>
      refine freeze_core hs id ho ?_
      have h3 := hs.obs id _ ho
      cases h3 with
      | arr h3 => exact (h3.mono fun b h => .inl h).data fun b hb => .inr (.inl hb)
theorem Sim.frz1 (hs : Sim x S φ σ a w) (o : Option Nat) : ∃ T, Sim x T φ (σ.frz1 o) a w := by
  cases o with
  | none => exact ⟨S, hs⟩
  | some id => obtain ⟨T, _, h, _⟩ := hs.freeze id; exact ⟨T, h⟩
theorem Sim.frzIds : ∀ (l : List Nat) {S : Nat → Prop} {σ : St}, Sim x S φ σ a w → ∃ T, Sim x T φ (frzSt l σ) a w
  | [], S, _, hs => ⟨S, hs⟩
  | id :: l, _, _, hs => let ⟨_, _, h, _⟩ := hs.freeze id; Sim.frzIds l h
theorem Sim.frzL : ∀ (l : List AV) {S : Nat → Prop} {σ : St}, Sim x S φ σ a w → ∃ T, Sim x T φ (σ.frzL l) a w
  | [], S, _, hs => ⟨S, hs⟩
  | r :: l, _, _, hs => let ⟨_, h⟩ := hs.frzIds r.owns; Sim.frzL l h
theorem Sim.bsT (hs : Sim x S φ σ a w) (g : Option (Nat × Bool)) (parts : List AX) : ∃ T, Sim x T φ (bsT σ g parts) a w := by
  cases g with
  | none => exact hs.frzL _
  | some _ => exact ⟨S, hs⟩
theorem Sim.frzs : ∀ (ids : List Nat) {S : Nat → Prop} {σ : St} {as : List AV} {vs : List Value}, Sim x S φ σ a w → (∀ (j : Nat) (r : AV) (v : Value), as[j]? = some r → vs[j]? = some v → AVR x w S φ r v) →
    ∃ T, Sim x T φ (frzSt ids σ) a w ∧ (frzAL ids σ as).length = as.length ∧ ∀ (j : Nat) (r : AV) (v : Value), (frzAL ids σ as)[j]? = some r → vs[j]? = some v → AVR x w T φ r v
  | [], S, _, _, _, hs, h => ⟨S, hs, rfl, h⟩
  | id :: r, S, σ, as, vs, hs, h => by
    obtain ⟨T, hT, h1, h2⟩ := hs.freeze id
    obtain ⟨U, h3, h4, h5⟩ := Sim.frzs r (as := σ.frzAs id as) (vs := vs) h1 (fun j q v hq hv => by
      simp only [St.frzAs, List.getElem?_map, Option.map_eq_some_iff] at hq
      obtain ⟨q0, hq0, rfl⟩ := hq
      exact h2 (h j q0 v hq0 hv))
    exact ⟨U, h3, by simp only [frzAL]; rw [h4]; simp [St.frzAs], h5⟩
theorem get_strip (t : Nat) : ∀ l : List (Nat × AV), St.get.go t (stripTm l) = (St.get.go t l).strip
  | [] => rfl
  | (s, a) :: r => by
    simp only [stripTm, St.get.go]
    cases Nat.beq t s with
    | true => rfl
    | false => exact get_strip t r
theorem strip_rel {r : AV} {v : Value} (h : AVR x w S φ r v) : AVR x w S φ r.strip v := by
  unfold AV.strip
  split
  · cases h with
    | opt h _ => exact h rfl
  · exact h
theorem Sim.strip (hs : Sim x S φ σ a w) : Sim x S φ σ.strip a w :=
  ⟨fun t => by
    show AVR x w S φ (St.get.go t (stripTm σ.tm)) _
    rw [get_strip]; exact strip_rel (hs.tms t), hs.size, hs.obs, hs.own, hs.inj, hs.inr, hs.dat, hs.ext, hs.defers, hs.small, hs.pins⟩
theorem app_rows (hs : Sim x S φ σ a w) {t ty e ek k' bytes id cap2 : Nat} {xss : List (List (List CD))} {who : Option Nat} {v : Value} {i : TypeInfo} {z : Value} {A : Option Addr} (ht : P.underlying t = some (.slice e)) (hi : P.info? e = some i) (hz : i.zero = some z) (hk : i.size = 1) (hby : i.bytes = bytes)
    (hzs : z.cells.size = 1) (hz1 : ∀ v ∈ z.cells.toList, v.oneCell' = true) (ho : obGet id σ.ob = some (.rows e ek k' xss none who)) (hid : id < 1000000) (hv : v = .slice A 1 cap2) (hc : CellsAt w S 1 [[.nil]] A)
    (hb : (xss.length + 1) * bytes ≤ 140737488355328) (hm : xss.length + 1 ≤ maxLen) :
    ∃ p' w', (Builtin.append_ #[t, t] ty #[φ id, v]).run P w = .ok p' w' ∧ p'.oneCell' = true ∧ Sim x S (setφ φ id p') (σ.new id (.rows e ek k' (xss ++ [[]]) none none)) a w' := by
  obtain ⟨hc, -⟩ := hc
  rcases hc with hc | ⟨ad, vs, rfl, hvl, hcell, hv1, hvr⟩
  · cases hc
  obtain ⟨v0, hv0, hr0⟩ := hvr 0 0 [.nil] .nil rfl rfl
  have hcell0 : w.cell? ad = some v0 := by simpa [Addr.add] using hcell 0 v0 (by simpa using hv0)
  cases hr0
  have hob := hs.obs id _ ho
  obtain ⟨old, hp, hrow, hdis, hinn⟩ : ∃ old : Nat → Option Value,
      ((φ id = .slice none 0 0 ∧ xss.length = 0) ∨ ∃ (g o cap : Nat) (cur : Array Value), φ id = .slice (some ⟨g, o, none⟩) xss.length cap ∧ w.heap[g]? = some (.cells cur e (0, 0)) ∧ xss.length ≤ cap ∧ cap ≤ maxLen ∧ o + cap ≤ cur.size ∧ (∀ v ∈ cur.toList, v.oneCell' = true) ∧ ∀ j, j < xss.length → cur[o + j]? = old j) ∧
      (∀ (j : Nat) (xs : List (List CD)), xss[j]? = some xs → ∃ u, old j = some u ∧ ArrR w S ek k' xs u) ∧
      (∀ (i j : Nat) (u v : Value) (b : Nat), i < xss.length → j < xss.length → old i = some u → old j = some v → Value.blk u = some b → Value.blk v = some b → i = j) ∧
      (∀ (j : Nat) (u : Value) (b : Nat), j < xss.length → old j = some u → Value.blk u = some b → innerB w (.rows e ek k' xss none who) (φ id) b) := by
    generalize φ id = q at hob
    cases hob with
    | rows0 => exact ⟨fun _ => none, .inl ⟨rfl, rfl⟩, fun j xs h => by simp at h, fun i j u v b h => by simp at h, fun j u b h => by simp at h⟩
    | @rows _ _ _ _ _ _ g o cap cur hg hn hc hz h1 hr hd hw =>
      exact ⟨fun j => cur[o + j]?, .inr ⟨g, o, cap, cur, rfl, hg, hn, hc, hz, h1, fun _ _ => rfl⟩, fun j xs h => hr j xs h (by simp), fun i j u v b h1 h2 => hd i j u v b h1 h2 (by simp) (by simp), fun j u b h1 h2 h3 => ⟨cur, j, u, hg, h1, by simp, h2, h3⟩⟩
  obtain ⟨g', o', cap', cur', w', hrun, hg', hn', hcm', hsz', h1', hold', hnew, hext, hfr⟩ := run_app_cells (P := P) (ty := ty) ht hi hz hk hby hzs hz1 hp hv hcell0 rfl hb hm
  have heS : Ext S w w' := hext.mono fun b hSb hbk => (hs.own id _ b ho hbk).1 hSb
  have hkeep : ∀ b, innerB w (.rows e ek k' xss none who) (φ id) b → w'.heap[b]? = w.heap[b]? := fun b hb => hext.block b ((hs.inr id _ b ho hb).2 id _ ho).1 (hs.inr id _ b ho hb).1.2.1
  have hcellj : ∀ j u, j < (xss ++ [[]]).length → cur'[o' + j]? = some u → (j < xss.length ∧ old j = some u) ∨ (j = xss.length ∧ u = .slice none 0 0) := fun j u hj hu => by
    simp only [List.length_append, List.length_singleton] at hj
    rcases Nat.lt_or_ge j xss.length with h | h
    · rw [hold' j h] at hu; exact .inl ⟨h, hu⟩
    · obtain rfl : j = xss.length := by omega
      rw [hnew] at hu; cases hu; exact .inr ⟨rfl, rfl⟩
  refine ⟨_, w', hrun, rfl, hs.renewR id hid _ _ w' (hext.mono fun b hb hpb => hb ⟨_, ho⟩ hpb) ?_ (fun b hb => ?_) fun b hb => ?_⟩
  · have hl : xss.length + 1 = (xss ++ [[]]).length := by simp
    rw [hl]
    refine .rows hg' (by simpa using hn') hcm' hsz' h1' (fun j xs hx _ => ?_) (fun i j u v b hi hj _ _ h3 h4 h5 h6 => ?_) fun _ _ h => by cases h
    · rcases Nat.lt_or_ge j xss.length with h | h
      · rw [List.getElem?_append_left h] at hx
        obtain ⟨u, hu, hr⟩ := hrow j xs hx
        exact ⟨u, by rw [hold' j h]; exact hu, hr.ext heS fun b hbk => hkeep b (hinn j u b h hu hbk)⟩
      · have hj := (List.getElem?_eq_some_iff.1 hx).1
        simp only [List.length_append, List.length_singleton] at hj
        obtain rfl : j = xss.length := by omega
        rw [List.getElem?_append_right (Nat.le_refl _)] at hx
        simp at hx; subst hx
        exact ⟨_, hnew, .nil⟩
    · rcases hcellj i u hi h3 with ⟨g1, g2⟩ | ⟨_, rfl⟩
      · rcases hcellj j v hj h4 with ⟨g3, g4⟩ | ⟨_, rfl⟩
        · exact hdis i j u v b g1 g3 g2 g4 h5 h6
        · cases h6
      · cases h5
  · simp only [Value.blk, Option.some.injEq] at hb
    subst hb
    rcases hfr with h | ⟨h1, h2⟩
    · obtain ⟨k1, k2, k3⟩ := hs.own id _ _ ho h
      exact ⟨k1, Nat.lt_of_lt_of_le k2 hext.size, k3, fun i p hi hp => hs.apart ho h hi hp⟩
    · exact ⟨fun hSb => by have := (hs.dat _ hSb).1; omega, h2, .inl (Nat.le_trans hs.ext.size h1), fun i p _ hp => hs.free (Ext.refl _ _) h1 hp⟩
  · obtain ⟨cur'', j, u, q1, q2, q3, q4, q5⟩ := hb
    rw [hg'] at q1; cases q1
    rcases hcellj j u q2 q4 with ⟨g1, g2⟩ | ⟨_, rfl⟩
    · have hin := hinn j u b g1 g2 q5
      obtain ⟨⟨k1, k2, k3⟩, k4⟩ := hs.inr id _ b ho hin
      refine ⟨fun h => ?_, k1, Nat.lt_of_lt_of_le k2 hext.size, k3, fun i p hi hp => ⟨(k4 i p hp).1, fun h => hi ((k4 i p hp).2 h)⟩⟩
      simp only [Value.blk, Option.some.injEq] at h
      subst h
      rcases hfr with h | ⟨h1, h2⟩
      · exact (k4 id _ ho).1 h
      · omega
    · cases q5
end
end Go.AL

namespace Go.AL
open Go Go.RowKit
section
variable {x : Ctx} {S : Nat → Prop} {φ : Nat → Value} {σ : St} {a : Act} {w : World} {P : Program}
theorem call_step (hx : x.P = P) {all : Array Oper} {l : List Oper} {o : Oper} {rest : List AP} {Q : Exit → St → Prop} {f d : Nat} {vs : List Value} (hg : o.guard = none) (hd : o.dst = some d)
    (hl : compOps P all l = some rest) (hrun : callB P f = true → (execOp a.eval o).run P w = .ok (.enter f vs.toArray) w) {K : St → Prop} (IH : ∀ τ, K τ → AL P rest Q τ) {as as' : List AV} {fl : Bool} {σ : St} (h : CallAt P f K d as as' fl σ) :
    ∀ {S : Nat → Prop}, Sim x S φ σ a w → d < σ.n → as' = as.map σ.arg → vs.length = as.length → (∀ (j : Nat) (r : AV) (v : Value), as[j]? = some r → vs[j]? = some v → AVR x w S φ r v) →
    (as.any AV.lends = true → fl = true) → wpList P all (simQ x Q) (o :: l) a w := by
  induction h with
  | w ob rs ob' kp hrs hF hob hpin hplain hflat hk =>
    intro S hs hdn has hlen hargs hfl
    refine wpl_enter hg (hrun hF.1) ((call_soundW hs hx hrs hF hlen hargs hob hpin hplain hflat).mono ?_)
    rintro e w' ⟨v, rfl, h⟩
    refine ⟨v, rfl, ?_⟩
    obtain ⟨S', ψ, h1⟩ := h d hdn
    rw [hd]
    exact IH _ hk all l hl x S' ψ _ _ hx h1
  | r rs hrs hF hflat hk =>
    intro S hs hdn has hlen hargs hfl
    subst has
    refine wpl_enter hg (hrun hF.1) ((call_sound hs hx hrs hF hlen hargs (fun h => hflat (hfl h))).mono ?_)
    rintro e w' ⟨v, rfl, h⟩
    refine ⟨v, rfl, ?_⟩
    obtain ⟨S', ψ, h1⟩ := h d hdn
    rw [hd]
    exact IH _ hk all l hl x S' ψ _ _ hx h1
  | p ob q ob' kp hF hob hpin hplain hflat hk =>
    intro S hs hdn has hlen hargs hfl
    refine wpl_enter hg (hrun hF.1) ((call_soundP hs hx hF hlen hargs hob hpin hplain hflat).mono ?_)
    rintro e w' ⟨v, rfl, h⟩
    refine ⟨v, rfl, ?_⟩
    obtain ⟨S', ψ, h1⟩ := h d hdn
    rw [hd]
    exact IH _ hk all l hl x S' ψ _ _ hx h1
  | g ob rs ob' kp hF hob hpin hplain hflat hrs hk =>
    intro S hs hdn has hlen hargs hfl
    refine wpl_enter hg (hrun hF.1) ((call_soundG hs hx hF hlen hargs hob hpin hplain hflat hrs).mono ?_)
    rintro e w' ⟨v, rfl, h⟩
    refine ⟨v, rfl, ?_⟩
    obtain ⟨S', ψ, h1⟩ := h d hdn
    rw [hd]
    exact IH _ hk all l hl x S' ψ _ _ hx h1
  | @fv as0 as fl σ g t cs hV hf hk =>
    intro S hs hdn has hlen hargs hfl
    subst has
    have hnl : ∀ r ∈ as0, r.lends = true → False := fun r hr hle => by
      have := hfl (List.any_eq_true.2 ⟨r, hr, hle⟩)
      rw [hf] at this; cases this
    refine wpl_enter hg (hrun hV.1) ((hV.2 w S φ vs (fun b hb => (hs.dat b hb).1) (by simpa using hlen) fun j r v hr hv => ?_).mono ?_)
    · simp only [List.getElem?_map, Option.map_eq_some_iff] at hr
      obtain ⟨r0, hr0, rfl⟩ := hr
      exact arg_rel hs hx (hargs j r0 v hr0 hv) (fun _ h => h) (fun hle => (hnl r0 (List.mem_of_getElem? hr0) hle).elim) φ
    · rintro e w' ⟨us, rfl, rfl, hl', hr'⟩
      refine ⟨_, rfl, ?_⟩
      have hsim := new_data hs (.cells us.toArray t)
      rw [hd]
      refine IH _ hk all l hl x _ _ _ _ hx (hsim.put hdn ?_)
      refine AVR.fn (cs := [.dptr cs]) (vs := [.pointer (some ⟨w.heap.size, 0, none⟩)]) rfl fun j r v hr hv => ?_
      cases j with
      | succ j => simp at hr
      | zero =>
        simp at hr hv; subst hr; subst hv
        refine .dptr (fun j => us.getD j default) (.inr rfl) (fun j hj => ?_) (fun j d0 hd0 => ?_)
        · have hjl : j < us.length := by omega
          have hg := alloc_heap w (.cells us.toArray t)
          rw [show (⟨w.heap.size, 0, none⟩ : Addr).add j = ⟨w.heap.size, j, none⟩ by unfold Addr.add; by_cases h0 : j = 0 <;> simp [h0], cell_of_row _ _ _ _ _ _ hg]
          simp [List.getD, hjl]
        · have hjl : j < us.length := by have := (List.getElem?_eq_some_iff.1 hd0).1; omega
          have h := hr' j d0 us[j] hd0 (List.getElem?_eq_getElem hjl)
          have e : us.getD j default = us[j] := by simp [List.getD, hjl]
          rw [e]
          exact (h.ext (Ext.alloc _ w _)).mono fun b hb => .inl hb
  | @fb as0 as fl σ g t cs hV hf hone hk =>
    intro S hs hdn has hlen hargs hfl
    subst has
    have hnl : ∀ r ∈ as0, r.lends = true → False := fun r hr hle => by
      have := hfl (List.any_eq_true.2 ⟨r, hr, hle⟩)
      rw [hf] at this; cases this
    refine wpl_enter hg (hrun hV.1) ((hV.2 w S φ vs (fun b hb => (hs.dat b hb).1) (by simpa using hlen) fun j r v hr hv => ?_).mono ?_)
    · simp only [List.getElem?_map, Option.map_eq_some_iff] at hr
      obtain ⟨r0, hr0, rfl⟩ := hr
      exact arg_rel hs hx (hargs j r0 v hr0 hv) (fun _ h => h) (fun hle => (hnl r0 (List.mem_of_getElem? hr0) hle).elim) φ
    · rintro e w' ⟨us, rfl, rfl, hl', hr'⟩
      refine ⟨_, rfl, ?_⟩
      have hob := box_ob (x := x) (w := w) (S := S) (φ := φ) (t := t) (id := d) (cs := cs.map AV.c) (vs := us) (by simpa using hl') (fun j r v hr hv => by
        simp only [List.getElem?_map, Option.map_eq_some_iff] at hr
        obtain ⟨d0, hd0, rfl⟩ := hr
        exact .c (hr' j d0 v hd0 hv)) (fun v hv => by
        obtain ⟨j, hj⟩ := List.getElem?_of_mem hv
        have hjl : j < cs.length := by rw [← hl']; exact (List.getElem?_eq_some_iff.1 hj).1
        exact hone w S _ v (List.getElem_mem hjl) (hr' j _ v (List.getElem?_eq_getElem hjl) hj))
      rw [noId_c] at hob
      have hsim := new_sim hs d (hs.lt hdn) (.box t (cs.map AV.c)) (.cells us.toArray t) (.pointer (some ⟨w.heap.size, 0, none⟩)) rfl hob
      rw [hd]
      refine IH _ hk all l hl x _ _ _ _ hx (hsim.put hdn ?_)
      refine AVR.fn (cs := [.ptr d 0]) (vs := [.pointer (some ⟨w.heap.size, 0, none⟩)]) rfl fun j r v hr hv => ?_
      cases j with
      | succ j => simp at hr
      | zero =>
        simp at hr hv; subst hr; subst hv
        exact .ptr (setφ_same φ d _)
  | @frz as0 as fl σ ids h ih =>
    intro S hs hdn has hlen hargs hfl
    obtain ⟨T, g1, g2, g3⟩ := Sim.frzs ids hs hargs
    have hn : ∀ (ids : List Nat) (σ : St), (frzSt ids σ).n = σ.n := by
      intro ids
      induction ids with
      | nil => intro σ; rfl
      | cons i r ih =>
        intro σ
        simp only [frzSt]
        rw [ih]
        unfold St.freeze St.freezeW
        split
        · rfl
        · rfl
        · unfold St.frzO; split <;> rfl
        · rfl
    exact ih g1 (by rw [hn]; exact hdn) rfl (by rw [g2]; exact hlen) g3 (fun h => h)
theorem map_eval {args : List Operand} {ys : List AX} (hs : Sim x S φ σ a w) (h : compXs args = some ys) : (args.map a.eval).length = (ys.map σ.ev).length ∧
    ∀ (j : Nat) (r : AV) (v : Value), (ys.map σ.ev)[j]? = some r → (args.map a.eval)[j]? = some v → AVR x w S φ r v := by
  obtain ⟨h1, h2⟩ := compXs_sound h
  refine ⟨by simp [h1], fun j r v hr hv => ?_⟩
  simp only [List.getElem?_map, Option.map_eq_some_iff] at hr hv
  obtain ⟨y, hy, rfl⟩ := hr
  obtain ⟨o, ho, rfl⟩ := hv
  exact ev_sound hs (h2 j o y ho hy)
theorem toArgs_get : ∀ {rs : List AV} {xs : List (Sum CD (List CD))}, toArgs rs = some xs → rs.length = xs.length ∧ ∀ (j : Nat) (r : AV) (y : Sum CD (List CD)), rs[j]? = some r → xs[j]? = some y → r.toArg = some y
  | [], xs, h => by simp [toArgs] at h; subst h; simp
  | r :: rs, xs, h => by
    simp only [toArgs] at h
    split at h
    · rename_i y ys hy hys
      simp at h; subst h
      obtain ⟨h1, h2⟩ := toArgs_get hys
      refine ⟨by simp [h1], fun j r' y' hj hy' => ?_⟩
      cases j with
      | zero => simp at hj hy'; subst hj; subst hy'; exact hy
      | succ j => exact h2 j r' y' (by simpa using hj) (by simpa using hy')
    · cases h
theorem arg_of {r : AV} {v : Value} {y : Sum CD (List CD)} (h : AVR x w S φ r v) (hy : r.toArg = some y) : ArgR w S y v := by
  cases r <;> simp only [AV.toArg, reduceCtorEq] at hy
  case c d =>
    simp at hy; subst hy
    cases h with
    | c h => exact .one h
  case agg cs =>
    split at hy
    · rename_i ds hds
      simp at hy; subst hy
      obtain ⟨h1, h2⟩ := toCDs_get hds
      cases h with
      | @agg _ vs hl hr _ =>
        refine .agg (hl.trans h1) fun j d u hd hu => ?_
        have := hr j _ u (h2 j d hd) hu
        cases this with
        | c h => exact h
    · cases hy
theorem agg_form {cs : List AV} {v : Value} (h : AVR x w S φ (.agg cs) v) : ∃ vs : List Value, v = .agg vs.toArray ∧ vs.length = cs.length ∧ (∀ (j : Nat) (a : AV) (v : Value), cs[j]? = some a → vs[j]? = some v → AVR x w S φ a v) ∧ ∀ v ∈ vs, v.oneCell' = true := by
  cases h with
  | @agg _ vs hl hr h1 => exact ⟨vs, rfl, hl, hr, h1⟩
theorem set_take_drop {α : Type} (l : List α) (i : Nat) (v : α) (h : i < l.length) : l.set i v = l.take i ++ [v] ++ l.drop (i + 1) := by
  rw [List.set_eq_take_append_cons_drop, if_pos h]; simp
theorem stamps_push {ents : Array MapEntry} {clock : Nat} (h : stampsOk ents clock) (k u : Value) : stampsOk (ents.push { key := k, val := u, born := clock }) (clock + 1) := by
  obtain ⟨h1, h2⟩ := h
  constructor
  · rw [Array.toList_push, List.map_append, List.nodup_append]
    refine ⟨h1, by simp, fun a ha b hb => ?_⟩
    simp at hb; subst hb
    obtain ⟨e, he, rfl⟩ := List.mem_map.1 ha
    have := h2 e he
    omega
  · intro e he
    rw [Array.toList_push] at he
    rcases List.mem_append.1 he with he | he
    · have := h2 e he; omega
    · simp at he; subst he; simp
theorem map_modify {α β : Type} (f : α → β) (g : α → α) (hg : ∀ a, f (g a) = f a) : ∀ (l : List α) (j : Nat), (l.modify j g).map f = l.map f
  | [], j => by simp
  | a :: r, 0 => by simp [hg]
  | a :: r, j + 1 => by simp [map_modify f g hg r j]
theorem stamps_modify {ents : Array MapEntry} {clock : Nat} (h : stampsOk ents clock) (j : Nat) (k u : Value) : stampsOk (ents.modify j fun e => { e with key := k, val := u }) clock := by
  obtain ⟨h1, h2⟩ := h
  have e : ((ents.modify j fun e => { e with key := k, val := u }).toList.map (·.born)) = ents.toList.map (·.born) := by
    rw [modify_toList]; exact map_modify (fun x : MapEntry => x.born) (fun e => { e with key := k, val := u }) (fun _ => rfl) _ _
  refine ⟨by rw [e]; exact h1, fun x hx => ?_⟩
  have hm : x.born ∈ ents.toList.map (·.born) := by rw [← e]; exact List.mem_map.2 ⟨x, hx, rfl⟩
  obtain ⟨y, hy, hxy⟩ := List.mem_map.1 hm
  rw [← hxy]; exact h2 y hy
theorem stamps_erase {ents : Array MapEntry} {clock : Nat} (h : stampsOk ents clock) (j : Nat) : stampsOk (ents.eraseIdxIfInBounds j) clock := by
  obtain ⟨h1, h2⟩ := h
  have e : (ents.eraseIdxIfInBounds j).toList = ents.toList.eraseIdx j := by
    unfold Array.eraseIdxIfInBounds
    split
    · simp
    · rename_i hlt
      rw [List.eraseIdx_of_length_le]
      simpa using hlt
  have hs := List.eraseIdx_sublist ents.toList j
  refine ⟨by rw [e]; exact h1.sublist (hs.map _), fun x hx => h2 x (hs.subset (by rw [← e]; exact hx))⟩
theorem erase_toList (ents : Array MapEntry) (j : Nat) : (ents.eraseIdxIfInBounds j).toList = ents.toList.eraseIdx j := by
  unfold Array.eraseIdxIfInBounds
  split
  · simp
  · rename_i hlt
    rw [List.eraseIdx_of_length_le]
    simpa using hlt
theorem mset_run {t key e : TypeId} {kk : KK} {n : List Int} {b clock : Nat} {ents : Array MapEntry} {es : List (List Int × Sum CD (List CD))} {d : Sum CD (List CD)} {u : Value} (ht : P.underlying t = some (.map key e)) (hq : keyKind P key = some kk) (hn : keyOk kk n)
    (hb : w.heap[b]? = some (.map ents clock)) (hst : stampsOk ents clock) (hm : MapR w S kk es ents.toList) (hu : ArgR w S d u) (hnS : ¬ S b) :
    ∃ w', (Instr.mapUpdate t (.map (some b)) (keyV kk n) u).run P w = .ok () w' ∧ Ext (fun c => some b ≠ some c) w w' ∧ ObR x w' S φ (.map kk (mset es n d)) (.map (some b)) := by
  obtain ⟨hc, hk, hf⟩ := key_run (P := P) (w := w) (S := S) hq hn
  have hf := hf hm
  have key2 : ∀ o : Obj, Ext (fun c => some b ≠ some c) w { w with heap := w.heap.setIfInBounds b o } := fun o => ⟨rfl, rfl, rfl, by simp, fun c hc hl => (MapKept.heap_set hb).2 c (fun e => hc (by rw [e]))⟩
  have keyS : ∀ o : Obj, Ext S w { w with heap := w.heap.setIfInBounds b o } := fun o => (key2 o).mono fun c hS e => hnS (by cases e; exact hS)
  rcases find_list hn 0 hm with ⟨h1, _, _, h3⟩ | ⟨j, e', d', h1, h2, h3, _, _, h6, _⟩
  · refine ⟨{ w with heap := w.heap.setIfInBounds b (.map (ents.push { key := keyV kk n, val := u, born := clock }) (clock + 1)) }, ?_, key2 _, .map (MapKept.heap_set hb).1 (stamps_push hst _ _) ?_⟩
    · simp only [Instr.mapUpdate, Sem.run_bind, run_underlying ht, MapKept.run_getObj_map hb, Result.andThen_ok, hc, hf, h1, MapKept.run_setObj_map _ hb]
    · rw [Array.toList_push]; exact h3 S _ d u clock (hm.ext (keyS _)) (hu.ext (keyS _))
  · have hj : ents[j]? = some e' := by simpa using h2
    refine ⟨{ w with heap := w.heap.setIfInBounds b (.map (ents.modify j fun e => { e with key := keyV kk n, val := u }) clock) }, ?_, key2 _, .map (MapKept.heap_set hb).1 (stamps_modify hst j _ _) ?_⟩
    · simp only [Instr.mapUpdate, Sem.run_bind, run_underlying ht, MapKept.run_getObj_map hb, Result.andThen_ok, hc, hf, h1, Nat.zero_add, hj, Option.map_some, Option.getD_some, h3, hk, MapKept.run_setObj_map _ hb]
    · rw [modify_toList]; exact h6 S _ d u (hm.ext (keyS _)) (hu.ext (keyS _))
theorem mdel_run {t key e : TypeId} {kk : KK} {n : List Int} {b clock : Nat} {ents : Array MapEntry} {es : List (List Int × Sum CD (List CD))} {ts : Array TypeId} {ty : TypeId} (hts : ts.toList.head? = some t) (ht : P.underlying t = some (.map key e)) (hq : keyKind P key = some kk) (hn : keyOk kk n)
    (hb : w.heap[b]? = some (.map ents clock)) (hst : stampsOk ents clock) (hm : MapR w S kk es ents.toList) (hnS : ¬ S b) :
    ∃ w', (Builtin.delete_ ts ty #[.map (some b), keyV kk n]).run P w = .ok (.tuple #[]) w' ∧ Ext (fun c => some b ≠ some c) w w' ∧ ObR x w' S φ (.map kk (mdel es n)) (.map (some b)) := by
  obtain ⟨hc, hk, hf⟩ := key_run (P := P) (w := w) (S := S) hq hn
  have hf := hf hm
  have hts' : ts[0]? = some t := by rw [← Array.getElem?_toList, ← List.head?_eq_getElem?]; exact hts
  have key2 : ∀ o : Obj, Ext (fun c => some b ≠ some c) w { w with heap := w.heap.setIfInBounds b o } := fun o => ⟨rfl, rfl, rfl, by simp, fun c hc hl => (MapKept.heap_set hb).2 c (fun e => hc (by rw [e]))⟩
  have keyS : ∀ o : Obj, Ext S w { w with heap := w.heap.setIfInBounds b o } := fun o => (key2 o).mono fun c hS e => hnS (by cases e; exact hS)
  have a0 : (#[Value.map (some b), keyV kk n] : Array Value)[0]? = some (.map (some b)) := rfl
  have a1 : (#[Value.map (some b), keyV kk n] : Array Value)[1]? = some (keyV kk n) := rfl
  rcases find_list hn 0 hm with ⟨h1, _, h2, h3⟩ | ⟨j, e', d', h1, h2, h3, _, _, _, h7⟩
  · refine ⟨{ w with heap := w.heap.setIfInBounds b (.map ents clock) }, ?_, key2 _, .map (MapKept.heap_set hb).1 hst (by rw [h2]; exact hm.ext (keyS _))⟩
    simp only [Builtin.delete_, hts', a0, a1, Sem.run_bind, run_underlying ht, MapKept.run_getObj_map hb, Result.andThen_ok, hc, hf, h1, MapKept.run_setObj_map _ hb, Sem.run_pure]
  · refine ⟨{ w with heap := w.heap.setIfInBounds b (.map (ents.eraseIdxIfInBounds j) clock) }, ?_, key2 _, .map (MapKept.heap_set hb).1 (stamps_erase hst j) ?_⟩
    · simp only [Builtin.delete_, hts', a0, a1, Sem.run_bind, run_underlying ht, MapKept.run_getObj_map hb, Result.andThen_ok, hc, hf, h1, Nat.zero_add, MapKept.run_setObj_map _ hb, Sem.run_pure]
    · rw [erase_toList]; exact h7 S _ (hm.ext (keyS _))
theorem MapR.split {kk : KK} : ∀ {es : List (List Int × Sum CD (List CD))} {l1 l2 : List MapEntry} {e : MapEntry}, MapR w S kk es (l1 ++ e :: l2) → ∃ pre n d post, es = pre ++ (n, d) :: post ∧ MapR w S kk (pre ++ post) (l1 ++ l2) ∧ MapR w S kk [(n, d)] [e] ∧ e.key = keyV kk n ∧ keyOk kk n ∧ ArgR w S d e.val
  | _, [], l2, e, h => by
    simp only [List.nil_append] at h
    cases h with
    | @cons n d _ r _ hk hw hv h => exact ⟨[], n, d, r, rfl, h, .cons hk hw hv .nil, hk, hw, hv⟩
  | _, a :: l1, l2, e, h => by
    simp only [List.cons_append] at h
    cases h with
    | @cons n d _ r _ hk hw hv h =>
      obtain ⟨pre, n', d', post, rfl, h1, h2, h3⟩ := MapR.split h
      exact ⟨(n, d) :: pre, n', d', post, rfl, .cons hk hw hv h1, h2, h3⟩
theorem keyAv_rel {kk : KK} {n : List Int} (hn : keyOk kk n) : AVR x w S φ (keyAv kk n) (keyV kk n) := by
  cases kk with
  | one k => exact mk_int hn.2
  | agg ks =>
    have := aggC (x := x) (w := w) (S := S) (φ := φ) (ds := (ks.zip n).map fun p => CD.sc (.int p.1 p.2)) (vs := (ks.zip n).map fun p => Value.int p.1 p.2) (by simp) (fun j d v hd hv => by
      simp only [List.getElem?_map, Option.map_eq_some_iff] at hd hv
      obtain ⟨p, hp, rfl⟩ := hd
      obtain ⟨q, hq, rfl⟩ := hv
      rw [hp] at hq; cases hq
      obtain ⟨h1, h2⟩ := List.getElem?_zip_eq_some.1 hp
      exact .sc (hn.2 j _ _ h1 h2))
    rw [List.map_map] at this
    exact this
theorem filter_push {l1 l2 : List MapEntry} {ents : List MapEntry} {seen : Array Nat} {e : MapEntry} (hn : (ents.map (·.born)).Nodup) (h : ents.filter (fun e => !seen.contains e.born) = l1 ++ e :: l2) : ents.filter (fun e' => !(seen.push e.born).contains e'.born) = l1 ++ l2 := by
  have h1 : ents.filter (fun e' => !(seen.push e.born).contains e'.born) = (ents.filter (fun e => !seen.contains e.born)).filter fun e' => !decide (e'.born = e.born) := by
    rw [List.filter_filter]
    congr 1
    funext e'
    rw [Bool.eq_iff_iff]
    simp [not_or, and_comm]
  rw [h1, h]
  have hsub : (l1 ++ e :: l2).Sublist ents := by rw [← h]; exact List.filter_sublist
  have hnd : ((l1 ++ e :: l2).map (·.born)).Nodup := hn.sublist (hsub.map _)
  rw [List.map_append, List.map_cons, List.nodup_append, List.nodup_cons] at hnd
  obtain ⟨_, ⟨hn2, _⟩, hn3⟩ := hnd
  rw [List.filter_append, List.filter_cons]
  have e1 : l1.filter (fun e' => !decide (e'.born = e.born)) = l1 := List.filter_eq_self.2 fun a ha => by
    have := hn3 a.born (List.mem_map.2 ⟨a, ha, rfl⟩) e.born (by simp)
    simpa using this
  have e2 : l2.filter (fun e' => !decide (e'.born = e.born)) = l2 := List.filter_eq_self.2 fun a ha => by
    have : a.born ≠ e.born := fun h => hn2 (h ▸ List.mem_map.2 ⟨a, ha, rfl⟩)
    simpa using this
  rw [e1, e2]; simp
theorem zeroAny_sound {P : Program} {t : Nat} {z : List AV} (h : zeroAny P t = some z) : ∃ inf zv, P.info? t = some inf ∧ inf.zero = some zv ∧ zv.cells.toList.length = z.length ∧ (∀ v ∈ zv.cells.toList, v.oneCell' = true) ∧
    (∀ id, purgeCs id z = z) ∧ ∀ (x : Ctx) (w : World) (S : Nat → Prop) (φ : Nat → Value) (j : Nat) (r : AV) (v : Value), z[j]? = some r → zv.cells.toList[j]? = some v → AVR x w S φ r v := by
  unfold zeroAny at h
  cases hz : zeroOf P t with
  | some zs =>
    rw [hz] at h
    simp only [Option.some.injEq] at h
    subst h
    unfold zeroOf at hz
    split at hz
    · rename_i zv hzv
      simp only [Option.bind_eq_some_iff] at hzv
      obtain ⟨inf, hinf, hzv⟩ := hzv
      refine ⟨inf, zv, hinf, hzv, ?_, ?_, fun id => noId_c id zs, fun x w S φ j r v hr hv => ?_⟩
      · have := (constCDs_sound hz (default : World) fun _ => False).1; simpa using this
      · intro v hv
        obtain ⟨c1, c2⟩ := constCDs_sound hz (default : World) fun _ => False
        obtain ⟨j, hj⟩ := List.getElem?_of_mem hv
        have hjl : j < zs.length := by rw [← c1]; exact (List.getElem?_eq_some_iff.1 hj).1
        exact (c2 j _ v (List.getElem?_eq_getElem hjl) hj).oneCell
      · simp only [List.getElem?_map, Option.map_eq_some_iff] at hr
        obtain ⟨dd, hdd, rfl⟩ := hr
        exact .c ((constCDs_sound hz w S).2 j dd v hdd hv)
    · cases hz
  | none =>
    rw [hz] at h
    simp only at h
    split at h
    · rename_i zv hzv
      simp only [Option.bind_eq_some_iff] at hzv
      obtain ⟨inf, hinf, hzv⟩ := hzv
      cases hb : (zv.cells.toList.all fun u => u.oneCell') with
      | false => rw [hb] at h; cases h
      | true =>
        rw [hb] at h
        simp only [cond_true, Option.some.injEq] at h
        subst h
        refine ⟨inf, zv, hinf, hzv, by simp, fun v hv => List.all_eq_true.1 hb v hv, fun id => ?_, fun x w S φ j r v hr hv => ?_⟩
        · generalize zv.cells.toList = l
          induction l with
          | nil => rfl
          | cons u r ih => simp only [List.map_cons, purgeCs, AV.noId, cond_true, ih]
        · simp only [List.getElem?_map, Option.map_eq_some_iff] at hr
          obtain ⟨_, _, rfl⟩ := hr
          exact .any
    · cases h
theorem run_isnil {P : Program} {neg : Bool} {t e : TypeId} {X Y : Operand} {A : Option Addr} {n c : Nat} (h : P.underlying t = some (.slice e)) (w : World) :
    (do eqGuard (bif neg then .neq else .eql) t X Y (.slice A n c) (.slice none 0 0); binOp (bif neg then .neq else .eql) t (.slice A n c) (.slice none 0 0) : Sem Value).run P w = .ok (.bool (bif neg then !A.isNone else A.isNone)) w := by
  have h0 : ∀ d, (Op.equalIn (d + 1) t (.slice A n c) (.slice none 0 0)).run P w = .ok A.isNone w := by
    intro d
    cases A <;> simp [Op.equalIn, run_underlying h]
  have h1 := h0 9999
  cases neg <;> simp [eqGuard, binOp, Op.equal, Op.maxDepth, h1]
theorem wpl_unguard {all : Array Oper} {l : List Oper} {o : Oper} {Q : Exit → Act → World → Prop} (hw : Region.wanted o (yielded all a.tmps) = true) (h : wpList P all Q ({ o with guard := none } :: l) a w) : wpList P all Q (o :: l) a w := by
  unfold wpList at h ⊢
  have h0 : Region.wanted { o with guard := none } (yielded all a.tmps) = true := by simp [Region.wanted]
  rw [if_pos h0] at h
  rw [if_pos hw]
  exact h
theorem AL_stepB {Q : Exit → St → Prop} {K : St → Prop} {rest : List AP} (IH : ∀ τ, K τ → AL P rest Q τ) (p : AP) (σ : St) (h : ∃ G, guardOf σ p.g = some G ∧ sBody P K σ p.dst p.op p.g G) : AL P (p :: rest) Q σ := fun all l hc x S φ a w hx hs => by
    obtain ⟨o, l', rfl, ho, hdst, hgd, hl⟩ := compOps_cons hc
    obtain ⟨dst, op, g⟩ := p
    simp only at ho hdst hgd h
    subst hdst
    by_cases hpure : op.isPure = true
    · obtain ⟨G, hG, h⟩ := h
      rw [sBody_pure hpure] at h
      · skip
        split at h
        · rename_i d v ob hd hp
          exact pure_step hs ho hd hgd hG h.1 hp h.2.1 hx hl (IH _ h.2.2)
        · exact h.elim
    · cases op <;> simp only [AK.isPure, not_true, Bool.not_eq_true, reduceCtorEq] at hpure
      case box t n y =>
        · obtain ⟨G, hG, h⟩ := h
          simp only [sBody] at h
          split at h
          · rename_i d hd
            obtain ⟨hdn, h⟩ := h
            have hgn := guard_none hgd
            obtain ⟨X, hop, hsh, hX⟩ := inv_box ho
            have hev := ev_sound hs hX
            have fin : ∀ (cs : List AV) (vs : List Value), (a.eval X).cells = vs.toArray → vs.length = cs.length → (∀ (j : Nat) (r : AV) (v : Value), cs[j]? = some r → vs[j]? = some v → AVR x w S φ r v) → (∀ v ∈ vs, v.oneCell' = true) →
                K ((σ.new d (.box t (purgeCs d cs))).put d (.ptr d 0)) → wpList P all (simQ x Q) (o :: l') a w := by
              intro cs vs hc hlen hr h1 hk
              have hrun : (execOp a.eval o).run P w = .ok (.value (.pointer (some ⟨w.heap.size, 0, none⟩))) (w.alloc (.cells vs.toArray t)) := by
                simp only [execOp, hop, Sem.run_bind, run_box, hc, Result.andThen_ok, Sem.run_pure]
              refine wpl_val hgn hrun ?_
              rw [hd]
              have hsim := new_sim hs d (hs.lt hdn) (.box t (purgeCs d cs)) (.cells vs.toArray t) (.pointer (some ⟨w.heap.size, 0, none⟩)) rfl (box_ob hlen hr h1)
              exact IH _ hk all l' hl x S _ _ _ hx (hsim.put hdn (.ptr (setφ_same _ _ _)))
            split at h
            · skip
              exact fin [σ.ev y] [a.eval X] (cells_one (one_oneCell hev h.1)) rfl (fun j r v hr hv => by
                cases j with
                | zero => simp at hr hv; subst hr; subst hv; exact hev
                | succ j => simp at hr) (fun v hv => by simp at hv; subst hv; exact one_oneCell hev h.1) h.2
            · rename_i m cs hcs
              rw [hcs] at hev
              obtain ⟨vs, h1, h2, h3, h4⟩ := agg_form hev
              exact fin cs vs (by rw [h1]; rfl) h2 h3 h4 h.2
            · exact h.elim
          · exact h.elim
      case alloc t z =>
        · obtain ⟨G, hG, h⟩ := h
          simp only [sBody] at h
          split at h
          · rename_i d hd
            obtain ⟨hdn, h⟩ := h
            have hgn := guard_none hgd
            obtain ⟨hop, hz⟩ := inv_alloc ho
            obtain ⟨inf, zv, hinf, hzv, c1, c3, c4, c2⟩ := zeroAny_sound hz
            have hrun : (execOp a.eval o).run P w = .ok (.value (.pointer (some ⟨w.heap.size, 0, none⟩))) (w.alloc (.cells zv.cells.toList.toArray t)) := by
              simp [execOp, hop, Instr.alloc, zeroValue, typeInfo, hinf, hzv, newVar, newRow]
            refine wpl_val hgn hrun ?_
            rw [hd]
            have hob := box_ob (x := x) (w := w) (S := S) (φ := φ) (t := t) (id := d) (cs := z) (vs := zv.cells.toList) c1 (fun j r v hr hv => c2 x w S φ j r v hr hv) c3
            rw [c4] at hob
            exact IH _ h all l' hl x S _ _ _ hx ((new_sim hs d (hs.lt hdn) _ _ _ rfl hob).put hdn (.ptr (setφ_same _ _ _)))
          · exact h.elim
      case bslice e k ys =>
        · obtain ⟨G, hG, h⟩ := h
          simp only [sBody] at h
          split at h
          · rename_i id ek k' hrm
            split at h
            · rename_i d hd
              obtain ⟨⟨hdn, rfl, hid⟩, h⟩ := h
              obtain ⟨t, len, parts, hop, hu, hsp, hk, hyl, hm, hz⟩ := inv_bslice ho
              obtain ⟨hgn, y, xs0, rfl, hy, hob0⟩ := rowMk_inv hrm
              subst hgn
              have hvv : ∀ X, compX X = some y → a.eval X = φ id ∧ (φ id).oneCell' = true := fun X hX => by
                have := ev_sound hs hX
                rw [hy] at this
                generalize a.eval X = q at this ⊢
                cases this with
                | own h => exact ⟨rfl, h⟩
              obtain ⟨X0, hX0⟩ : ∃ X, compX X = some y := by
                obtain ⟨h1, h2⟩ := seqParts_get hsp
                obtain ⟨q, hq⟩ : ∃ q, parts.toList = [q] := List.length_eq_one_iff.1 h1
                exact ⟨q.2, (h2 0 q y (by rw [hq]; rfl) rfl).2⟩
              have hone := (hvv X0 hX0).2
              have hcel : (φ id).cells = #[φ id] := cells_one hone
              have hrun := bslice1_sound (P := P) hs hu hsp hk hyl hz (fun X hX => (hvv X hX).1) hcel
              have hrunO : (execOp a.eval o).run P w = .ok (.value (.slice (some ⟨w.heap.size, 0, none⟩) 1 1)) (w.alloc (.cells #[φ id] e)) := by simp only [execOp, hop, Sem.run_bind, hrun, Result.andThen_ok, Sem.run_pure]
              refine wpl_val (guard_none hgd) hrunO ?_
              rw [hd]
              have hsim := hs.renewR d (hs.lt hdn) (.rows e ek k' [[]] (some 0) (some id)) (.slice (some ⟨w.heap.size, 0, none⟩) 1 1) (w.alloc (.cells #[φ id] e)) (Ext.alloc _ w _)
                (.rows (xss := [[]]) (alloc_heap w _) (Nat.le_refl _) (by unfold maxLen; omega) (by simp) (by simpa using hone) (fun i xs hx hne => by
                    cases i with
                    | zero => simp at hne
                    | succ i => simp at hx) (fun i j u v b hi hj hni hnj => by
                    have : i = 0 := by simpa using hi
                    subst this; simp at hni) (fun h d' h1 h2 _ => by
                    cases h1; cases h2
                    rw [setφ_ne hid]; simp))
                (fun b hb => by
                  simp only [Value.blk, Option.some.injEq] at hb
                  subst hb
                  exact ⟨fun h => by have := (hs.dat _ h).1; omega, by simp, .inl hs.ext.size, fun i p _ hp => hs.free (Ext.refl _ _) (Nat.le_refl _) hp⟩)
                (fun b hb => by
                  obtain ⟨cur, i, u, _, g2, g3, _⟩ := hb
                  have : i = 0 := by simpa using g2
                  subst this; simp at g3)
              exact IH _ h all l' hl x S _ _ _ hx (hsim.put hdn (by
                have : AVR x (w.alloc (.cells #[φ id] e)) S (setφ φ d (.slice (some ⟨w.heap.size, 0, none⟩) 1 1)) (.own d) (setφ φ d (.slice (some ⟨w.heap.size, 0, none⟩) 1 1) d) := .own (by rw [setφ_same]; rfl)
                rwa [setφ_same] at this))
            · exact h.elim
          rename_i hrm
          split at h
          · rename_i d xs hd hxs
            obtain ⟨hdn, hob, hlen, h⟩ := h
            obtain ⟨t, len, parts, hop, hu, hsp, hk, hyl, hm, hz⟩ := inv_bslice ho
            split at h
            · have hGt : G = true := by simpa [guardOf] using hG.symm
              subst hGt
              obtain ⟨T, hsB⟩ := hs.bsT none ys
              have hdn0 : d < (bsT σ none ys).n := hdn
              obtain ⟨v, ob, hrun, _, hrow, hblk, _⟩ := bslice_sound hsB hu hsp hk hyl hm (hob rfl) hxs hlen hz
              have hrunO : (execOp a.eval o).run P w = .ok (.value v) (w.alloc ob) := by simp only [execOp, hop, Sem.run_bind, hrun, Result.andThen_ok, Sem.run_pure]
              refine wpl_val (guard_none hgd) hrunO ?_
              rw [hd]
              cases hmk : (xs.isEmpty && (bsT σ none ys).mark) with
              | true =>
                rw [hmk] at h
                simp only [Bool.and_eq_true, List.isEmpty_iff] at hmk
                obtain ⟨rfl, _⟩ := hmk
                have hne : AVR x (w.alloc ob) (fun b => T b ∨ b = w.heap.size) φ (.c .ne) v := by
                  generalize hxx : ([] : List (List CD)) = xx at hrow
                  cases hrow with
                  | nil => simp [Value.blk] at hblk
                  | row _ _ hcm => subst hxx; exact .c (.ne hcm)
                exact IH _ h all l' hl x _ φ _ _ hx ((new_data hsB ob).put hdn0 hne)
              | false =>
              rw [hmk] at h
              have hone : v.oneCell' = true := by cases hrow <;> rfl
              have hown : AVR x (w.alloc ob) T (setφ φ d v) (.own d) v := by
                have : AVR x (w.alloc ob) T (setφ φ d v) (.own d) (setφ φ d v d) := .own (by rw [setφ_same]; exact hone)
                rwa [setφ_same] at this
              exact IH _ h all l' hl x T _ _ _ hx ((new_sim hsB d (hsB.lt hdn) (.arr e k xs) ob v hblk (.arr hrow)).put hdn hown)
            rename_i g0
            simp only [bsT] at hob hxs hdn h
            have hgn : some g0 = none → G = true := fun h => by cases h
            refine wpl_guard (wanted_of hs hgd hG) (fun hGt K hK => ?_) (fun hGf => ?_)
            · subst hGt
              obtain ⟨v, ob, hrun, hv, _, _⟩ := bslice_sound hs hu hsp hk hyl hm (hob rfl) hxs hlen hz
              unfold Oper.wp
              have : (execOp a.eval o).run P w = .ok (.value v) (w.alloc ob) := by simp only [execOp, hop, Sem.run_bind, hrun, Result.andThen_ok, Sem.run_pure]
              rw [this]
              refine hK _ _ ?_
              rw [hd]
              exact IH _ h all l' hl x _ φ _ _ hx ((new_data hs ob).put hdn (under_sound hgn (fun _ => hv) (fun h => by cases h)))
            · subst hGf
              rw [hd]
              exact IH _ h all l' hl x S φ _ _ hx (hs.put hdn (under_sound hgn (fun h => by cases h) (fun _ => rfl)))
          · exact h.elim
      case st n y v =>
        · obtain ⟨G, hG, h⟩ := h
          simp only [sBody] at h
          obtain ⟨t, Y, V, hop, hsh, hY, hV⟩ := inv_st ho
          have hevV := ev_sound hs hV
          have fin : ∀ τ w', g = none → o.dst = none → (Instr.storeAt t (a.eval Y) (a.eval V)).run P w = .ok () w' → Sim x S φ τ a w' → K τ → wpList P all (simQ x Q) (o :: l') a w := by
            intro τ w' hgn hdn hrun hsim hk
            subst hgn
            have : (execOp a.eval o).run P w = .ok .skip w' := by simp only [execOp, hop, Sem.run_bind, hrun, Result.andThen_ok, Sem.run_pure]
            refine wpl_skip (guard_none hgd) this ?_
            rw [hdn]
            exact IH _ hk all l' hl x S φ _ _ hx hsim
          split at h
          · rename_i id off hd hp
            split at h
            · rename_i t' cs hob
              obtain ⟨ho1, ho2, ho3, hk⟩ := h
              have hevY := arg_sound hs rfl hY ho1
              rw [hp] at hevY
              have h1 := one_oneCell hevV ho2
              obtain ⟨w', hrun, hsim⟩ := store_box (P := P) hs (as := [σ.ev v]) (us := [a.eval V]) hob hsh hevY (cells_one h1) rfl rfl (fun j r u hr hu => by
                cases j with
                | zero => simp at hr hu; subst hr; subst hu; exact hevV
                | succ j => simp at hr) (fun u hu => by simp at hu; subst hu; exact h1) (by simp; omega)
              refine fin _ w' rfl hd hrun ?_ hk
              rw [set_take_drop _ _ _ ho3]; exact hsim
            · exact h.elim
          · rename_i id off m as hd hp hv
            split at h
            · rename_i t' cs hob
              obtain ⟨ho1, ho2, ho3, hk⟩ := h
              have hevY := arg_sound hs rfl hY ho1
              rw [hp] at hevY
              rw [hv] at hevV
              obtain ⟨vs, g1, g2, g3, g4⟩ := agg_form hevV
              obtain ⟨w', hrun, hsim⟩ := store_box (P := P) (v := a.eval V) hs (as := as) (us := vs) hob hsh hevY (by rw [g1]; rfl) g2 (by simpa using ho3) g3 g4 (by omega)
              refine fin _ w' rfl hd hrun ?_ hk
              rw [ho3] at hsim; exact hsim
            · exact h.elim
          · rename_i id k i off c hd hp hv
            split at h
            · rename_i e k' xs hob
              obtain ⟨ho1, rfl, ho3, ho4, hk⟩ := h
              have hevY := arg_sound hs rfl hY ho1
              rw [hp] at hevY
              rw [hv] at hevV
              cases hevV with
              | c hrd =>
                obtain ⟨w', hrun, hsim⟩ := store_arr (P := P) hs (ds := [c]) (us := [a.eval V]) hob hsh hevY (cells_one hrd.oneCell) rfl rfl (fun j d u hd hu => by
                  cases j with
                  | zero => simp at hd hu; subst hd; subst hu; exact hrd
                  | succ j => simp at hd) ho3 (by simp; omega)
                refine fin _ w' rfl hd hrun ?_ hk
                have hx2 := hs.obs id _ hob
                have hxl : (xs.getD i []).length = k := by
                  generalize φ id = q at hx2
                  cases hx2 with
                  | arr h => cases h with
                    | nil => simp at ho3
                    | row _ _ _ _ hk _ _ =>
                      have : xs.getD i [] = xs[i] := by simp [List.getD, ho3]
                      rw [this]; exact hk _ (List.getElem_mem ho3)
                rw [set_take_drop (xs.getD i []) off c (by omega)]; exact hsim
            · exact h.elim
          · rename_i id k i m as hd hp hv
            split at h
            · rename_i e k' xs ds hob hds
              obtain ⟨ho1, rfl, rfl, ho4, ho5, hk⟩ := h
              have hevY := arg_sound hs rfl hY ho1
              rw [hp] at hevY
              rw [hv] at hevV
              obtain ⟨c1, c2⟩ := toCDs_get hds
              obtain ⟨vs, g1, g2, g3, g4⟩ := agg_form hevV
              obtain ⟨w', hrun, hsim⟩ := store_arr (P := P) (v := a.eval V) hs (ds := ds) (us := vs) hob hsh hevY (by rw [g1]; rfl) (g2.trans c1) (by simp; omega) (fun j d u hd hu => by
                have := g3 j _ u (c2 j d hd) hu
                cases this with
                | c h => exact h) ho5 (by omega)
              refine fin _ w' rfl hd hrun ?_ hk
              have hx2 := hs.obs id _ hob
              have hxl : (xs.getD i []).length = m := by
                generalize φ id = q at hx2
                cases hx2 with
                | arr h => cases h with
                  | nil => simp at ho5
                  | row _ _ _ _ hk _ _ =>
                    have : xs.getD i [] = xs[i] := by simp [List.getD, ho5]
                    rw [this]; exact hk _ (List.getElem_mem ho5)
              have hdl : ds.length = m := by omega
              have hdr : (xs.getD i []).drop m = [] := List.drop_of_length_le (by omega)
              simp only [hdl, List.take_zero, List.nil_append, Nat.zero_add, hdr, List.append_nil] at hsim
              exact hsim
            · exact h.elim
          · rename_i id k i off d' hd hp hv
            split at h
            · rename_i e ek k' xss hh who hob
              obtain ⟨ho1, ⟨rfl, rfl, rfl⟩, ho5, hk⟩ := h
              have hevY := arg_sound hs rfl hY ho1
              rw [hp] at hevY
              rw [hv] at hevV
              obtain ⟨w', hrun, hsim⟩ := store_rows (P := P) hs hob hsh hevY hevV ho5
              exact fin _ w' rfl hd hrun hsim hk
            · exact h.elim
          · exact h.elim
      case app e k bytes s y =>
        · obtain ⟨G, hG, h⟩ := h
          simp only [sBody] at h
          obtain ⟨t, X, Y, inf, hop, hu, hk, hinf, hby, hzs, hX, hY⟩ := inv_app ho
          have hevX := ev_sound hs hX
          have hevY := ev_sound hs hY
          have hinfk : inf.size = k := by
            unfold cellsNum at hk; rw [hinf] at hk; simpa using hk
          have hzs' : ∃ zs, zeroOf P e = some zs ∧ zs.length = k := by
            unfold zeroLen at hzs
            split at hzs
            · rename_i zs hq; exact ⟨zs, hq, Nat.eq_of_beq_eq_true hzs⟩
            · cases hzs
          obtain ⟨zs, hzs, hzsl⟩ := hzs'
          have hz : ∃ z, inf.zero = some z ∧ constCDs z.cells.toList = some zs := by
            unfold zeroOf at hzs
            rw [hinf] at hzs
            simp only [Option.bind_some] at hzs
            split at hzs
            · rename_i z hz; exact ⟨z, hz, hzs⟩
            · cases hzs
          obtain ⟨z, hz, hzc⟩ := hz
          obtain ⟨c1, c2⟩ := constCDs_sound hzc w S
          have hz1 : ∀ v ∈ z.cells.toList, v.oneCell' = true := fun v hv => by
            obtain ⟨j, hj⟩ := List.getElem?_of_mem hv
            have hjl : j < zs.length := by rw [← c1]; exact (List.getElem?_eq_some_iff.1 hj).1
            exact (c2 j _ v (List.getElem?_eq_getElem hjl) hj).oneCell
          have hzk : z.cells.size = k := by rw [← hzsl, ← c1]; simp
          have fin : ∀ (d id : Nat) (xs ys : List (List CD)) (p : Value), g = none → o.dst = some d → d < σ.n → p = a.eval X → ArrR w S e k xs p → σ.view k (σ.ev y) = some ys → 0 < k →
              (xs.length + ys.length) * bytes ≤ 140737488355328 → xs.length + ys.length ≤ maxLen →
              ((∃ q, obGet id σ.ob = some q ∧ φ id = p) ∨ Value.blk p = none) → id < 1000000 →
              K ((σ.new id (.arr e k (xs ++ ys))).put d (.own id)) → wpList P all (simQ x Q) (o :: l') a w := by
            intro d id xs ys p hgn hd hdn hp hrow hview hk0 hb hm hid hid1 hk
            subst hgn
            obtain ⟨A, cap2, hv, hcells⟩ := view_cells hs hview hevY
            obtain ⟨p', w', hrun, hext, hrow', hblk⟩ := run_app (P := P) (ty := o.type) hu hinf hz hinfk hby hzk hz1 hk0 hrow hv hcells hb hm
            have hrunO : (execOp a.eval o).run P w = .ok (.value p') w' := by
              have hop' := hop
              obtain ⟨odst, oop, otype, opos, oafter, oguard⟩ := o
              simp only at hop'
              subst hop'
              simp only at hrun
              simp [execOp, resolve, invoke, builtin, ← hp, hrun]
            have hext' : Ext (fun b => (∃ q, obGet id σ.ob = some q) → Value.blk (φ id) ≠ some b) w w' := by
              refine hext.mono fun b hb hpb => ?_
              rcases hid with ⟨q, hq, hφ⟩ | hnone
              · exact hb ⟨q, hq⟩ (by rw [hφ]; exact hpb)
              · rw [hnone] at hpb; cases hpb
            have heS : Ext S w w' := hext'.mono fun b hSb ⟨q, hq⟩ hbk => (hs.own id q b hq hbk).1 hSb
            have hp'1 : p'.oneCell' = true := by
              obtain ⟨_, _, e, _⟩ := arr_cases (hrow' S (fun _ h => h) heS)
              rw [e]; rfl
            refine wpl_val (guard_none hgd) hrunO ?_
            rw [hd]
            have hsim := hs.renew id hid1 (.arr e k (xs ++ ys)) p' w' hext' (.arr (hrow' S (fun _ h => h) heS)) (fun b hb => by
              rcases hblk b hb with hpb | ⟨h1, h2⟩
              · rcases hid with ⟨q, hq, hφ⟩ | hnone
                · rw [← hφ] at hpb
                  obtain ⟨g1, g2, g3⟩ := hs.own id q b hq hpb
                  exact ⟨g1, Nat.lt_of_lt_of_le g2 hext.size, g3, fun i r hi hr => hs.apart hq hpb hi hr⟩
                · rw [hnone] at hpb; cases hpb
              · exact ⟨fun hSb => by have := (hs.dat b hSb).1; omega, h2, .inl (Nat.le_trans hs.ext.size h1), fun i r _ hr => hs.free (Ext.refl _ _) h1 hr⟩)
            have hown : AVR x w' S (setφ φ id p') (.own id) p' := by
              have : AVR x w' S (setφ φ id p') (.own id) (setφ φ id p' id) := .own (by rw [setφ_same]; exact hp'1)
              rwa [setφ_same] at this
            exact IH _ hk all l' hl x S _ _ _ hx (hsim.put hdn hown)
          split at h
          · rename_i d id ys hd hs1 hview
            split at h
            · rename_i e' k' xs hob
              obtain ⟨hdn, hid1, rfl, rfl, hk0, hb, hm, hk⟩ := h
              have h3 := hs.obs id _ hob
              rw [hs1] at hevX
              generalize hq : a.eval X = q at hevX
              cases hevX
              cases h3 with
              | arr h3 =>
                exact fin d id xs ys (φ id) rfl hd hdn hq.symm h3 hview hk0 hb hm (.inl ⟨_, hob, rfl⟩) hid1 hk
            · rename_i e' ek k' xss who hob
              obtain ⟨hdn, hid1, ⟨rfl, rfl, rfl⟩, hb, hm, hk⟩ := h
              rw [hs1] at hevX
              generalize hq : a.eval X = q at hevX
              cases hevX
              obtain ⟨A, cap2, hv, hcells⟩ := view_cells hs hview hevY
              obtain ⟨p', w', hrun, hp'1, hsim⟩ := app_rows (P := P) (ty := o.type) hs hu hinf hz hinfk hby hzk hz1 hob hid1 hv hcells hb hm
              have hrunO : (execOp a.eval o).run P w = .ok (.value p') w' := by
                have hop' := hop
                obtain ⟨odst, oop, otype, opos, oafter, oguard⟩ := o
                simp only at hop'
                subst hop'
                simp only at hrun
                simp [execOp, resolve, invoke, builtin, hq, hrun]
              refine wpl_val (guard_none hgd) hrunO ?_
              rw [hd]
              have hown : AVR x w' S (setφ φ id p') (.own id) p' := by
                have : AVR x w' S (setφ φ id p') (.own id) (setφ φ id p' id) := .own (by rw [setφ_same]; exact hp'1)
                rwa [setφ_same] at this
              exact IH _ hk all l' hl x S _ _ _ hx (hsim.put hdn hown)
            · exact h.elim
          · rename_i d k' xs ys hd hs1 hview
            obtain ⟨hdn, rfl, hk0, hpos, hb, hm, hk⟩ := h
            rw [hs1] at hevX
            generalize hq : a.eval X = q at hevX
            cases hevX with
            | @full _ _ B hfl =>
              obtain ⟨A, cap2, hv, hcells⟩ := view_cells hs hview hevY
              obtain ⟨A2, cap3, e2, hxc⟩ : ∃ A2 cap3, Value.slice B xs.length xs.length = .slice A2 xs.length cap3 ∧ CellsAt w S k xs A2 := view_cells (r := .c (.sl k xs)) hs (by simp [St.view]) (.c hfl)
              simp only [Value.slice.injEq] at e2
              obtain ⟨rfl, _, _⟩ := e2
              have hBn : B = none → xs = [] := fun e => by
                subst e
                generalize hv2 : Value.slice none xs.length xs.length = q2 at hfl
                cases hfl with
                | sl0 _ _ => rfl
                | sl => simp at hv2
              obtain ⟨p', w', hrun, hext, hrow', hblk⟩ := run_app_full (P := P) (ty := o.type) hu hinf hz hinfk hby hzk hz1 hk0 hxc hBn hv hcells hpos hb hm
              have hrunO : (execOp a.eval o).run P w = .ok (.value p') w' := by
                have hop' := hop
                obtain ⟨odst, oop, otype, opos, oafter, oguard⟩ := o
                simp only at hop'
                subst hop'
                simp only at hrun
                simp [execOp, resolve, invoke, builtin, hq, hrun]
              have heS : Ext S w w' := hext.mono fun _ _ => trivial
              have hp'1 : p'.oneCell' = true := by
                obtain ⟨_, _, e, _⟩ := arr_cases (hrow' S (fun _ h => h) heS)
                rw [e]; rfl
              have hid1 : d < 1000000 := hs.lt hdn
              refine wpl_val (guard_none hgd) hrunO ?_
              rw [hd]
              have hsim := hs.renew d hid1 (.arr e k (xs ++ ys)) p' w' (hext.mono fun _ _ => trivial) (.arr (hrow' S (fun _ h => h) heS)) (fun b hb => by
                obtain ⟨h1, h2⟩ := hblk b hb
                exact ⟨fun hSb => by have := (hs.dat b hSb).1; omega, h2, .inl (Nat.le_trans hs.ext.size h1), fun i r _ hr => hs.free (Ext.refl _ _) h1 hr⟩)
              have hown : AVR x w' S (setφ φ d p') (.own d) p' := by
                have : AVR x w' S (setφ φ d p') (.own d) (setφ φ d p' d) := .own (by rw [setφ_same]; exact hp'1)
                rwa [setφ_same] at this
              exact IH _ hk all l' hl x S _ _ _ hx (hsim.put hdn hown)
          · rename_i d ys hd hs1 hview
            obtain ⟨hdn, hk0, hb, hm, hk⟩ := h
            rw [hs1] at hevX
            have hq : a.eval X = .slice none 0 0 := by
              generalize a.eval X = q at hevX
              cases hevX with
              | c h => cases h; rfl
            exact fin d d [] ys (.slice none 0 0) rfl hd hdn hq.symm .nil hview hk0 (by simpa using hb) (by simpa using hm) (.inr rfl) (hs.lt hdn) (by simpa using hk)
          · exact h.elim
      case mks e k b z lx cx =>
        · obtain ⟨G, hG, h⟩ := h
          simp only [sBody] at h
          split at h
          · rename_i d n m hd hn hm
            obtain ⟨hdn, hk0, hzl, h0, hnm, hb, hmm, hk⟩ := h
            obtain ⟨t, L, C, inf, hop, hu, hk', hz, hinf, hby, hL, hC⟩ := inv_mks ho
            obtain ⟨kl, e1, _⟩ := int_of (ev_sound hs hL) hn
            obtain ⟨kc, e2, _⟩ := int_of (ev_sound hs hC) hm
            obtain ⟨v, ob, hrun, hblk, hone, hobr⟩ := mks_sound (P := P) (x := x) (S := S) (φ := φ) (w := w) (kl := kl) (kc := kc) hu hk' hz hinf hby hk0 hzl h0 hnm hb hmm d
            have hrunO : (execOp a.eval o).run P w = .ok (.value v) (w.alloc ob) := by simp only [execOp, hop, e1, e2, Sem.run_bind, hrun, Result.andThen_ok, Sem.run_pure]
            refine wpl_val (guard_none hgd) hrunO ?_
            rw [hd]
            have hown : AVR x (w.alloc ob) S (setφ φ d v) (.own d) v := by
              have : AVR x (w.alloc ob) S (setφ φ d v) (.own d) (setφ φ d v d) := .own (by rw [setφ_same]; exact hone)
              rwa [setφ_same] at this
            exact IH _ hk all l' hl x S _ _ _ hx ((new_sim hs d (hs.lt hdn) _ ob v hblk hobr).put hdn hown)
          · exact h.elim
      case slc k y lo hi =>
        · obtain ⟨G, hG, h⟩ := h
          simp only [sBody] at h
          split at h
          · rename_i d id hd hy
            split at h
            · rename_i e' k' xs hob
              split at h
              · rename_i l u hlo hhi
                obtain ⟨hdn, hid1, rfl, h0, hlu, hu', hk⟩ := h
                obtain ⟨t, Y, L, H, e, hop, hu, hk', hY, hL, hH⟩ := inv_slc ho
                have hev := ev_sound hs hY
                rw [hy] at hev
                have h3 := hs.obs id _ hob
                generalize hq : a.eval Y = q at hev
                cases hev
                cases hmk : σ.mark
                case true =>
                  rw [hmk] at hk
                  cases h3 with
                  | arr h3 =>
                    obtain ⟨A, cap, hA, hnc, _⟩ := arr_cases h3
                    have hrun := slice_own (P := P) (A := A) hu hk' hnc h0 hlu hu' (lo := L.map a.eval) (hi := H.map a.eval) (by
                      rcases optX_some hL with ⟨rfl, rfl⟩ | ⟨p, z, rfl, rfl, hz⟩
                      · simp at hlo; exact .inl ⟨rfl, hlo.symm⟩
                      · obtain ⟨q, e2, _⟩ := int_of (ev_sound hs hz) hlo
                        exact .inr ⟨q, by simp [e2]⟩) (by
                      rcases optX_some hH with ⟨rfl, rfl⟩ | ⟨p, z, rfl, rfl, hz⟩
                      · simp at hhi; exact .inl ⟨rfl, hhi.symm⟩
                      · obtain ⟨q, e2, _⟩ := int_of (ev_sound hs hz) hhi
                        exact .inr ⟨q, by simp [e2]⟩) w
                    have hrunO : (execOp a.eval o).run P w = .ok (.value (.slice (if cap = l.toNat then A else A.map (·.add (l.toNat * k))) (u.toNat - l.toNat) (cap - l.toNat))) w := by simp [execOp, hop, hq, hA, hrun]
                    refine wpl_val (guard_none hgd) hrunO ?_
                    rw [hd]
                    exact IH _ hk all l' hl x S φ _ _ hx (hs.put hdn (.vw hA ⟨by omega, by omega⟩))
                case false =>
                  rw [hmk] at hk
                  cases h3 with
                  | arr h3 =>
                    obtain ⟨v', hrun, hrow, hblk, hone⟩ := reslice_sound (P := P) hu hk' h3 h0 hlu hu' (lo := L.map a.eval) (hi := H.map a.eval) (by
                      rcases optX_some hL with ⟨rfl, rfl⟩ | ⟨p, z, rfl, rfl, hz⟩
                      · simp at hlo; exact .inl ⟨rfl, hlo.symm⟩
                      · obtain ⟨q, e2, _⟩ := int_of (ev_sound hs hz) hlo
                        exact .inr ⟨q, by simp [e2]⟩) (by
                      rcases optX_some hH with ⟨rfl, rfl⟩ | ⟨p, z, rfl, rfl, hz⟩
                      · simp at hhi; exact .inl ⟨rfl, hhi.symm⟩
                      · obtain ⟨q, e2, _⟩ := int_of (ev_sound hs hz) hhi
                        exact .inr ⟨q, by simp [e2]⟩)
                    have hrunO : (execOp a.eval o).run P w = .ok (.value v') w := by simp [execOp, hop, hq, hrun]
                    refine wpl_val (guard_none hgd) hrunO ?_
                    rw [hd]
                    have hsim := hs.renew id hid1 (.arr e' k ((xs.take u.toNat).drop l.toNat)) v' w (Ext.refl _ _) (.arr hrow) (fun b hb => by
                      rw [hblk] at hb
                      obtain ⟨g1, g2, g3⟩ := hs.own id _ b hob hb
                      exact ⟨g1, g2, g3, fun i r hi hr => hs.apart hob hb hi hr⟩)
                    have hown : AVR x w S (setφ φ id v') (.own id) v' := by
                      have : AVR x w S (setφ φ id v') (.own id) (setφ φ id v' id) := .own (by rw [setφ_same]; exact hone)
                      rwa [setφ_same] at this
                    exact IH _ hk all l' hl x S _ _ _ hx (hsim.put hdn hown)
              · exact h.elim
            · exact h.elim
          · rename_i d _ hd _
            split at h
            · rename_i v ob hp
              exact pure_step hs ho hd hgd hG h.1 hp h.2.1 hx hl (IH _ h.2.2)
            · exact h.elim
          · exact h.elim
      case isnil neg y =>
        obtain ⟨t, X, Y, t2, e, hop, hu, hX, hY⟩ := inv_isnil ho
        have eX := ev_sound hs hX
        have eY := ev_sound hs hY
        have hv : a.eval Y = .slice none 0 0 := by
          generalize a.eval Y = z at eY
          cases eY with
          | c h => cases h; rfl
        have fin : ∀ (d : Nat) (A : Option Addr) (n c : Nat), o.dst = some d → d < σ.n → g = none → a.eval X = .slice A n c → K (σ.put d (.B (bif neg then !A.isNone else A.isNone))) → wpList P all (simQ x Q) (o :: l') a w := by
          intro d A n c hd hdn hg0 hA hk
          subst hg0
          have hrun := run_isnil (P := P) (neg := neg) (X := X) (Y := Y) (A := A) (n := n) (c := c) hu w
          have hrunO : (execOp a.eval o).run P w = .ok (.value (.bool (bif neg then !A.isNone else A.isNone))) w := by
            simp only [execOp, hop, hA, hv, Sem.run_bind] at hrun ⊢
            rw [hrun]; rfl
          refine wpl_val (guard_none hgd) hrunO ?_
          rw [hd]
          exact IH _ hk all l' hl x S φ _ _ hx (hs.put hdn (mk_bool _))
        · obtain ⟨G, hG, h⟩ := h
          simp only [sBody] at h
          split at h
          · rename_i d hd he
            obtain ⟨hdn, hk⟩ := h
            rw [he] at eX
            have hX' : a.eval X = .slice none 0 0 := by
              generalize a.eval X = z at eX
              cases eX with
              | c h => cases h; rfl
            exact fin d none 0 0 hd hdn rfl hX' (by cases neg <;> exact hk)
          · rename_i d hd he
            obtain ⟨hdn, hk⟩ := h
            rw [he] at eX
            generalize hz : a.eval X = z at eX
            cases eX with
            | c h => cases h; exact fin d _ _ _ hd hdn rfl hz (by cases neg <;> exact hk)
          · rename_i d k xs hd he
            obtain ⟨hdn, hk⟩ := h
            rw [he] at eX
            generalize hz : a.eval X = z at eX
            cases eX with
            | c h =>
              cases h with
              | sl0 hc hA => exact fin d _ _ _ hd hdn rfl hz (hk _ (fun _ => rfl))
              | sl vs hn hc hS hk' hcell hrd => exact fin d _ _ _ hd hdn rfl hz (hk _ (fun h => by cases h))
          · rename_i d id hd he
            split at h
            · rename_i e' k' xs hob
              obtain ⟨hdn, hk⟩ := h
              rw [he] at eX
              have h3 := hs.obs id _ hob
              generalize hz : a.eval X = z at eX
              cases eX
              generalize hφ : φ id = q at h3 hz
              cases h3 with
              | arr h3 =>
                cases h3 with
                | nil => exact fin d _ _ _ hd hdn rfl hz (hk _ (fun _ => rfl))
                | row => exact fin d _ _ _ hd hdn rfl hz (hk _ (fun h => by cases h))
            · exact h.elim
          · exact h.elim
      case cpy e k y z =>
        · obtain ⟨G, hG, h⟩ := h
          simp only [sBody] at h
          split at h
          · rename_i d id lo ys hd hin hview
            split at h
            · rename_i e' k' xs hob
              obtain ⟨hdn, rfl, rfl, hk0, hl0, hend, hk⟩ := h
              obtain ⟨t, X, Y, hop, hu, hkc, hX, hY⟩ := inv_cpy ho
              have hevX := ev_sound hs hX
              have hevY := ev_sound hs hY
              obtain ⟨A, cap2, hv, hcells⟩ := view_cells hs hview hevY
              have h3 := hs.obs id _ hob
              obtain ⟨inf, hinf, hsz⟩ : ∃ inf, P.info? e = some inf ∧ inf.size = k := by
                unfold cellsNum at hkc
                simp only [Option.map_eq_some_iff] at hkc
                exact hkc
              obtain ⟨A0, cap, hφ, hnc, hrow⟩ : ∃ A0 cap, φ id = .slice A0 xs.length cap ∧ xs.length ≤ cap ∧ ArrR w S e k xs (.slice A0 xs.length cap) := by
                generalize φ id = q at h3
                cases h3 with
                | arr h3 =>
                  obtain ⟨A0, cap, e1, hn, _⟩ := arr_cases h3
                  exact ⟨A0, cap, e1, hn, e1 ▸ h3⟩
              have hdst : a.eval X = .slice (if cap = lo then A0 else A0.map (·.add (lo * k))) (xs.length - lo) (cap - lo) := by
                revert hin hend
                generalize σ.ev y = r at hevX
                intro hin hend
                cases r <;> simp only [St.into, reduceCtorEq] at hin
                case own i =>
                  simp only [Option.some.injEq, Prod.mk.injEq] at hin
                  obtain ⟨rfl, rfl⟩ := hin
                  generalize hz : a.eval X = q at hevX
                  cases hevX
                  rw [hφ]
                  split
                  · rfl
                  · cases A0 with
                    | none => rfl
                    | some ad => simp [Addr.add]
                case vw i kv l hi =>
                  cases hb : Nat.beq k kv with
                  | false => rw [hb] at hin; cases hin
                  | true =>
                    have := Nat.eq_of_beq_eq_true hb; subst this
                    rw [hb] at hin
                    simp only [cond_true, Option.some.injEq, Prod.mk.injEq] at hin
                    obtain ⟨rfl, rfl⟩ := hin
                    simp only [vwEnd] at hend
                    subst hend
                    generalize hz : a.eval X = q at hevX
                    cases hevX with
                    | vw h1 hh =>
                      rw [hφ] at h1
                      simp only [Value.slice.injEq] at h1
                      obtain ⟨rfl, _, rfl⟩ := h1
                      rfl
              obtain ⟨w', hrun, hext, hrow'⟩ := run_copy (P := P) (ty := o.type) (cap2 := cap2) hu hinf hsz hk0 hrow hl0 (fun b hb => (hs.own id _ b hob (by rw [hφ]; exact hb)).1) hcells
              have hrunO : (execOp a.eval o).run P w = .ok (.value (.int .i64 (min ys.length (xs.length - lo) : Nat))) w' := by
                have hop' := hop
                obtain ⟨odst, oop, otype, opos, oafter, oguard⟩ := o
                simp only at hop'
                subst hop'
                simp only at hrun
                simp [execOp, resolve, invoke, builtin, hdst, hv, hrun]
              refine wpl_val (guard_none hgd) hrunO ?_
              rw [hd]
              have hsim := hs.upd id (.arr e k (xs.take lo ++ ys.take (xs.length - lo) ++ xs.drop (lo + ys.length))) (.arr e k xs) w' hob (by rw [hφ]; exact hext) (by rw [hφ]; exact .arr hrow')
              exact IH _ hk all l' hl x S _ _ _ hx (hsim.put hdn (mk_int (maxLen_i64 (by
                obtain ⟨_, _, e1, hn, hcm⟩ := arr_cases hrow
                omega))))
            · exact h.elim
          · exact h.elim
      case mkmap kk =>
        · obtain ⟨G, hG, h⟩ := h
          simp only [sBody] at h
          split at h
          · rename_i d hd
            obtain ⟨hdn, hk⟩ := h
            obtain ⟨t, hop⟩ := inv_mkmap ho
            have hrunO : (execOp a.eval o).run P w = .ok (.value (.map (some w.heap.size))) (w.alloc (.map #[] 0)) := by
              simp [execOp, hop, Instr.makeMap, Result.andThen]
            refine wpl_val (guard_none hgd) hrunO ?_
            rw [hd]
            have hown : AVR x (w.alloc (.map #[] 0)) S (setφ φ d (.map (some w.heap.size))) (.own d) (.map (some w.heap.size)) := by
              have : AVR x (w.alloc (.map #[] 0)) S (setφ φ d (.map (some w.heap.size))) (.own d) (setφ φ d (.map (some w.heap.size)) d) := .own (by rw [setφ_same]; rfl)
              rwa [setφ_same] at this
            exact IH _ hk all l' hl x S _ _ _ hx ((new_sim hs d (hs.lt hdn) (.map kk []) (.map #[] 0) (.map (some w.heap.size)) rfl (.map (alloc_heap w _) ⟨by simp, by simp⟩ .nil)).put hdn hown)
          · exact h.elim
      case mset kk m k v =>
        · obtain ⟨G, hG, h⟩ := h
          simp only [sBody] at h
          split at h
          · rename_i id n v' hd hm hk hv
            split at h
            · rename_i kk' es hob
              obtain ⟨rfl, hkk⟩ := h
              obtain ⟨t, M, K, V, key, e, hop, ht, hq, hM, hK, hV⟩ := inv_mset ho
              have e1 := ev_sound hs hM
              rw [hm] at e1
              obtain ⟨e2, hn⟩ := keyAV_sound (ev_sound hs hK) hk
              have e3 := arg_of (ev_sound hs hV) hv
              have e4 := hs.obs id _ hob
              have hown := hs.own id
              generalize hz : a.eval M = p at e1
              cases e1
              generalize hφ : φ id = q at e4 hz
              cases e4 with
              | @map _ _ b clock ents hb hst hmr =>
                obtain ⟨w', hrun, hext, hobr⟩ := mset_run (P := P) (x := x) (φ := φ) ht hq hn hb hst hmr e3 (hown _ b hob (by rw [hφ]; rfl)).1
                have hrunO : (execOp a.eval o).run P w = .ok .skip w' := by
                  rcases hop with hop | hop <;> simp [execOp, hop, hz, e2, hrun, Result.andThen]
                refine wpl_skip (guard_none hgd) hrunO ?_
                rw [hd, put_none]
                have hsim := hs.upd id (.map kk (mset es n v')) _ w' hob (by rw [hφ]; exact hext.mono fun c hc => by simpa [Value.blk] using hc) (by rw [hφ]; exact hobr)
                exact IH _ hkk all l' hl x S _ _ _ hx hsim
            · exact h.elim
          · exact h.elim
      case mdel kk m k =>
        · obtain ⟨G, hG, h⟩ := h
          simp only [sBody] at h
          split at h
          · rename_i id n hm hk
            split at h
            · rename_i kk' es hob
              obtain ⟨rfl, hkk⟩ := h
              obtain ⟨t, M, K, key, e, args, ts, hop, hargs, hts, ht, hq, hM, hK⟩ := inv_mdel ho
              have ha : args = #[M, K] := by rw [← Array.toArray_toList (xs := args), hargs]
              subst ha
              have e1 := ev_sound hs hM
              rw [hm] at e1
              obtain ⟨e2, hn⟩ := keyAV_sound (ev_sound hs hK) hk
              have e4 := hs.obs id _ hob
              have hown := hs.own id
              generalize hz : a.eval M = p at e1
              cases e1
              generalize hφ : φ id = q at e4 hz
              cases e4 with
              | @map _ _ b clock ents hb hst hmr =>
                obtain ⟨w', hrun, hext, hobr⟩ := mdel_run (P := P) (x := x) (φ := φ) (ts := ts) (ty := o.type) hts ht hq hn hb hst hmr (hown _ b hob (by rw [hφ]; rfl)).1
                have hrunO : (execOp a.eval o).run P w = .ok (.value (.tuple #[])) w' := by
                  simp [execOp, hop, resolve, invoke, builtin, hz, e2, hrun, Result.andThen]
                refine wpl_val (guard_none hgd) hrunO ?_
                have hsim := hs.upd id (.map kk (mdel es n)) _ w' hob (by rw [hφ]; exact hext.mono fun c hc => by simpa [Value.blk] using hc) (by rw [hφ]; exact hobr)
                cases hdd : o.dst with
                | none =>
                  rw [hdd] at hkk
                  rw [put_none]
                  exact IH _ hkk all l' hl x S _ _ _ hx hsim
                | some d =>
                  rw [hdd] at hkk
                  exact IH _ hkk.2 all l' hl x S _ _ _ hx (hsim.put hkk.1 (.tup (vs := []) rfl fun j r v h => by simp at h))
            · exact h.elim
          · exact h.elim
      case mrange m =>
        · obtain ⟨G, hG, h⟩ := h
          simp only [sBody] at h
          split at h
          · rename_i d kk es hd hm
            obtain ⟨hdn, hk⟩ := h
            obtain ⟨t, M, key, e, hop, ht, hM⟩ := inv_mrange ho
            have e1 := ev_sound hs hM
            rw [hm] at e1
            generalize hz : a.eval M = p at e1
            cases e1 with
            | c e1 =>
              obtain ⟨b, ents, clock, rfl, hb, hSb, hst, hmr⟩ := e1.map_inv
              have hrunO : (execOp a.eval o).run P w = .ok (.value (.pointer (some ⟨w.heap.size, 0, none⟩))) (w.alloc (.mapIter (some b) clock #[] clock)) := by
                simp [execOp, hop, hz, Instr.range, run_underlying ht, MapKept.run_getObj_map hb, Result.andThen]
              refine wpl_val (guard_none hgd) hrunO ?_
              rw [hd]
              have hlt := (Array.getElem?_eq_some_iff.1 hb).1
              have hown : AVR x (w.alloc (.mapIter (some b) clock #[] clock)) S (setφ φ d (.pointer (some ⟨w.heap.size, 0, none⟩))) (.own d) (.pointer (some ⟨w.heap.size, 0, none⟩)) := by
                have : AVR x (w.alloc (.mapIter (some b) clock #[] clock)) S (setφ φ d (.pointer (some ⟨w.heap.size, 0, none⟩))) (.own d) (setφ φ d (.pointer (some ⟨w.heap.size, 0, none⟩)) d) := .own (by rw [setφ_same]; rfl)
                rwa [setφ_same] at this
              refine IH _ hk all l' hl x S _ _ _ hx ((new_sim hs d (hs.lt hdn) (.iter kk es none) (.mapIter (some b) clock #[] clock) (.pointer (some ⟨w.heap.size, 0, none⟩)) rfl ?_).put hdn hown)
              refine .iter (alloc_heap w _) hSb ((Below.heap_alloc w _ b hlt).trans hb) hst rfl ?_ (fun n d e => by cases e)
              have : (ents.toList.filter fun e => !(#[] : Array Nat).contains e.born) = ents.toList := List.filter_eq_self.2 (by simp)
              rw [this]
              exact hmr.ext (Ext.alloc _ _ _)
          · exact h.elim
      case mnext m =>
        · obtain ⟨G, hG, h⟩ := h
          simp only [sBody] at h
          split at h
          · rename_i d id hd hm
            split at h
            · rename_i kk left cur hob
              obtain ⟨hdn, ⟨h0, h1⟩⟩ := h
              obtain ⟨M, hop, hM⟩ := inv_mnext ho
              have e1 := ev_sound hs hM
              rw [hm] at e1
              have e4 := hs.obs id _ hob
              have hown := hs.own id
              generalize hz : a.eval M = p at e1
              cases e1
              generalize hφ : φ id = q at e4 hz
              cases e4 with
              | @iter _ _ _ r mb since clock seen ents hr hSm hb hst hsc hmr hcur =>
                subst hsc
                have hrS : ¬ S r := (hown _ r hob (by rw [hφ]; rfl)).1
                rcases run_next_at (P := P) w o.type r mb since since seen ents since hr hb hst.2 (Nat.le_refl _) with ⟨hl0, hrun⟩ | ⟨e, hel, w1, hw1, hrun⟩
                · have hl0 : left = [] := by
                    have h2 := hmr.get.1
                    have h3 : (leftOf ents seen).toList.length = 0 := by simpa using hl0
                    unfold leftOf at h3
                    rw [Array.toList_filter, h2] at h3
                    exact List.eq_nil_of_length_eq_zero h3
                  have hrunO : (execOp a.eval o).run P w = .ok (.value (.tuple #[.bool false])) w := by
                    simp [execOp, hop, hz, hrun, Result.andThen]
                  refine wpl_val (guard_none hgd) hrunO ?_
                  rw [hd]
                  exact IH _ (h0 hl0) all l' hl x S _ _ _ hx (hs.put hdn (.tup (vs := [.bool false]) rfl fun j r v hj hv => by
                    match j with
                    | 0 => simp at hj hv; subst hj; subst hv; exact mk_bool _
                    | j + 1 => simp at hj))
                · have hel' : e ∈ ents.toList.filter fun e => !seen.contains e.born := by
                    unfold leftOf at hel; rw [Array.toList_filter] at hel; exact hel
                  obtain ⟨l1, l2, hl12⟩ := List.append_of_mem hel'
                  rw [hl12] at hmr
                  obtain ⟨pre, n, v, post, rfl, hm1, hm2, hk1, hk2, hk3⟩ := MapR.split hmr
                  have hrunO : (execOp a.eval o).run P w = .ok (.value (.tuple #[.bool true, e.key, e.val])) (ChangeMaps.setBlock w1 r (.mapIter (some mb) since (seen.push e.born) since)) := by
                    simp [execOp, hop, hz, hrun, Result.andThen]
                  refine wpl_val (guard_none hgd) hrunO ?_
                  rw [hd]
                  have hr1 : w1.heap[r]? = some (.mapIter (some mb) since seen since) := by rcases hw1 with rfl | rfl <;> exact hr
                  have hext : Ext (fun c => c ≠ r) w (ChangeMaps.setBlock w1 r (.mapIter (some mb) since (seen.push e.born) since)) := by
                    have h1 : Ext (fun c => c ≠ r) w1 (ChangeMaps.setBlock w1 r (.mapIter (some mb) since (seen.push e.born) since)) := ⟨rfl, rfl, rfl, by simp [ChangeMaps.setBlock], fun c hc hl => (MapKept.heap_set hr1).2 c hc⟩
                    rcases hw1 with rfl | rfl
                    · exact h1
                    · exact (Ext.drew _ w).trans h1
                  have hmr2 : mb ≠ r := fun e => hrS (e ▸ hSm)
                  have hextS : Ext S w (ChangeMaps.setBlock w1 r (.mapIter (some mb) since (seen.push e.born) since)) := hext.mono fun c hc e => hrS (e ▸ hc)
                  have hsim := hs.upd id (.iter kk (pre ++ post) (some (n, v))) _ _ hob (by rw [hφ]; exact hext.mono fun c hc e => hc (by simp [Value.blk, e])) (by
                    rw [hφ]
                    refine .iter (MapKept.heap_set hr1).1 hSm ((hext.block mb hmr2 (Array.getElem?_eq_some_iff.1 hb).1).trans hb) hst rfl ?_ (fun n' d' e' => ?_)
                    · rw [filter_push hst.1 hl12]; exact hm1.ext hextS
                    · cases e'
                      exact ⟨seen, e, rfl, (List.mem_filter.1 hel').1, hm2.ext hextS⟩)
                  refine IH _ (h1 pre n v post rfl hk2) all l' hl x S _ _ _ hx (hsim.put hdn (.tup (vs := [.bool true, e.key, e.val]) rfl fun j r v' hj hv => ?_))
                  match j with
                  | 0 => simp at hj hv; subst hj; subst hv; exact mk_bool _
                  | 1 => simp at hj hv; subst hj; subst hv; rw [hk1]; exact keyAv_rel hk2
                  | 2 => simp at hj hv; subst hj; subst hv; exact argR_av (hk3.ext hextS)
                  | j + 3 => simp at hj
            · exact h.elim
          · exact h.elim
      case mentry m =>
        · obtain ⟨G, hG, h⟩ := h
          simp only [sBody] at h
          split at h
          · rename_i d id hd hm
            split at h
            · rename_i kk left n v hob
              obtain ⟨hdn, hkk⟩ := h
              obtain ⟨M, hop, hM⟩ := inv_mentry ho
              have e1 := ev_sound hs hM
              rw [hm] at e1
              have e4 := hs.obs id _ hob
              generalize hz : a.eval M = p at e1
              cases e1
              generalize hφ : φ id = q at e4 hz
              cases e4 with
              | @iter _ _ _ r mb since clock seen ents hr hSm hb hst hsc hmr hcur =>
                obtain ⟨sn, e, rfl, he, hme⟩ := hcur n v rfl
                have hrun := run_entry_at (P := P) w r mb since sn ents clock e hr hb he hst.1
                have hrunO : (execOp a.eval o).run P w = .ok (.value (.tuple #[e.key, e.val])) w := by
                  simp [execOp, hop, hz, hrun, Result.andThen]
                refine wpl_val (guard_none hgd) hrunO ?_
                rw [hd]
                refine IH _ hkk all l' hl x S _ _ _ hx (hs.put hdn (.tup (vs := [e.key, e.val]) rfl fun j r v' hj hv => ?_))
                cases hme with
                | cons hk1 hk2 hk3 _ =>
                match j with
                | 0 => simp at hj hv; subst hj; subst hv; rw [hk1]; exact keyAv_rel hk2
                | 1 => simp at hj hv; subst hj; subst hv; exact argR_av hk3
                | j + 2 => simp at hj
            · exact h.elim
          · exact h.elim
      case call f ys =>
        · obtain ⟨G, hG, h⟩ := h
          simp only [sBody] at h
          obtain ⟨args, ts, hop, hys⟩ := inv_call ho
          have hrun : callB P f = true → (execOp a.eval o).run P w = .ok (.enter f (args.toList.map a.eval).toArray) w := fun hb => by
            have : args.map a.eval = (args.toList.map a.eval).toArray := by apply Array.ext'; simp
            simp [execOp, hop, resolve, Act.eval, Deferred.ofValue, invoke, run_callFunc hb, this]
          split at h
          · rename_i d hd
            obtain ⟨hdn, h⟩ := h
            obtain ⟨m1, m2⟩ := map_eval hs hys
            refine call_step hx (guard_none hgd) hd hl hrun IH h hs hdn (by rw [List.map_map]; rfl) m1 m2 (fun hh => ?_)
            simpa [List.any_map] using hh
          · rename_i d gg hd
            obtain ⟨hdn, hob, h⟩ := h
            cases h with
            | t hGt h =>
              subst hGt
              refine wpl_unguard (wanted_of hs hgd hG) ?_
              obtain ⟨q1, q2⟩ := map_eval hs.strip hys
              exact call_step (o := { o with guard := none }) hx rfl hd hl hrun IH h hs.strip hdn rfl q1 q2 (fun h => h)
            | f hGf h =>
              subst hGf
              refine wpl_guard (wanted_of hs hgd hG) (fun h => by cases h) (fun _ => ?_)
              rw [hd]
              exact IH _ h all l' hl x S φ _ _ hx (hs.put hdn (.opt (fun h => by cases h) (fun _ => rfl)))
            | mk0 v hF hk =>
            refine wpl_guard (wanted_of hs hgd hG) (fun hGt K hK => ?_) (fun hGf => ?_)
            · subst hGt
              have hF := hF rfl
              unfold Oper.wp
              rw [hrun hF.1]
              obtain ⟨h1, h2⟩ := compXs_sound hys
              refine (call_sound (as := ys.map fun y => ((σ.ev y).val true).1) hs hx (rs := [.c (.sc _)]) (by simp) (by rw [List.map_map]; exact hF) (by simp [h1]) (fun j r u hr hu => ?_) (fun _ r hr => by simp at hr; subst hr; trivial)).mono ?_
              · simp only [List.getElem?_map, Option.map_eq_some_iff] at hr hu
                obtain ⟨y, hy, rfl⟩ := hr
                obtain ⟨X, hX, rfl⟩ := hu
                exact arg_sound hs rfl (h2 j X y hX hy) (valObs_get (hob rfl) j y hy)
              · rintro e' w' ⟨u, rfl, hh⟩
                obtain ⟨S', ψ, hsim⟩ := hh d hdn
                refine hK _ _ ?_
                rw [hd]
                refine IH _ hk all l' hl x S' ψ _ _ hx ?_
                simp only [St.putRes, St.res1] at hsim
                have hget := hsim.tms d
                rw [get_put, if_pos rfl] at hget
                have hval : (a.put (some d) u).tmps.getD d undef = u := by
                  simp only [Act.put]
                  rw [getD_setIfInBounds _ _ _ _ (by rw [hs.size]; exact hdn), if_pos rfl]
                rw [hval] at hget
                refine ⟨fun t => ?_, hsim.size, hsim.obs, hsim.own, hsim.inj, hsim.inr, hsim.dat, hsim.ext, hsim.defers, hsim.small, hsim.pins⟩
                have := hsim.tms t
                rw [get_put] at this ⊢
                split
                · rename_i ht
                  rw [if_pos ht] at this
                  exact .opt (fun _ => this) (fun h => by cases h)
                · rename_i ht
                  rw [if_neg ht] at this
                  exact this
            · subst hGf
              rw [hd]
              exact IH _ hk all l' hl x S φ _ _ hx (hs.put hdn (.opt (fun h => by cases h) (fun _ => rfl)))
          · exact h.elim
      case callv y ys =>
        · obtain ⟨G, hG, h⟩ := h
          simp only [sBody] at h
          obtain ⟨Y, args, ts, hop, hY, hys⟩ := inv_callv ho
          have hev := ev_sound hs hY
          obtain ⟨m1, m2⟩ := map_eval hs hys
          have hrun : ∀ (f : Nat) (caps : List Value), a.eval Y = .func (.func f) #[] caps.toArray → callB P f = true → (execOp a.eval o).run P w = .ok (.enter f (args.toList.map a.eval ++ caps).toArray) w := fun f caps hq hb => by
            have : args.map a.eval ++ caps.toArray = (args.toList.map a.eval ++ caps).toArray := by apply Array.ext'; simp
            simp [execOp, hop, resolve, hq, Deferred.ofValue, invoke, run_callFunc hb, this]
          split at h
          · rename_i d p hd hy
            split at h
            · rename_i as has
              split at h
              · rename_i v hv
                obtain ⟨hdn, hk⟩ := h
                rw [hy] at hev
                generalize hq : a.eval Y = q at hev
                cases hev with
                | @pf _ f caps hp =>
                  obtain ⟨hb, hp⟩ := hp
                  obtain ⟨t1, t2⟩ := toArgs_get has
                  obtain ⟨hsc, hcall⟩ := hp w S as (args.toList.map a.eval) v hs.ext (fun b hb => (hs.dat b hb).1) hv (by rw [m1, t1]) (fun i y u hy' hu => by
                    have hil : i < (ys.map σ.ev).length := by rw [← m1]; exact (List.getElem?_eq_some_iff.1 hu).1
                    exact arg_of (m2 i _ u (List.getElem?_eq_getElem hil) hu) (t2 i _ y (List.getElem?_eq_getElem hil) hy'))
                  rw [hx] at hcall
                  refine wpl_enter (guard_none hgd) (hrun f caps hq (by rw [← hx]; exact hb)) (hcall.mono ?_)
                  rintro e' w' ⟨rfl, hbel⟩
                  refine ⟨v, rfl, ?_⟩
                  rw [hd]
                  exact IH _ hk all l' hl x S φ _ _ hx ((hs.world (Ext.of_below hbel All)).put hdn (.c (.sc hsc)))
              · exact h.elim
            · exact h.elim
          · rename_i d f caps hd hy
            obtain ⟨hdn, h⟩ := h
            rw [hy] at hev
            generalize hq : a.eval Y = q at hev
            cases hev with
            | @fn _ _ vs hlv hrv =>
              refine call_step (as := ys.map σ.ev ++ caps) hx (guard_none hgd) hd hl (hrun f vs hq) IH h hs hdn (by rw [List.map_append, List.map_map]; rfl) (by simp [hlv]; simpa using m1) (fun j r u hr hu => ?_) (fun hh => ?_)
              · rcases Nat.lt_or_ge j (ys.map σ.ev).length with hj | hj
                · rw [List.getElem?_append_left hj] at hr
                  rw [List.getElem?_append_left (by omega)] at hu
                  exact m2 j r u hr hu
                · rw [List.getElem?_append_right hj] at hr
                  rw [List.getElem?_append_right (by omega), m1] at hu
                  exact hrv _ r u hr hu
              · simpa [List.any_append, List.any_map] using hh
          · exact h.elim
theorem AL_step {Q : Exit → St → Prop} {K : St → Prop} {rest : List AP} (IH : ∀ τ, K τ → AL P rest Q τ) (p : AP) (σ : St) (h : step1 P K p.dst p.op p.g σ) : AL P (p :: rest) Q σ := by
  unfold step1 sGuard at h
  split at h
  · exact h.elim
  · rename_i G hG
    split at h
    · rename_i hg
      exact AL_stepB IH p σ ⟨G, hG, by rw [hg]; exact h⟩
    · rename_i gg hg
      cases hh : p.op.hardK with
      | false => rw [hh] at h; exact AL_stepB IH p σ ⟨G, hG, by rw [hg]; exact h⟩
      | true =>
        rw [hh] at h
        simp only [cond_true] at h
        intro all l hc x S φ a w hx hs
        obtain ⟨o, l', rfl, ho, hdst, hgd, hl⟩ := compOps_cons hc
        have hgn : guardOf σ p.g = some G := hG
        split at h
        · refine wpl_unguard (wanted_of hs hgd hgn) ?_
          refine AL_stepB IH ⟨p.dst, p.op, none⟩ σ.strip ⟨true, rfl, h⟩ all ({ o with guard := none } :: l') ?_ x S φ a w hx hs.strip
          have h1 : compOp P { o with guard := none } = compOp P o := rfl
          simp only [compOps, h1, ho, compGuard, hl, hdst]
        · refine wpl_guard (wanted_of hs hgd hgn) (fun h => by cases h) (fun _ => ?_)
          rw [← hdst]
          cases hd : p.dst with
          | none => rw [hd] at h; exact IH _ h all l' hl x S φ _ _ hx hs
          | some d =>
            rw [hd] at h
            exact IH _ h.2 all l' hl x S φ _ _ hx (hs.put h.1 (.opt (fun h => by cases h) (fun _ => rfl)))
theorem AL_of_steps {Q : Exit → St → Prop} : ∀ (aps : List AP) (σ : St), steps P Q aps σ → AL P aps Q σ
  | [], σ, h => fun all l hc x S φ a w hx hs => by
    cases l with
    | nil => exact wpList_nil ⟨σ, S, φ, h, hs⟩
    | cons o l => simp only [compOps] at hc; split at hc <;> simp at hc
  | p :: rest, σ, h => AL_step (fun τ => AL_of_steps rest τ) p σ (by simpa only [steps] using h)
end
end Go.AL

namespace Go.AL
open Go Go.RowKit
def RV.data : RV → Prop
  | .own _ _ _ => False
  | _ => True
def RV.av : RV → AV
  | .c d => .c d
  | .agg cs => .agg (cs.map AV.c)
  | .own _ _ _ => .any
def resAV : List RV → AV
  | [r] => r.av
  | rs => .tup (rs.map RV.av)
def St.only (σ : St) (L : List Nat) : St := { σ with tm := L.map fun t => (t, σ.get t) }
theorem get_only (σ : St) (t : Nat) : ∀ L : List Nat, (σ.only L).get t = if t ∈ L then σ.get t else .any
  | [] => by simp [St.only, St.get, St.get.go]
  | s :: L => by
    have ih := get_only σ t L
    simp only [St.only, St.get, List.map_cons, St.get.go] at ih ⊢
    cases hb : Nat.beq t s with
    | true =>
      have := Nat.eq_of_beq_eq_true hb; subst this
      simp
    | false =>
      have hne : t ≠ s := fun e => by subst e; rw [Nat.beq_refl] at hb; cases hb
      simp only [cond_false, List.mem_cons, hne, false_or]
      exact ih
def callArgs (G : Bool) (σ : St) (args : List AX) : List AV := args.map fun x => σ.arg ((σ.ev x).val G).1
def callLends (G : Bool) (σ : St) (args : List AX) : Bool := args.any fun x => ((σ.ev x).val G).1.lends
def StillOk (P : Program) (σ : St) (op : AK) (g : Option (Nat × Bool)) (r : AV) : Prop :=
  ∃ G, guardOf σ g = some G ∧ match op with
  | .bslice _ k parts => ∃ xs, elems (parts.map fun x => ((σ.ev x).val G).1) = some xs ∧ (G = true → valObs G σ parts) ∧ lensOk k xs ∧ (r = AV.under g G (.c (.sl k xs)) ∨ g = none ∧ r = .full k xs)
  | .call f args => ∃ rs, (∀ r ∈ rs, r.data) ∧ (G = true → valObs G σ args) ∧ (G = true → FnR P f (callArgs G σ args) rs) ∧ (callLends G σ args = true → ∀ r ∈ rs, r.flatP) ∧ r = AV.under g G (resAV rs)
  | .callv y args => match ((σ.ev y).val G).1 with
    | .pf p => ∃ as v, toArgs (args.map fun y => ((σ.ev y).val G).1) = some as ∧ (G = true → p as = some v) ∧ (G = true → ((σ.ev y).val G).2) ∧ (G = true → valObs G σ args) ∧ r = AV.under g G (.c (.sc v))
    | .fn f caps => ∃ rs, (∀ r ∈ rs, r.data) ∧ (G = true → ((σ.ev y).val G).2) ∧ (G = true → valObs G σ args) ∧ (G = true → FnR P f (callArgs G σ args ++ caps.map σ.arg) rs) ∧ ((callLends G σ args || caps.any AV.lends) = true → ∀ r ∈ rs, r.flatP) ∧ r = AV.under g G (resAV rs)
    | _ => False
  | op => ∃ v ob, op.isPure = true ∧ pop G σ op = some (v, ob) ∧ (G = true → ob) ∧ r = AV.under g G v
structure Grow (S : Nat → Prop) (w : World) (S' : Nat → Prop) (w' : World) : Prop where
  ext : Ext All w w'
  inc : ∀ b, S b → S' b
  new : ∀ b, S' b → ¬ S b → w.heap.size ≤ b ∧ b < w'.heap.size
theorem Grow.refl (S : Nat → Prop) (w : World) : Grow S w S w := ⟨Ext.refl _ _, fun _ h => h, fun _ h hn => absurd h hn⟩
section
variable {x : Ctx} {S : Nat → Prop} {φ : Nat → Value} {σ : St} {a : Act} {w : World} {P : Program}
theorem Sim.grow (hs : Sim x S φ σ a w) {S' : Nat → Prop} {w' : World} (h : Grow S w S' w') : Sim x S' φ σ a w' :=
  (hs.world h.ext).more h.inc fun b hb hn => by
    obtain ⟨h1, h2⟩ := h.new b hb hn
    exact ⟨h2, .inr (.inl (Nat.le_trans hs.ext.size h1)), fun id o ho => hs.free h.ext h1 ho⟩
theorem Sim.get_congr (hs : Sim x S φ σ a w) {τ : St} (hn : τ.n = σ.n) (ho : τ.ob = σ.ob) (hg : ∀ t, τ.get t = .any ∨ τ.get t = σ.get t) : Sim x S φ τ a w where
  tms := fun t => by
    rcases hg t with h | h
    · rw [h]; exact .any
    · rw [h]; exact hs.tms t
  size := hs.size.trans hn.symm
  obs := fun id o h => hs.obs id o (ho ▸ h)
  own := fun id o b h => hs.own id o b (ho ▸ h)
  inj := fun id id' o o' b h h' => hs.inj id id' o o' b (ho ▸ h) (ho ▸ h')
  inr := fun id o b h hb => let ⟨g1, g2⟩ := hs.inr id o b (ho ▸ h) hb; ⟨g1, fun id' o' h' => g2 id' o' (ho ▸ h')⟩
  dat := hs.dat
  ext := hs.ext
  defers := hs.defers
  small := hn ▸ hs.small
  pins := hs.pins
theorem resAV_rel {rs : List RV} {us : List Value} (hl : us.length = rs.length) (hd : ∀ r ∈ rs, r.data) (hr : ∀ (i : Nat) (r : RV) (v : Value), rs[i]? = some r → us[i]? = some v → RV1 w S r v) : AVR x w S φ (resAV rs) (retValue us) := by
  have h1 : ∀ (i : Nat) (r : RV) (v : Value), rs[i]? = some r → us[i]? = some v → AVR x w S φ r.av v := by
    intro i r v hri hv
    have := hr i r v hri hv
    cases r with
    | c d => exact .c this
    | agg cs =>
      obtain ⟨vs, rfl, hl, h⟩ := this
      exact aggC hl h
    | own => exact (hd _ (List.mem_of_getElem? hri)).elim
  have gen : us.length ≠ 1 → AVR x w S φ (.tup (rs.map RV.av)) (retValue us) := by
    intro hne
    have : retValue us = .tuple us.toArray := by
      unfold retValue
      split
      · exact absurd rfl hne
      · rfl
    rw [this]
    refine .tup (by simpa using hl) fun j r v hrj hv => ?_
    simp only [List.getElem?_map, Option.map_eq_some_iff] at hrj
    obtain ⟨r0, h0, rfl⟩ := hrj
    exact h1 j r0 v h0 hv
  unfold resAV
  split
  · rename_i r
    match us, hl with
    | [v], _ => exact h1 0 r v rfl rfl
  · rename_i hne
    refine gen fun he => ?_
    match rs, hl with
    | [r], _ => exact hne r rfl
    | [], hl => simp at hl; rw [hl] at he; simp at he
    | _ :: _ :: _, hl => simp at hl; omega
theorem call_still (hs : Sim x S φ σ a w) (hx : x.P = P) {f : Nat} {as : List AV} {rs : List RV} (hF : FnR P f (as.map σ.arg) rs) (hd : ∀ r ∈ rs, r.data) {vs : List Value} (hl : vs.length = as.length)
    (hargs : ∀ (j : Nat) (r : AV) (v : Value), as[j]? = some r → vs[j]? = some v → AVR x w S φ r v) (hfl : as.any AV.lends = true → ∀ r ∈ rs, r.flatP) :
    Calls P f vs.toArray w fun e w' => ∃ v S', e = .returned v ∧ AVR x w' S' φ (resAV rs) v ∧ Grow S w S' w' := by
  have hlt : ∀ b, lentS S φ σ b → b < w.heap.size := fun b hb => by
    rcases hb with hb | ⟨id, o, ho, hb⟩
    · exact (hs.dat b hb).1
    · exact (hs.own id o b ho hb).2.1
  have key : ∀ T : Nat → Prop, (∀ b, S b → T b) → (∀ b, T b → b < w.heap.size) → (as.any AV.lends = true → ∀ b, lentS S φ σ b → T b) → (as.any AV.lends = true ∨ T = S) →
      Calls P f vs.toArray w fun e w' => ∃ v S', e = .returned v ∧ AVR x w' S' φ (resAV rs) v ∧ Grow S w S' w' := by
    intro T hST hTlt hlend hor
    refine (hF.2 w T φ vs hTlt (by simpa using hl) fun j r v hr hv => ?_).mono ?_
    · simp only [List.getElem?_map, Option.map_eq_some_iff] at hr
      obtain ⟨r0, hr0, rfl⟩ := hr
      refine arg_rel hs hx (hargs j r0 v hr0 hv) hST (fun hle => hlend ?_) φ
      exact List.any_eq_true.2 ⟨r0, List.mem_of_getElem? hr0, hle⟩
    · rintro e w' ⟨us, S', rfl, hres, hbel⟩
      rcases hor with hle | hTS
      · refine ⟨_, S, rfl, resAV_rel hres.len hd fun i r v hr hv => RV1.flat (hfl hle r (List.mem_of_getElem? hr)) (hres.rel i r v hr hv), ⟨Ext.of_below hbel All, fun _ h => h, fun _ h hn => absurd h hn⟩⟩
      · subst hTS
        exact ⟨_, S', rfl, resAV_rel hres.len hd hres.rel, ⟨Ext.of_below hbel All, hres.inc, fun b hb hn => ⟨(hres.new b hb).resolve_left hn, hres.lt b hb⟩⟩⟩
  by_cases hle : as.any AV.lends = true
  · exact key (lentS S φ σ) (fun b hb => .inl hb) hlt (fun _ _ h => h) (.inl hle)
  · exact key S (fun _ h => h) (fun b hb => (hs.dat b hb).1) (fun h => absurd h hle) (.inr rfl)
theorem still_op (hs : Sim x S φ σ a w) (hx : x.P = P) {all : Array Oper} {o : Oper} {k : AK} {g : Option (Nat × Bool)} (ho : compOp P o = some k) (hgd : compGuard all o.guard = some g) {r : AV} (h : StillOk P σ k g r) :
    (Region.wanted o (yielded all a.tmps) = true ∧ ∀ (K : Act → World → Prop) (Q : Exit → Act → World → Prop), (∀ v S' w', AVR x w' S' φ r v → Grow S w S' w' → K (a.put o.dst v) w') → o.wp P a w K Q) ∨
    (Region.wanted o (yielded all a.tmps) = false ∧ AVR x w S φ r undef) := by
  obtain ⟨G, hG, h⟩ := h
  have hgn : g = none → G = true := fun h => by subst h; simpa [guardOf] using hG.symm
  have hw := wanted_of hs hgd hG
  cases hGG : G with
  | false =>
    subst hGG
    refine .inr ⟨hw, ?_⟩
    have : ∀ v, AVR x w S φ (AV.under g false v) undef := fun v => under_sound hgn (fun h => by cases h) (fun _ => rfl)
    cases k
    case bslice =>
      obtain ⟨_, _, _, _, rfl | ⟨h, _⟩⟩ := h
      · exact this _
      · exact absurd (hgn h) (by decide)
    case call => obtain ⟨_, _, _, _, _, rfl⟩ := h; exact this _
    case callv =>
      simp only [] at h
      split at h
      · obtain ⟨_, _, _, _, _, _, rfl⟩ := h; exact this _
      · obtain ⟨_, _, _, _, _, _, rfl⟩ := h; exact this _
      · exact h.elim
    all_goals (obtain ⟨_, _, _, _, _, rfl⟩ := h; exact this _)
  | true =>
    subst hGG
    refine .inl ⟨hw, fun K Q hK => ?_⟩
    have pure : ∀ v ob, k.isPure = true → pop true σ k = some (v, ob) → ob → r = AV.under g true v → o.wp P a w K Q := by
      intro v ob hp hpop hob hr
      obtain ⟨u, hv, hrun⟩ := pop_sound (P := P) hs ho hpop hob
      unfold Oper.wp
      rw [hrun w (.inr (Ext.refl _ _))]
      refine hK _ S w ?_ (Grow.refl _ _)
      rw [hr]; exact under_sound hgn (fun _ => hv) (fun h => by cases h)
    cases k
    case bslice e k ys =>
      obtain ⟨xs, hxs, hob, hlen, hr⟩ := h
      obtain ⟨t, len, parts, hop, hu, hsp, hk, hyl, hm, hz⟩ := inv_bslice ho
      obtain ⟨v, ob, hrun, hv, _, _, A0, hA0⟩ := bslice_sound hs hu hsp hk hyl hm (hob rfl) hxs hlen hz
      have hvr : AVR x (w.alloc ob) (fun b => S b ∨ b = w.heap.size) φ r v := by
        rcases hr with rfl | ⟨rfl, rfl⟩
        · exact under_sound hgn (fun _ => hv) (fun h => by cases h)
        · subst hA0
          cases hv with
          | c h => exact .full h
      unfold Oper.wp
      have : (execOp a.eval o).run P w = .ok (.value v) (w.alloc ob) := by simp only [execOp, hop, Sem.run_bind, hrun, Result.andThen_ok, Sem.run_pure]
      rw [this]
      refine hK _ (fun b => S b ∨ b = w.heap.size) _ hvr ⟨Ext.alloc _ _ _, fun b hb => .inl hb, fun b hb hn => ?_⟩
      have := hb.resolve_left hn
      subst this
      exact ⟨Nat.le_refl _, by simp⟩
    case call f ys =>
      obtain ⟨rs, hd, hob, hF, hfl, rfl⟩ := h
      obtain ⟨args, ts, hop, hys⟩ := inv_call ho
      have hF := hF rfl
      have hrun : (execOp a.eval o).run P w = .ok (.enter f (args.toList.map a.eval).toArray) w := by
        have : args.map a.eval = (args.toList.map a.eval).toArray := by apply Array.ext'; simp
        simp [execOp, hop, resolve, Act.eval, Deferred.ofValue, invoke, run_callFunc hF.1, this]
      unfold Oper.wp
      rw [hrun]
      obtain ⟨h1, h2⟩ := compXs_sound hys
      refine (call_still (as := ys.map fun y => ((σ.ev y).val true).1) hs hx (by rw [List.map_map]; exact hF) hd (by simp [h1]) (fun j r u hr hu => ?_) (fun hh => hfl (by simpa [callLends, List.any_map] using hh))).mono ?_
      · simp only [List.getElem?_map, Option.map_eq_some_iff] at hr hu
        obtain ⟨y, hy, rfl⟩ := hr
        obtain ⟨X, hX, rfl⟩ := hu
        exact arg_sound hs rfl (h2 j X y hX hy) (valObs_get (hob rfl) j y hy)
      · rintro e' w' ⟨u, S', rfl, hh, hg⟩
        exact hK _ S' w' (under_sound hgn (fun _ => hh) (fun h => by cases h)) hg
    case callv y ys =>
      simp only [] at h
      obtain ⟨Y, args, ts, hop, hY, hys⟩ := inv_callv ho
      obtain ⟨h1, h2⟩ := compXs_sound hys
      have hrun : ∀ (f : Nat) (caps : List Value), a.eval Y = .func (.func f) #[] caps.toArray → callB P f = true → (execOp a.eval o).run P w = .ok (.enter f (args.toList.map a.eval ++ caps).toArray) w := fun f caps hq hb => by
        have : args.map a.eval ++ caps.toArray = (args.toList.map a.eval ++ caps).toArray := by apply Array.ext'; simp
        simp [execOp, hop, resolve, hq, Deferred.ofValue, invoke, run_callFunc hb, this]
      have hag : valObs true σ ys → ∀ (j : Nat) (r : AV) (u : Value), (ys.map fun y => ((σ.ev y).val true).1)[j]? = some r → (args.toList.map a.eval)[j]? = some u → AVR x w S φ r u := by
        intro hob j r u hr hu
        simp only [List.getElem?_map, Option.map_eq_some_iff] at hr hu
        obtain ⟨y, hy, rfl⟩ := hr
        obtain ⟨X, hX, rfl⟩ := hu
        exact arg_sound hs rfl (h2 j X y hX hy) (valObs_get hob j y hy)
      split at h
      · rename_i p hp
        obtain ⟨as, v, has, hv, hyo, hob, rfl⟩ := h
        have hev := arg_sound hs rfl hY (hyo (by trivial))
        rw [hp] at hev
        generalize hq : a.eval Y = q at hev
        cases hev with
        | @pf _ f caps hp =>
          obtain ⟨hb, hp⟩ := hp
          obtain ⟨t1, t2⟩ := toArgs_get has
          obtain ⟨hsc, hcall⟩ := hp w S as (args.toList.map a.eval) v hs.ext (fun b hb => (hs.dat b hb).1) (hv (by trivial)) (by simpa [← t1] using h1) (fun i y u hy' hu => by
            have hil : i < (ys.map fun y => ((σ.ev y).val true).1).length := by simp [← h1]; have := (List.getElem?_eq_some_iff.1 hu).1; simpa using this
            exact arg_of (hag (hob (by trivial)) i _ u (List.getElem?_eq_getElem hil) hu) (t2 i _ y (List.getElem?_eq_getElem hil) hy'))
          rw [hx] at hcall
          unfold Oper.wp
          rw [hrun f caps hq (by rw [← hx]; exact hb)]
          refine hcall.mono ?_
          rintro e' w' ⟨rfl, hbel⟩
          exact hK _ S w' (under_sound hgn (fun _ => .c (.sc hsc)) (fun h => by cases h)) ⟨Ext.of_below hbel All, fun _ h => h, fun _ h hn => absurd h hn⟩
      · rename_i f caps hp
        obtain ⟨rs, hd, hyo, hob, hF, hfl, rfl⟩ := h
        have hF := hF (by trivial)
        have hev := arg_sound hs rfl hY (hyo (by trivial))
        rw [hp] at hev
        generalize hq : a.eval Y = q at hev
        cases hev with
        | @fn _ _ vs hlv hrv =>
          unfold Oper.wp
          rw [hrun f vs hq hF.1]
          refine (call_still (as := (ys.map fun y => ((σ.ev y).val true).1) ++ caps) hs hx (by rw [List.map_append, List.map_map]; exact hF) hd (by simp [hlv]; simpa using h1) (fun j r u hr hu => ?_) (fun hh => hfl (by simpa [callLends, List.any_append, List.any_map] using hh))).mono ?_
          · rcases Nat.lt_or_ge j (ys.map fun y => ((σ.ev y).val true).1).length with hj | hj
            · rw [List.getElem?_append_left hj] at hr
              rw [List.getElem?_append_left (by have := h1; simp at this hj ⊢; omega)] at hu
              exact hag (hob (by trivial)) j r u hr hu
            · rw [List.getElem?_append_right hj] at hr
              rw [List.getElem?_append_right (by have := h1; simp at this hj ⊢; omega)] at hu
              refine hrv _ r u hr ?_
              rw [← hu]; simp [h1]
          · rintro e' w' ⟨u, S', rfl, hh, hg⟩
            exact hK _ S' w' (under_sound hgn (fun _ => hh) (fun h => by cases h)) hg
      · exact h.elim
    all_goals (obtain ⟨v, ob, hp, hpop, hob, hr⟩ := h; exact pure v ob hp hpop (hob rfl) hr)
end
end Go.AL

namespace Go.AL
open Go Go.RowKit
inductive SD (P : Program) (Q : Exit → St → Prop) : List (AP × List Nat) → St → Prop
  | nil {σ : St} (h : Q .normal σ) : SD P Q [] σ
  | cons {op : AK} {g : Option (Nat × Bool)} {d : Nat} {L : List Nat} {rest : List (AP × List Nat)} {σ : St} {r : AV} (h : StillOk P (σ.only L) op g r) (hd : d < σ.n) (hk : SD P Q rest (σ.put d r)) : SD P Q ((⟨some d, op, g⟩, L) :: rest) σ
def stAt (σ : St) (ps : List (Nat × AV)) (lst : Nat → Bool) : Nat → St
  | 0 => σ
  | k + 1 => match ps[k]? with
    | some (d, r) => bif lst k then (stAt σ ps lst k).put d r else stAt σ ps lst k
    | none => stAt σ ps lst k
theorem stAt_n (σ : St) (ps : List (Nat × AV)) (lst : Nat → Bool) : ∀ k, (stAt σ ps lst k).n = σ.n
  | 0 => rfl
  | k + 1 => by
    simp only [stAt]
    split
    · cases lst k
      · exact stAt_n σ ps lst k
      · exact stAt_n σ ps lst k
    · exact stAt_n σ ps lst k
theorem stAt_ob (σ : St) (ps : List (Nat × AV)) (lst : Nat → Bool) : ∀ k, (stAt σ ps lst k).ob = σ.ob
  | 0 => rfl
  | k + 1 => by
    simp only [stAt]
    split
    · cases lst k
      · exact stAt_ob σ ps lst k
      · exact stAt_ob σ ps lst k
    · exact stAt_ob σ ps lst k
theorem stAt_step (σ : St) (ps : List (Nat × AV)) (lst : Nat → Bool) (k t : Nat) :
    (stAt σ ps lst (k + 1)).get t = match ps[k]? with
      | some (d, r) => if t = d ∧ lst k = true then r else (stAt σ ps lst k).get t
      | none => (stAt σ ps lst k).get t := by
  simp only [stAt]
  split
  · rename_i d r hp
    cases hl : lst k with
    | false => simp [hp]
    | true => simp [hp, get_put]
  · rename_i hp; simp [hp]
theorem stAt_agree {σ : St} {ps : List (Nat × AV)} {l l' : Nat → Bool} {t : Nat} : ∀ k, (∀ j r, j < k → ps[j]? = some (t, r) → l j = l' j) → (stAt σ ps l k).get t = (stAt σ ps l' k).get t
  | 0, _ => rfl
  | k + 1, h => by
    rw [stAt_step, stAt_step, stAt_agree k fun j r hj hp => h j r (by omega) hp]
    split
    · rename_i d r hp
      by_cases ht : t = d
      · subst ht; rw [h k r (by omega) hp]
      · simp [ht]
    · rfl
theorem stAt_cut {σ : St} {ps : List (Nat × AV)} {l : Nat → Bool} {t i : Nat} : ∀ k, (∀ j r, i ≤ j → j < i + k → ps[j]? = some (t, r) → l j = false) → (stAt σ ps l (i + k)).get t = (stAt σ ps l i).get t
  | 0, _ => rfl
  | k + 1, h => by
    rw [← stAt_cut k fun j r hj hk hp => h j r hj (by omega) hp, show i + (k + 1) = i + k + 1 from rfl, stAt_step]
    split
    · rename_i d r hp
      by_cases ht : t = d
      · subst ht; rw [h (i + k) r (by omega) (by omega) hp]; simp
      · simp [ht]
    · rfl
theorem stAt_cons (σ : St) (d : Nat) (r : AV) (ps : List (Nat × AV)) : ∀ k, stAt σ ((d, r) :: ps) (fun _ => true) (k + 1) = stAt (σ.put d r) ps (fun _ => true) k
  | 0 => rfl
  | k + 1 => by
    have ih := stAt_cons σ d r ps k
    rw [show stAt σ ((d, r) :: ps) (fun _ => true) (k + 1 + 1) = match ((d, r) :: ps)[k + 1]? with
      | some (d', r') => bif true then (stAt σ ((d, r) :: ps) (fun _ => true) (k + 1)).put d' r' else stAt σ ((d, r) :: ps) (fun _ => true) (k + 1)
      | none => stAt σ ((d, r) :: ps) (fun _ => true) (k + 1) from rfl, ih]
    simp only [List.getElem?_cons_succ]
    rfl
theorem SD_trace {P : Program} {Q : Exit → St → Prop} {aps : List (AP × List Nat)} {σ : St} (h : SD P Q aps σ) : ∃ ps : List (Nat × AV), ps.length = aps.length ∧ Q .normal (stAt σ ps (fun _ => true) aps.length) ∧
    ∀ i p L, aps[i]? = some (p, L) → ∃ d r, p.dst = some d ∧ ps[i]? = some (d, r) ∧ d < σ.n ∧ StillOk P ((stAt σ ps (fun _ => true) i).only L) p.op p.g r := by
  induction h with
  | nil h => exact ⟨[], rfl, h, fun i p L hp => by simp at hp⟩
  | @cons op g d L rest σ r h hd hk ih =>
    obtain ⟨ps, h1, h2, h3⟩ := ih
    refine ⟨(d, r) :: ps, by simp [h1], ?_, fun i p M hp => ?_⟩
    · rw [List.length_cons, stAt_cons]; exact h2
    · cases i with
      | zero =>
        simp only [List.getElem?_cons_zero, Option.some.injEq, Prod.mk.injEq] at hp
        obtain ⟨rfl, rfl⟩ := hp
        exact ⟨d, r, rfl, rfl, hd, h⟩
      | succ i =>
        obtain ⟨d', r', q1, q2, q3, q4⟩ := h3 i p M (by simpa using hp)
        refine ⟨d', r', q1, by simpa using q2, q3, ?_⟩
        rw [stAt_cons]; exact q4
def Wt (ops : Array Oper) (j i : Nat) : Prop := ∃ o e, ops[j]? = some o ∧ e ∈ o.after ∧ Region.binds .any e = true ∧ e.on = i
theorem lex_facts {ops : Array Oper} : ∀ (fuel k : Nat) (listed : Array Bool), fuel + k = ops.size → listed.size = ops.size → (∀ j, listed.getD j true = false ↔ k ≤ j ∧ j < ops.size) → (∀ j, listed.getD j false = true ↔ j < k) →
    Region.lexFrom .any ops fuel k listed = true → ∀ i, k ≤ i → i < ops.size → (∀ j, Wt ops i j → j < i) ∧ ∀ j oi oj, i < j → ops[i]? = some oi → ops[j]? = some oj → Wt ops j i ∨ oi.apart ops oj = true
  | 0, k, listed, hf, _, _, _, _, i, h1, h2 => by omega
  | fuel + 1, k, listed, hf, hsz, hl, hl', h, i, h1, h2 => by
    simp only [Region.lexFrom, Bool.and_eq_true] at h
    obtain ⟨⟨hr, hfree⟩, hrest⟩ := h
    have hkn : k < ops.size := by omega
    by_cases hik : i = k
    · subst hik
      constructor
      · rintro j ⟨o, e, ho, he, hb, rfl⟩
        have := mem_ready.1 (List.contains_iff_mem.1 hr)
        obtain ⟨_, o', ho', hall⟩ := this
        rw [ho] at ho'; cases ho'
        exact (hl' _).1 (hall e he hb)
      · intro j oi oj hj hoi hoj
        by_cases hw : Wt ops j i
        · exact .inl hw
        · refine .inr (Region.free_spec hoi hfree j oj hoj (by omega) ((hl j).2 ⟨by omega, (Array.getElem?_eq_some_iff.1 hoj).1⟩) fun e he hb heq => hw ⟨oj, e, hoj, he, hb, heq⟩)
    · refine lex_facts fuel (k + 1) (listed.setIfInBounds k true) (by omega) (by simpa using hsz) (fun j => ?_) (fun j => ?_) hrest i (by omega) h2
      · by_cases hjk : k = j
        · subst hjk
          have : k < listed.size := by omega
          simp [this]; omega
        · rw [getD_set_ne true hjk, hl]; omega
      · by_cases hjk : k = j
        · subst hjk
          have : k < listed.size := by omega
          simp [this]
        · rw [getD_set_ne false hjk, hl']; omega
def unl (lst : Nat → Bool) : Nat → Nat
  | 0 => 0
  | k + 1 => unl lst k + (bif lst k then 0 else 1)
theorem unl_zero {lst : Nat → Bool} : ∀ {k}, unl lst k = 0 → ∀ j, j < k → lst j = true
  | 0, _, j, hj => by omega
  | k + 1, h, j, hj => by
    simp only [unl] at h
    by_cases hjk : j = k
    · subst hjk
      cases hl : lst j with
      | true => rfl
      | false => rw [hl] at h; simp at h
    · exact unl_zero (k := k) (by omega) j (by omega)
theorem unl_set {l l' : Nat → Bool} {i : Nat} (h : ∀ j, j ≠ i → l' j = l j) (h1 : l' i = true) (h0 : l i = false) : ∀ k, unl l' k + (if i < k then 1 else 0) = unl l k
  | 0 => by simp [unl]
  | k + 1 => by
    have ih := unl_set h h1 h0 k
    simp only [unl]
    by_cases hk : k = i
    · subst hk
      rw [h1, h0]; simp at ih ⊢; omega
    · rw [h k hk]
      have : (i < k + 1) = (i < k) := by simp; omega
      simp only [this]; omega
theorem compOps_get {P : Program} {all : Array Oper} : ∀ {l : List Oper} {aps : List AP}, compOps P all l = some aps → aps.length = l.length ∧ ∀ (i : Nat) (o : Oper) (p : AP), l[i]? = some o → aps[i]? = some p → compOp P o = some p.op ∧ p.dst = o.dst ∧ compGuard all o.guard = some p.g
  | [], aps, h => by simp [compOps] at h; subst h; simp
  | o :: l, aps, h => by
    simp only [compOps] at h
    split at h
    · rename_i k g as h1 h2 h3
      simp at h; subst h
      obtain ⟨q1, q2⟩ := compOps_get h3
      refine ⟨by simp [q1], fun i o' p ho hp => ?_⟩
      cases i with
      | zero => simp at ho hp; subst ho; subst hp; exact ⟨h1, rfl, h2⟩
      | succ i => exact q2 i o' p (by simpa using ho) (by simpa using hp)
    · cases h
section
variable {x : Ctx} {S : Nat → Prop} {φ : Nat → Value} {σ : St} {a : Act} {w : World} {P : Program}
theorem SD_sound {Q : Exit → St → Prop} {ops : Array Oper} {l : List AP} (hc : compOps P ops ops.toList = some l) (hB : Region.lexB .any ops = true) (hx : x.P = P)
    (h : SD P Q (l.zip (ops.toList.map (Oper.looksAt ops))) σ) (hs : Sim x S φ σ a w) :
    wpAny P .any ops (simQ x Q) ops.size (Array.replicate ops.size false) a w := by
  obtain ⟨hlen, hget⟩ := compOps_get hc
  obtain ⟨ps, hpl, hQ, hps⟩ := SD_trace h
  have hzl : (l.zip (ops.toList.map (Oper.looksAt ops))).length = ops.size := by simp [hlen]
  rw [hzl] at hQ
  have hpl' : ps.length = ops.size := by rw [hpl, hzl]
  simp only [Region.lexB, Bool.and_eq_true] at hB
  have hlex := lex_facts (ops := ops) ops.size 0 (Array.replicate ops.size false) (by omega) (by simp) (fun j => by
    rcases Nat.lt_or_ge j ops.size with h | h
    · simp [h, Array.getElem?_replicate]
    · simp [Nat.not_lt.2 h, Array.getElem?_replicate]) (fun j => by
    rcases Nat.lt_or_ge j ops.size with h | h
    · simp [h, Array.getElem?_replicate]
    · simp [Nat.not_lt.2 h, Array.getElem?_replicate]) (by simpa using hB.2)
  have hop : ∀ i o, ops[i]? = some o → ∃ k g d r, compOp P o = some k ∧ compGuard ops o.guard = some g ∧ o.dst = some d ∧ ps[i]? = some (d, r) ∧ d < σ.n ∧ StillOk P ((stAt σ ps (fun _ => true) i).only (o.looksAt ops)) k g r := by
    intro i o ho
    have hi : i < ops.size := (Array.getElem?_eq_some_iff.1 ho).1
    have hil : i < l.length := by rw [hlen]; simpa using hi
    have ho' : ops.toList[i]? = some o := by simpa using ho
    obtain ⟨q1, q2, q3⟩ := hget i o l[i] ho' (List.getElem?_eq_getElem hil)
    obtain ⟨d, r, e1, e2, e3, e4⟩ := hps i l[i] (o.looksAt ops) (by
      rw [List.getElem?_zip_eq_some]
      exact ⟨List.getElem?_eq_getElem hil, by simp [ho]⟩)
    exact ⟨_, _, d, r, q1, q3, by rw [← q2]; exact e1, e2, e3, e4⟩
  have hwait : ∀ i j oi oj, i < j → ops[i]? = some oi → ops[j]? = some oj → (∃ t, (oi.dst = some t ∧ (t ∈ oj.looksAt ops ∨ oj.dst = some t)) ∨ (oj.dst = some t ∧ t ∈ oi.looksAt ops)) → Wt ops j i := by
    intro i j oi oj hij hi hj ⟨t, ht⟩
    rcases (hlex i (by omega) (Array.getElem?_eq_some_iff.1 hi).1).2 j oi oj hij hi hj with h | h
    · exact h
    · obtain ⟨a1, a2, a3⟩ := Oper.apart_spec h
      rcases ht with ⟨h1, h2 | h2⟩ | ⟨h1, h2⟩
      · exact absurd h2 (a1 t h1)
      · exact absurd h2 (a2 t h1)
      · exact absurd h2 (a3 t h1)
  have main : ∀ (fuel : Nat) (listed : Array Bool) (S : Nat → Prop) (a : Act) (w : World), listed.size = ops.size → (∀ j i, listed.getD j false = true → Wt ops j i → listed.getD i false = true) →
      unl (fun j => listed.getD j false) ops.size ≤ fuel → Sim x S φ (stAt σ ps (fun j => listed.getD j false) ops.size) a w → wpAny P .any ops (simQ x Q) fuel listed a w := by
    have fin : ∀ (listed : Array Bool) (S : Nat → Prop) (a : Act) (w : World), (∀ j, j < ops.size → listed.getD j false = true) → Sim x S φ (stAt σ ps (fun j => listed.getD j false) ops.size) a w → simQ x Q .normal a w := by
      intro listed S a w hall hs
      refine ⟨_, S, φ, hQ, hs.get_congr (by rw [stAt_n, stAt_n]) (by rw [stAt_ob, stAt_ob]) fun t => .inr ?_⟩
      exact stAt_agree _ fun j r hj _ => (hall j hj).symm
    have same : ∀ (listed : Array Bool), listed.size = ops.size → ∀ j, j < ops.size → listed.getD j true = listed.getD j false := by
      intro listed hsz j hj
      have : j < listed.size := by omega
      simp [this]
    intro fuel
    induction fuel with
    | zero =>
      intro listed S a w hsz hcl hu hs
      have hall := unl_zero (Nat.le_zero.1 hu)
      refine ⟨?_, fin listed S a w hall hs⟩
      apply List.eq_nil_iff_forall_not_mem.2
      intro j hj
      obtain ⟨h1, o, ho, _⟩ := mem_ready.1 hj
      have hjn := (Array.getElem?_eq_some_iff.1 ho).1
      rw [same listed hsz j hjn, hall j hjn] at h1
      cases h1
    | succ fuel ih =>
      intro listed S a w hsz hcl hu hs
      constructor
      · intro hr
        refine fin listed S a w (fun j => ?_) hs
        induction j using Nat.strongRecOn with
        | _ j ihj =>
          intro hj
          cases hlj : listed.getD j false with
          | true => rfl
          | false =>
            have hoj : ops[j]? = some ops[j] := Array.getElem?_eq_getElem hj
            have : j ∈ Region.ready .any ops listed := mem_ready.2 ⟨by rw [same listed hsz j hj]; exact hlj, _, hoj, fun e he hb => by
              have := (hlex j (by omega) hj).1 e.on ⟨_, e, hoj, he, hb, rfl⟩
              exact ihj e.on this (by omega)⟩
            rw [hr] at this; cases this
      · intro i hi
        obtain ⟨hun, o, ho, hall⟩ := mem_ready.1 hi
        have hin : i < ops.size := (Array.getElem?_eq_some_iff.1 ho).1
        rw [same listed hsz i hin] at hun
        have hwi : ∀ j, Wt ops i j → listed.getD j false = true := fun j ⟨o', e, ho', he, hb, hj⟩ => by
          rw [ho] at ho'; cases ho'; rw [← hj]; exact hall e he hb
        obtain ⟨k, g, d, r, hk, hg, hd, hpi, hdn, hst⟩ := hop i o ho
        have hlater : ∀ j, Wt ops j i → listed.getD j false = false := fun j hj => by
          cases hl : listed.getD j false with
          | false => rfl
          | true => have := hcl j i hl hj; rw [hun] at this; cases this
        have hdstj : ∀ j t u, j < ops.size → ps[j]? = some (t, u) → ∃ oj, ops[j]? = some oj ∧ oj.dst = some t := by
          intro j t u hj hp
          obtain ⟨_, _, d', r', _, _, e1, e2, _⟩ := hop j _ (Array.getElem?_eq_getElem hj)
          rw [hp] at e2; cases e2
          exact ⟨_, Array.getElem?_eq_getElem hj, e1⟩
        have hcut : ∀ (lst : Nat → Bool) t m, m ≤ ops.size → (∀ j u, m ≤ j → j < ops.size → ps[j]? = some (t, u) → lst j = false) → (stAt σ ps lst ops.size).get t = (stAt σ ps lst m).get t := by
          intro lst t m hm h
          have := stAt_cut (σ := σ) (ps := ps) (l := lst) (t := t) (i := m) (ops.size - m) fun j u h1 h2 h3 => h j u h1 (by omega) h3
          rwa [show m + (ops.size - m) = ops.size by omega] at this
        have hL : Sim x S φ ((stAt σ ps (fun _ => true) i).only (o.looksAt ops)) a w := by
          refine hs.get_congr (by simp only [St.only]; rw [stAt_n, stAt_n]) (by simp only [St.only]; rw [stAt_ob, stAt_ob]) fun t => ?_
          rw [get_only]
          split
          · rename_i ht
            refine .inr ?_
            rw [hcut _ t i (by omega) fun j u h1 h2 h3 => ?_]
            · refine stAt_agree _ fun j u hj hp => ?_
              obtain ⟨oj, hoj, hdj⟩ := hdstj j t u (by omega) hp
              exact (hwi j (hwait j i oj o hj hoj ho ⟨t, .inl ⟨hdj, .inl ht⟩⟩)).symm
            · obtain ⟨oj, hoj, hdj⟩ := hdstj j t u h2 h3
              by_cases hji : j = i
              · subst hji; exact hun
              · exact hlater j (hwait i j o oj (by omega) ho hoj ⟨t, .inr ⟨hdj, ht⟩⟩)
          · exact .inl rfl
        have hset : ∀ j, j ≠ i → (listed.setIfInBounds i true).getD j false = listed.getD j false := fun j hj => getD_set_ne false (Ne.symm hj)
        have hseti : (listed.setIfInBounds i true).getD i false = true := by
          have : i < listed.size := by omega
          simp [this]
        have next : ∀ v S' w', AVR x w' S' φ r v → Grow S w S' w' → wpAny P .any ops (simQ x Q) fuel (listed.setIfInBounds i true) (a.put o.dst v) w' := by
          intro v S' w' hv hgr
          refine ih _ S' _ _ (by simpa using hsz) (fun j m hj hm => ?_) ?_ ?_
          · by_cases hmi : m = i
            · subst hmi; exact hseti
            · rw [hset m hmi]
              by_cases hji : j = i
              · subst hji; exact hwi m hm
              · rw [hset j hji] at hj; exact hcl j m hj hm
          · have := unl_set (l := fun j => listed.getD j false) (l' := fun j => (listed.setIfInBounds i true).getD j false) hset hseti hun ops.size
            rw [if_pos hin] at this; omega
          · rw [hd]
            refine ((hs.grow hgr).put (d := d) (by rw [stAt_n]; exact hdn) hv).get_congr (by rw [stAt_n]; exact (stAt_n ..).symm) (by rw [stAt_ob]; exact (stAt_ob ..).symm) fun t => .inr ?_
            rw [get_put]
            split
            · rename_i ht
              subst ht
              rw [hcut _ t (i + 1) (by omega) fun j u h1 h2 h3 => ?_]
              · rw [stAt_step, hpi]; simp [hseti]
              · obtain ⟨oj, hoj, hdj⟩ := hdstj j t u h2 h3
                rw [hset j (by omega)]
                exact hlater j (hwait i j o oj (by omega) ho hoj ⟨t, .inl ⟨hd, .inr hdj⟩⟩)
            · rename_i ht
              refine stAt_agree _ fun j u hj hp => ?_
              by_cases hji : j = i
              · subst hji; rw [hpi] at hp; cases hp; exact absurd rfl ht
              · exact hset j hji
        unfold wpOp
        simp only [ho]
        rcases still_op hL hx hk hg hst with ⟨h1, h2⟩ | ⟨h1, h2⟩
        · rw [h1]; simp only [if_true]; exact .inl (h2 _ _ next)
        · rw [h1]; simp only [Bool.false_eq_true, if_false]; exact next _ S w h2 (Grow.refl _ _)
  refine main ops.size _ S a w (by simp) (fun j i hj _ => ?_) ?_ ?_
  · rcases Nat.lt_or_ge j ops.size with h | h <;> simp [h, Array.getElem?_replicate] at hj
  · have : ∀ (lst : Nat → Bool) k, unl lst k ≤ k := by
      intro lst k
      induction k with
      | zero => exact Nat.le_refl _
      | succ k ih => simp only [unl]; cases lst k <;> simp <;> omega
    exact this _ _
  · refine hs.get_congr (stAt_n ..) (stAt_ob ..) fun t => .inr ?_
    have := stAt_cut (σ := σ) (ps := ps) (l := fun j => (Array.replicate ops.size false).getD j false) (t := t) (i := 0) ops.size fun j u _ _ _ => by
      rcases Nat.lt_or_ge j ops.size with h | h <;> simp [h, Array.getElem?_replicate]
    simpa [stAt] using this
end
end Go.AL

namespace Go.AL
open Go Go.RowKit
def CallD (P : Program) (f : Nat) (as : List AV) (fl G : Bool) (g : Option (Nat × Bool)) (K : AV → Prop) : Prop :=
  ∃ rs, (∀ r ∈ rs, RV.data r) ∧ (G = true → FnR P f as rs) ∧ (fl = true → ∀ r ∈ rs, RV.flatP r) ∧ K (AV.under g G (resAV rs))
def CallP (p : List (Sum CD (List CD)) → Option Value) (as : List (Sum CD (List CD))) (G : Bool) (K : Value → Prop) : Prop := ∃ v, (G = true → p as = some v) ∧ K v
def bsv (g : Option (Nat × Bool)) (G : Bool) (k : Nat) (xs : List (List CD)) : AV → AV
  | .opt false _ => match g with
    | none => .full k xs
    | some _ => AV.under g G (.c (.sl k xs))
  | _ => AV.under g G (.c (.sl k xs))
theorem bsv_or (g : Option (Nat × Bool)) (G : Bool) (k : Nat) (xs : List (List CD)) (a : AV) : bsv g G k xs a = AV.under g G (.c (.sl k xs)) ∨ g = none ∧ bsv g G k xs a = .full k xs := by
  unfold bsv
  split
  · cases g with
    | none => exact .inr ⟨rfl, rfl⟩
    | some _ => exact .inl rfl
  · exact .inl rfl
def stepsD (P : Program) (Q : Exit → St → Prop) : List (AP × List Nat) → St → Prop
  | [], σ => Q .normal σ
  | (⟨dst, op, g⟩, L) :: r, σ =>
  match dst, guardOf (σ.only L) g with
  | some d, some G => d < σ.n ∧ match op with
    | .bslice _ k parts => match elems (parts.map fun x => (((σ.only L).ev x).val G).1) with
      | some xs => (G = true → valObs G (σ.only L) parts) ∧ lensOk k xs ∧ stepsD P Q r (σ.put d (bsv g G k xs (σ.get 20000)))
      | none => False
    | .call f args => (G = true → valObs G (σ.only L) args) ∧ CallD P f (callArgs G (σ.only L) args) (callLends G (σ.only L) args) G g (fun v => stepsD P Q r (σ.put d v))
    | .callv y args => match (((σ.only L).ev y).val G).1 with
      | .pf p => match toArgs (args.map fun y => (((σ.only L).ev y).val G).1) with
        | some as => (G = true → (((σ.only L).ev y).val G).2) ∧ (G = true → valObs G (σ.only L) args) ∧ CallP p as G (fun v => stepsD P Q r (σ.put d (AV.under g G (.c (.sc v)))))
        | none => False
      | .fn f caps => (G = true → (((σ.only L).ev y).val G).2) ∧ (G = true → valObs G (σ.only L) args) ∧ CallD P f (callArgs G (σ.only L) args ++ caps.map (σ.only L).arg) (callLends G (σ.only L) args || caps.any AV.lends) G g (fun v => stepsD P Q r (σ.put d v))
      | _ => False
    | op => op.isPure = true ∧ match pop G (σ.only L) op with
      | some (v, ob) => (G = true → ob) ∧ stepsD P Q r (σ.put d (AV.under g G v))
      | none => False
  | _, _ => False
section
variable {P : Program} {Q : Exit → St → Prop} {σ : St}
theorem SD_of_stepsD : ∀ (aps : List (AP × List Nat)) (σ : St), stepsD P Q aps σ → SD P Q aps σ
  | [], σ, h => .nil h
  | (⟨dst, op, g⟩, L) :: r, σ, h => by
    unfold stepsD at h
    split at h
    · rename_i d G hG
      obtain ⟨hd, h⟩ := h
      have pure : (op.isPure = true ∧ match pop G (σ.only L) op with | some (v, ob) => (G = true → ob) ∧ stepsD P Q r (σ.put d (AV.under g G v)) | none => False) → (∀ v ob, op.isPure = true → pop G (σ.only L) op = some (v, ob) → (G = true → ob) → StillOk P (σ.only L) op g (AV.under g G v)) → SD P Q ((⟨some d, op, g⟩, L) :: r) σ := by
        rintro ⟨hp, h⟩ hn
        split at h
        · rename_i v ob hpop
          exact .cons (hn v ob hp hpop h.1) hd (SD_of_stepsD r _ h.2)
        · exact h.elim
      cases op
      case bslice e k parts =>
        simp only [] at h
        split at h
        · rename_i xs hxs
          obtain ⟨h1, h2, h3⟩ := h
          exact .cons ⟨G, hG, xs, hxs, h1, h2, bsv_or ..⟩ hd (SD_of_stepsD r _ h3)
        · exact h.elim
      case call f args =>
        obtain ⟨h1, rs, h2, h3, h4, h5⟩ := h
        exact .cons ⟨G, hG, rs, h2, h1, h3, h4, rfl⟩ hd (SD_of_stepsD r _ h5)
      case callv y args =>
        simp only [] at h
        split at h
        · rename_i p hp
          split at h
          · rename_i as has
            obtain ⟨h1, h2, v, hv, h3⟩ := h
            refine .cons (r := AV.under g G (.c (.sc v))) ⟨G, hG, ?_⟩ hd (SD_of_stepsD r _ h3)
            simp only [hp]
            exact ⟨as, v, has, hv, h1, h2, rfl⟩
          · exact h.elim
        · rename_i f caps hp
          obtain ⟨h1, h2, rs, g1, g2, g3, g4⟩ := h
          refine .cons (r := AV.under g G (resAV rs)) ⟨G, hG, ?_⟩ hd (SD_of_stepsD r _ g4)
          simp only [hp]
          exact ⟨rs, g1, h1, h2, g2, g3, rfl⟩
        · exact h.elim
      all_goals exact pure h fun v ob hp hpop hob => ⟨G, hG, v, ob, hp, hpop, hob, rfl⟩
    · exact h.elim
theorem CallD.mk {f : Nat} {as : List AV} {fl G : Bool} {g : Option (Nat × Bool)} {K : AV → Prop} (rs : List RV) (hd : ∀ r ∈ rs, RV.data r) (h : G = true → FnR P f as rs) (hf : fl = true → ∀ r ∈ rs, RV.flatP r) (hK : K (AV.under g G (resAV rs))) : CallD P f as fl G g K := ⟨rs, hd, h, hf, hK⟩
theorem CallAt.mkW {f : Nat} {as0 as : List AV} {fl : Bool} {K : St → Prop} {d : Nat} {asW : List AV} {ob : List (Nat × AO)} {rs : List RV} {ob' : List (Nat × AO)} {kp : List Nat} (h : FnW P f asW ob rs ob' kp) (has : as0.map (σ.argW ob) = asW) (hob : σ.le2 ob) (hpin : pinOk kp ob' = true) (hplain : plainOb ob' = true)
    (hf : as0.any (AV.lendsW ob) = true → (∀ r ∈ rs, RV.flatP r) ∧ flatOb ob') (hk : K ((σ.after ob ob' kp).putRes d rs)) (hn : rs.length ≤ 100 := by simp) : CallAt P f K d as0 as fl σ := .w ob rs ob' kp hn (by rw [has]; exact h) hob hpin hplain hf hk
theorem CallAt.mkG {f : Nat} {as0 as : List AV} {fl : Bool} {K : St → Prop} {d : Nat} {asW rs : List AV} {ob : List (Nat × AO)} {ob' : List (Nat × AO)} {kp : List Nat} (h : FnG P f asW ob rs ob' kp) (hob : σ.le2 ob) (hk : K ((σ.after ob ob' kp).put d (resG rs))) (has : as0.map (σ.argW ob) = asW := by rfl) (hpin : pinOk kp ob' = true := by rfl) (hplain : plainOb ob' = true := by rfl)
    (hf : as0.any (AV.lendsW ob) = false := by rfl) (hrs : rs.all AV.plainG = true := by rfl) : CallAt P f K d as0 as fl σ := .g ob rs ob' kp (by rw [has]; exact h) hob hpin hplain hf hrs hk
theorem CallAt.mk {f : Nat} {as0 as : List AV} {fl : Bool} {K : St → Prop} {d : Nat} (rs : List RV) (h : FnR P f as rs) (hf : fl = true → ∀ r ∈ rs, RV.flatP r) (hk : K (σ.putRes d rs)) (hn : rs.length ≤ 100 := by simp) : CallAt P f K d as0 as fl σ := .r rs hn h hf hk
theorem CallAtG.mk {f : Nat} {args : List AX} {as : List AV} {G : Bool} {K : St → Prop} {d : Nat} (v : Value) (h : G = true → FnR P f as [.c (.sc v)]) (hk : K (σ.put d (.opt G (.c (.sc v))))) : CallAtG P f args as G K d σ := .mk0 v h hk
def stepF (K : St → Prop) (dst : Option Nat) (op : AK) (g : Option (Nat × Bool)) (σ : St) : Prop := match dst, guardOf σ g with
  | some d, some G => match pop G σ op with
    | some (v, ob) => d < σ.n ∧ (G = true → ob) ∧ K (σ.put d (AV.under g G v))
    | none => False
  | _, _ => False
def atF (l : List AP) (i : Nat) (F : Option Nat → AK → Option (Nat × Bool) → Prop) : Prop := match l[i]? with
  | some ap => F ap.dst ap.op ap.g
  | none => False
def regP (P : Program) (Q : Exit → St → Prop) (l : List AP) : Plan → St → Prop
  | .done => fun σ => Q .normal σ
  | .nope => fun _ => True
  | .first i p => fun σ => atF l i fun dst op g => stepF (regP P Q l p) dst op g σ
  | .fork i p r => fun σ => (atF l i fun dst op g => step1 P (regP P Q l p) dst op g σ) ∧ regP P Q l r σ
def normQ (Q : Exit → St → Prop) : Exit → St → Prop := fun e τ => e = .normal ∧ Q .normal τ
theorem firstK_isN {k : AK} (h : k.firstK = true) : k.isN = true := by cases k <;> first | rfl | simp [AK.firstK] at h
theorem upon_mono {o : Oper} {a : Act} {N N' : Act → World → Prop} {q q' : Exit → Act → World → Prop} {r : Result Next} (hN : ∀ a w, N a w → N' a w) (hq : ∀ e a w, q e a w → e ≠ .normal → q' e a w) (h : o.upon P a N q r) : o.upon P a N' q' r := by
  cases r with
  | ok n w' =>
    cases n <;> simp only [Oper.upon] at h ⊢
    case value v => exact hN _ _ h
    case skip => exact hN _ _ h
    case defer d => exact hN _ _ h
    case enter f args =>
      refine Calls.mono h fun e w'' he => ?_
      cases e with
      | returned u => exact hN _ _ he
      | panicked c => exact hq _ _ _ he (by simp)
      | outgrown =>
        obtain ⟨a', w3, h'⟩ := he
        exact ⟨a', w3, hq _ _ _ h' (by simp)⟩
    case row row args => exact Rows.mono h fun u w'' he => hN _ _ he
  | halt x w' =>
    cases x <;> simp only [Oper.upon] at h ⊢
    case panic u => exact hq _ _ _ h (by simp)
theorem op_of_step {ops : Array Oper} {i : Nat} {o : Oper} {ap : AP} {K : St → Prop} {N : Act → World → Prop} {QQ : Exit → Act → World → Prop} {x : Ctx} {S : Nat → Prop} {φ : Nat → Value} {a : Act} {w : World} (ho : ops[i]? = some o) (hop : compOp P o = some ap.op) (hd : ap.dst = o.dst) (hg : compGuard ops o.guard = some ap.g)
    (hx : x.P = P) (h : step1 P K ap.dst ap.op ap.g σ) (hs : Sim x S φ σ a w) (hN : ∀ σ' S' φ' a' w', K σ' → Sim x S' φ' σ' a' w' → N a' w') : wpOp P ops QQ i N a w := by
  have h1 : AL P [ap] (normQ fun _ τ => K τ) σ := AL_step (rest := []) (fun τ hk => fun all l hc x S φ a w hx hs => by
    cases l with
    | nil => exact wpList_nil ⟨τ, S, φ, ⟨rfl, hk⟩, hs⟩
    | cons o l => simp only [compOps] at hc; split at hc <;> simp at hc) ap σ h
  have h2 := h1 ops [o] (by simp only [compOps, hop, hg]; cases ap; simp_all) x S φ a w hx hs
  have hN' : ∀ a' w', simQ x (normQ fun _ τ => K τ) .normal a' w' → N a' w' := by
    rintro a' w' ⟨τ, S', φ', ⟨_, hk⟩, hs'⟩
    exact hN τ S' φ' a' w' hk hs'
  have hq : ∀ e a' w', simQ x (normQ fun _ τ => K τ) e a' w' → e ≠ .normal → QQ e a' w' := by
    rintro e a' w' ⟨τ, S', φ', ⟨he, _⟩, _⟩ hne
    exact absurd he hne
  unfold wpOp
  simp only [ho]
  simp only [wpList] at h2
  split
  · rename_i hw
    rw [if_pos hw] at h2
    rcases h2 with h2 | ⟨h2, a', w', h3⟩
    · exact .inl (upon_mono hN' hq h2)
    · exact .inr ⟨h2, a', w', hq _ _ _ h3 (by simp)⟩
  · rename_i hw
    rw [if_neg hw] at h2
    exact hN' _ _ h2
theorem yields_first {ops : Array Oper} {o : Oper} {ap : AP} {K : St → Prop} {x : Ctx} {S : Nat → Prop} {φ : Nat → Value} {a : Act} {w : World} (hop : compOp P o = some ap.op) (hd : ap.dst = o.dst) (hg : compGuard ops o.guard = some ap.g) (hk : ap.op.firstK = true)
    (h : stepF K ap.dst ap.op ap.g σ) (hs : Sim x S φ σ a w) : ∃ v τ, Go.Yields P ops o v a ∧ K τ ∧ Sim x S φ τ (a.put o.dst v) w := by
  unfold stepF at h
  split at h
  · rename_i d G hdd hG
    split at h
    · rename_i r ob hp
      obtain ⟨hdn, hob, hK⟩ := h
      have hgn : ap.g = none → G = true := fun h => by rw [h] at hG; simpa [guardOf] using hG.symm
      have hw := wanted_of hs hg hG
      cases G with
      | true =>
        obtain ⟨v, hv, hrun⟩ := pop_sound (P := P) hs hop hp (hob rfl)
        refine ⟨v, _, .inl ⟨hw, fun w' => hrun w' (.inl (firstK_isN hk))⟩, hK, ?_⟩
        rw [← hd, hdd]
        exact hs.put hdn (under_sound hgn (fun _ => hv) (fun h => by cases h))
      | false =>
        refine ⟨undef, _, .inr ⟨hw, rfl⟩, hK, ?_⟩
        rw [← hd, hdd]
        exact hs.put hdn (under_sound hgn (fun h => by cases h) (fun _ => rfl))
    · exact h.elim
  · exact h.elim
theorem regX_sound {ops : Array Oper} {l : List AP} (hc : compOps P ops ops.toList = some l) (hns : Region.noSelect ops = true) {x : Ctx} (hx : x.P = P) : ∀ (p : Plan),
    (∀ (n : Nat) (listed : Array Bool) (τ : St) (S : Nat → Prop) (φ : Nat → Value) (a : Act) (w : World), planB ops l p n listed = true → forkB ops p false listed = true → regP P Q l p τ → Sim x S φ τ a w → wpAny P .any ops (simQ x (normQ Q)) n listed a w) ∧
    (∀ (n : Nat) (listed : Array Bool) (τ : St) (S : Nat → Prop) (φ : Nat → Value) (a : Act) (w : World) (rs : List Nat), forksB rs p = true → planB ops l p (n + 1) listed = true → forkB ops p true listed = true → regP P Q l p τ → Sim x S φ τ a w →
      ∀ i ∈ rs, wpOp P ops (simQ x (normQ Q)) i (wpAny P .any ops (simQ x (normQ Q)) n (listed.setIfInBounds i true)) a w) := by
  obtain ⟨hlen, hget⟩ := compOps_get hc
  have get : ∀ (i : Nat) (ap : AP), l[i]? = some ap → ∃ o, ops[i]? = some o ∧ compOp P o = some ap.op ∧ ap.dst = o.dst ∧ compGuard ops o.guard = some ap.g := by
    intro i ap h
    have hi : i < ops.toList.length := by rw [← hlen]; exact (List.getElem?_eq_some_iff.1 h).1
    obtain ⟨q1, q2, q3⟩ := hget i _ ap (List.getElem?_eq_getElem hi) h
    exact ⟨_, by rw [← Array.getElem?_toList]; exact List.getElem?_eq_getElem hi, q1, q2, q3⟩
  intro p
  induction p with
  | done =>
    refine ⟨fun n listed τ S φ a w hB _ h hs => ?_, fun n listed τ S φ a w rs hB => by simp [forksB] at hB⟩
    simp only [planB, List.isEmpty_iff] at hB
    exact wpAny_done hB ⟨τ, S, φ, ⟨rfl, h⟩, hs⟩ n
  | nope =>
    refine ⟨fun n listed τ S φ a w _ hF => by simp [forkB] at hF, fun n listed τ S φ a w rs hB _ _ _ _ i hi => ?_⟩
    simp only [forksB, List.isEmpty_iff] at hB
    subst hB; simp at hi
  | first i p ih =>
    refine ⟨fun n listed τ S φ a w hB hF h hs => ?_, fun n listed τ S φ a w rs hB => by simp [forksB] at hB⟩
    cases n with
    | zero => simp [planB] at hB
    | succ n =>
      simp only [planB, Bool.and_eq_true] at hB
      obtain ⟨⟨⟨h1, h2⟩, h3⟩, h4⟩ := hB
      simp only [forkB] at hF
      simp only [regP, atF] at h
      split at h
      · rename_i ap hap
        rw [hap] at h1
        simp only [Bool.and_eq_true] at h1
        obtain ⟨o, ho, q1, q2, q3⟩ := get i ap hap
        obtain ⟨v, τ', hy, hK, hs'⟩ := yields_first q1 q2 q3 h1.1 h hs
        refine wpAny_take ho hns h2 h3 (fun c a w hq => ?_) hy (ih.1 n _ τ' S φ _ w h4 hF hK hs')
        obtain ⟨_, _, _, ⟨he, _⟩, _⟩ := hq
        cases he
      · exact h.elim
  | fork i p r ihp ihr =>
    have B : ∀ (n : Nat) (listed : Array Bool) (τ : St) (S : Nat → Prop) (φ : Nat → Value) (a : Act) (w : World) (rs : List Nat), forksB rs (.fork i p r) = true → planB ops l (.fork i p r) (n + 1) listed = true → forkB ops p false (listed.setIfInBounds i true) = true → forkB ops r true listed = true → regP P Q l (.fork i p r) τ → Sim x S φ τ a w →
      ∀ j ∈ rs, wpOp P ops (simQ x (normQ Q)) j (wpAny P .any ops (simQ x (normQ Q)) n (listed.setIfInBounds j true)) a w := by
      intro n listed τ S φ a w rs hf hB hF1 hF2 h hs j hj
      simp only [planB, Bool.and_eq_true] at hB
      simp only [regP] at h
      by_cases hji : j = i
      · subst hji
        have h1 := h.1
        simp only [atF] at h1
        split at h1
        · rename_i ap hap
          obtain ⟨o, ho, q1, q2, q3⟩ := get j ap hap
          exact op_of_step ho q1 q2 q3 hx h1 hs fun σ' S' φ' a' w' hK hs' => ihp.1 n _ σ' S' φ' a' w' hB.1 hF1 hK hs'
        · exact h1.elim
      · simp only [forksB] at hf
        exact ihr.2 n listed τ S φ a w _ hf hB.2 hF2 h.2 hs j (List.mem_filter.2 ⟨hj, by simp [hji]⟩)
    refine ⟨fun n listed τ S φ a w hB hF h hs => ?_, fun n listed τ S φ a w rs hf hB hF h hs => ?_⟩
    · cases n with
      | zero => simp [planB] at hB
      | succ n =>
        simp only [forkB, Bool.false_or, Bool.and_eq_true, Bool.not_eq_true'] at hF
        obtain ⟨⟨⟨hne, hfk⟩, hF1⟩, hF2⟩ := hF
        exact wpAny_all (rs := readyB ops listed) rfl (by rw [← List.isEmpty_eq_false_iff]; exact hne) (B n listed τ S φ a w _ hfk hB hF1 hF2 h hs)
    · simp only [forkB, Bool.true_or, Bool.true_and, Bool.and_eq_true] at hF
      exact B n listed τ S φ a w rs hf hB hF.1 hF.2 h hs
theorem compReg_nogo {ops : Array Oper} {l : List AP} (hq : (Region.lexB .any ops && (l.all fun p => p.op.quietK && p.dst.isSome)) = false) {c : AC}
    (hc : (bif Region.lexB .any ops && (l.all fun p => p.op.quietK && p.dst.isSome) then some (.regD (l.zip (ops.toList.map (Oper.looksAt ops))))
      else bif Region.noSelect ops && graphB ops l then some (.regG l (preOf ops) (blkOf ops))
      else bif Region.noSelect ops && planB ops l (mkPlan ops l ops.size (Array.replicate ops.size false)) ops.size (Array.replicate ops.size false) && forkB ops (mkPlan ops l ops.size (Array.replicate ops.size false)) false (Array.replicate ops.size false) then
        (attachP l (mkPlan ops l ops.size (Array.replicate ops.size false))).map .regX
      else none) = some c) (h1 : ∀ l p b, c ≠ .regG l p b) (h2 : ∀ p, c ≠ .regX p) : False := by
  rw [hq] at hc
  simp only [cond_false] at hc
  cases hg : Region.noSelect ops && graphB ops l with
  | true => rw [hg] at hc; simp only [cond_true, Option.some.injEq] at hc; exact h1 _ _ _ hc.symm
  | false =>
    rw [hg] at hc
    simp only [cond_false] at hc
    generalize mkPlan ops l ops.size (Array.replicate ops.size false) = p at hc
    cases hp : Region.noSelect ops && planB ops l p ops.size (Array.replicate ops.size false) && forkB ops p false (Array.replicate ops.size false) with
    | true => rw [hp] at hc; simp only [cond_true, Option.map_eq_some_iff] at hc; obtain ⟨q, _, h⟩ := hc; exact h2 q h.symm
    | false => rw [hp] at hc; simp at hc
theorem bitB_eq (m i : Nat) : bitB m i = m.testBit i := by
  have h : Nat.land (Nat.shiftRight m i) 1 = m / 2 ^ i % 2 := by
    show (m >>> i) &&& 1 = _
    rw [Nat.and_one_is_mod, Nat.shiftRight_eq_div_pow]
  unfold bitB
  rw [h, Nat.testBit_eq_decide_div_mod_eq]
  cases hb : Nat.beq (m / 2 ^ i % 2) 1 with
  | true => rw [Nat.eq_of_beq_eq_true hb]; rfl
  | false =>
    symm
    rw [decide_eq_false_iff_not]
    intro e; rw [e] at hb; cases hb
theorem bitB_withB (m i j : Nat) : bitB (withB m i) j = (bitB m j || decide (i = j)) := by
  rw [bitB_eq, bitB_eq]
  show (m ||| (1 <<< i)).testBit j = _
  rw [Nat.testBit_or, Nat.one_shiftLeft, Nat.testBit_two_pow]
structure Bits (ops : Array Oper) (listed : Array Bool) (m : Nat) : Prop where
  size : listed.size = ops.size
  lo : ∀ j, j < ops.size → listed.getD j false = bitB m j
  hi : ∀ j, ops.size ≤ j → bitB m j = false
theorem Bits.set {ops : Array Oper} {listed : Array Bool} {m i : Nat} (h : Bits ops listed m) (hi : i < ops.size) : Bits ops (listed.setIfInBounds i true) (withB m i) := by
  refine ⟨by simpa using h.size, fun j hj => ?_, fun j hj => ?_⟩
  · rw [bitB_withB]
    by_cases e : i = j
    · subst e
      have : i < listed.size := by rw [h.size]; exact hi
      simp [this]
    · rw [getD_set_ne false e, h.lo j hj]; simp [e]
  · rw [bitB_withB, h.hi j hj]
    have : i ≠ j := by omega
    simp [this]
inductive Both (p q : Prop) : Prop where
  | mk (h1 : p) (h2 : q)
def atS (P : Program) (K : St → Prop) : List AP → Nat → St → Prop
  | [], _, _ => False
  | ⟨dst, op, g⟩ :: _, 0, σ => step1 P K dst op g σ
  | _ :: r, i + 1, σ => atS P K r i σ
def atO (K : St → Prop) : List AP → Nat → St → Prop
  | [], _, _ => False
  | ⟨dst, op, g⟩ :: _, 0, σ => stepF K dst op g σ
  | _ :: r, i + 1, σ => atO K r i σ
def lookT (j : Nat) : List (Nat × St) → Option St
  | [] => none
  | (k, τ) :: r => bif Nat.beq j k then some τ else lookT j r
def nthG : List GN → Nat → Option GN
  | [], _ => none
  | g :: _, 0 => some g
  | _ :: r, j + 1 => nthG r j
def knotAll (P : Program) (l : List AP) (C : Nat → St → Prop) : List (Nat × Nat) → St → Prop
  | [], _ => True
  | (i, j) :: r, σ => Both (atS P (C j) l i σ) (knotAll P l C r σ)
def knotP (P : Program) (Q : Exit → St → Prop) (l : List AP) (C : Nat → St → Prop) : Option GN → St → Prop
  | none, _ => False
  | some .fin, σ => Q .normal σ
  | some (.one i j), σ => atO (C j) l i σ
  | some (.all es), σ => knotAll P l C es σ
def contP (P : Program) (Q : Exit → St → Prop) (l : List AP) (gs : List GN) (T : List (Nat × St)) : Nat → Nat → St → Prop
  | 0, _ => fun _ => False
  | f + 1, j => match lookT j T with
    | some τ => fun σ => σ.le τ
    | none => fun σ => knotP P Q l (contP P Q l gs T f) (nthG gs j) σ
theorem AW_reg {l : List AP} (h : steps P Q l σ) : AW P (.reg l false) Q σ := fun code hc x S φ a w hx hs => by
  cases code <;> simp [comp] at hc
  case region i ops d =>
    replace hc := compRegF_eq hc (by simp)
    cases d with
    | false =>
      simp only [compReg, Option.map_eq_some_iff] at hc
      obtain ⟨l', h1, h2⟩ := hc
      simp at h2; subst h2
      exact wp_region_list (AL_of_steps l' σ h _ _ h1 x S φ a w hx hs)
    | true =>
      simp only [compReg] at hc
      split at hc
      · cases hc
      · rename_i l' hl
        cases hq : Region.lexB .any ops && (l'.all fun p => p.op.quietK && p.dst.isSome) with
        | true => rw [hq] at hc; simp at hc
        | false => exact (compReg_nogo hq hc (by simp) (by simp)).elim
  all_goals (first | (split at hc <;> simp at hc) | (repeat (obtain ⟨_, _, hc⟩ := hc)))
theorem AW_regD (hm : P.follows .mixedOrders = true) {l : List (AP × List Nat)} (h : stepsD P Q l σ) : AW P (.regD l) Q σ := fun code hc x S φ a w hx hs => by
  cases code <;> simp [comp] at hc
  case region i ops d =>
    replace hc := compRegF_eq hc (by simp)
    cases d with
    | false => simp [compReg] at hc
    | true =>
      simp only [compReg] at hc
      split at hc
      · cases hc
      · rename_i l' hl
        cases hq : Region.lexB .any ops && (l'.all fun p => p.op.quietK && p.dst.isSome) with
        | true =>
          rw [hq] at hc
          simp only [cond_true, Option.some.injEq, AC.regD.injEq] at hc
          subst hc
          simp only [Bool.and_eq_true] at hq
          exact wp_region_any hm (SD_sound hl hq.1 hx (SD_of_stepsD _ _ h) (hs.world (Ext.drew All w)))
        | false => exact (compReg_nogo hq hc (by simp) (by simp)).elim
  all_goals (first | (split at hc <;> simp at hc) | (repeat (obtain ⟨_, _, hc⟩ := hc)))
theorem wpAny_mono {ops : Array Oper} {q q' : Exit → Act → World → Prop} (hq : ∀ e a w, q e a w → q' e a w) : ∀ (n : Nat) (listed : Array Bool) (a : Act) (w : World), wpAny P .any ops q n listed a w → wpAny P .any ops q' n listed a w
  | 0, _, _, _, h => ⟨h.1, hq _ _ _ h.2⟩
  | n + 1, listed, a, w, h => by
    refine ⟨fun hr => hq _ _ _ (h.1 hr), fun i hi => ?_⟩
    have h1 := h.2 i hi
    unfold wpOp at h1 ⊢
    split
    · rename_i ho; simp only [ho] at h1; exact wpAny_mono hq n _ _ _ h1
    · rename_i o ho
      simp only [ho] at h1
      split
      · rename_i hw
        rw [if_pos hw] at h1
        rcases h1 with h1 | ⟨h1, a', w', h2⟩
        · exact .inl (upon_mono (fun a w => wpAny_mono hq n _ a w) (fun e a w h _ => hq e a w h) h1)
        · exact .inr ⟨h1, a', w', hq _ _ _ h2⟩
      · rename_i hw
        rw [if_neg hw] at h1
        exact wpAny_mono hq n _ _ _ h1
def regA (P : Program) (Q : Exit → St → Prop) : PlanA → St → Prop
  | .done => fun σ => Q .normal σ
  | .nope => fun _ => True
  | .first o p => fun σ => stepF (regA P Q p) o.dst o.op o.g σ
  | .fork o p r => fun σ => step1 P (regA P Q p) o.dst o.op o.g σ ∧ regA P Q r σ
theorem regA_attach {l : List AP} : ∀ {p : Plan} {q : PlanA}, attachP l p = some q → regA P Q q = regP P Q l p
  | .done, q, h => by simp [attachP] at h; subst h; rfl
  | .nope, q, h => by simp [attachP] at h; subst h; rfl
  | .first i p, q, h => by
    simp only [attachP] at h
    split at h
    · rename_i o q' h1 h2
      simp at h; subst h
      simp only [regA, regP, atF, h1, regA_attach h2]
    · cases h
  | .fork i p r, q, h => by
    simp only [attachP] at h
    split at h
    · rename_i o q' s h1 h2 h3
      simp at h; subst h
      simp only [regA, regP, atF, h1, regA_attach h2, regA_attach h3]
    · cases h
theorem AW_regX (hm : P.follows .mixedOrders = true) {p : PlanA} (h : regA P Q p σ) : AW P (.regX p) Q σ := fun code hc x S φ a w hx hs => by
  cases code <;> simp [comp] at hc
  case region i ops d =>
    replace hc := compRegF_eq hc (by simp)
    cases d with
    | false => simp [compReg] at hc
    | true =>
      simp only [compReg] at hc
      split at hc
      · cases hc
      · rename_i l' hl
        cases hq : Region.lexB .any ops && (l'.all fun p => p.op.quietK && p.dst.isSome) with
        | true => rw [hq] at hc; simp at hc
        | false =>
          rw [hq] at hc
          simp only [cond_false] at hc
          cases hg : Region.noSelect ops && graphB ops l' with
          | true => rw [hg] at hc; simp at hc
          | false =>
          rw [hg] at hc
          simp only [cond_false] at hc
          generalize mkPlan ops l' ops.size (Array.replicate ops.size false) = p' at hc
          cases hp : Region.noSelect ops && planB ops l' p' ops.size (Array.replicate ops.size false) && forkB ops p' false (Array.replicate ops.size false) with
          | true =>
            rw [hp] at hc
            simp only [cond_true, Option.map_eq_some_iff, AC.regX.injEq] at hc
            obtain ⟨q, hq', rfl⟩ := hc
            rw [regA_attach hq'] at h
            simp only [Bool.and_eq_true] at hp
            refine wp_region_any hm (wpAny_mono (fun e a w h => simQ_mono (fun e τ h => ?_) h) _ _ _ _ ((regX_sound hl hp.1.1 hx p').1 ops.size _ σ S φ a _ hp.1.2 hp.2 h (hs.world (Ext.drew All w))))
            obtain ⟨rfl, h⟩ := h
            exact h
          | false => rw [hp] at hc; simp at hc
  all_goals (first | (split at hc <;> simp at hc) | (repeat (obtain ⟨_, _, hc⟩ := hc)))
theorem AW_cond {c : AX} {a b : AC} (h : condW (σ.ev c) (AW P a Q σ) (AW P b Q σ)) : AW P (.cond c a b) Q σ := fun code hc x S φ ac w hx hs => by
  cases code <;> simp [comp] at hc
  case cond o y z =>
    split at hc
    · rename_i c' a' b' h1 h2 h3
      simp at hc
      obtain ⟨rfl, rfl, rfl⟩ := hc
      have hev := ev_sound hs h1
      unfold condW at h
      split at h
      · rename_i bb he
        rw [he] at hev
        have hb := rd_bool hev
        cases bb with
        | true => exact wp_cond_true hb (h.1 rfl y h2 x S φ ac w hx hs)
        | false => exact wp_cond_false hb (h.2 rfl z h3 x S φ ac w hx hs)
      · exact h.elim
    · simp at hc
  all_goals (first | exact (compReg_ne hc (by simp) (by simp)).elim | (split at hc <;> simp at hc) | (repeat (obtain ⟨_, _, hc⟩ := hc)))
end
end Go.AL

namespace Go.AL
open Go Go.RowKit
def resOk1 (τ : St) (a : AV) : RV → Prop
  | .c d => match a with
    | .c d' => d' = d
    | .own id => match obGet id τ.ob with
      | some (.arr _ k xs) => .sl k xs = d
      | some (.map kk es) => .mp kk es = d
      | _ => False
    | _ => False
  | .agg ds => match a with
    | .agg cs => toCDs cs = some ds
    | _ => False
  | .own e k xs => match a with
    | .own id => match obGet id τ.ob with
      | some (.arr e' k' xs') => e' = e ∧ k' = k ∧ xs' = xs
      | _ => False
    | .c .nil => xs = []
    | _ => False
def retOkL (τ : St) : List AV → List RV → Prop
  | [], [] => True
  | a :: as, r :: rs => resOk1 τ a r ∧ retOkL τ as rs
  | _, _ => False
def ownIds : List AV → List Nat
  | [] => []
  | a :: r => match a with
    | .own id => id :: ownIds r
    | _ => ownIds r
def notIn (i : Nat) : List Nat → Bool
  | [] => true
  | j :: r => !Nat.beq i j && notIn i r
def nodupB : List Nat → Bool
  | [] => true
  | i :: r => notIn i r && nodupB r
def retOk (τ : St) (as : List AV) (rs : List RV) : Prop := retOkL τ as rs ∧ nodupB (ownIds as) = true
def cellAV (c : Nat) (cs : List AV) : AV := match c with
  | 0 => .any
  | 1 => cs.headD .any
  | m + 2 => bif Nat.ble m cs.length then .agg (cs.take m) else .any
def St.resC (τ : St) (c : Nat) : AV → AV
  | .ptr id off => match obGet id τ.ob with
    | some (.box _ cs) => cellAV c (cs.drop off)
    | _ => .any
  | _ => .any
def St.resv (τ : St) (t : Nat) : AV := if t < 1000000 then τ.get t else τ.resC (t / 1000000) (τ.get (t % 1000000))
def shCode : Option Nat → Nat
  | none => 1
  | some m => m + 2
def rvEnc (P : Program) : ResultVar → Option Nat
  | .tmp t => bif Nat.blt t 1000000 then some t else none
  | .cell a t => match shapeOf P t with
    | some n => bif Nat.blt a 1000000 then some (shCode n * 1000000 + a) else none
    | none => none
def rvsOf (P : Program) : List ResultVar → Option (List Nat)
  | [] => some []
  | r :: l => match rvEnc P r, rvsOf P l with
    | some t, some ts => some (t :: ts)
    | _, _ => none
def retQ (ts : List Nat) (rs : List RV) (e : Exit) (τ : St) : Prop := match e with
  | .normal => retOk τ (ts.map τ.resv) rs
  | .ret => retOk τ (ts.map τ.resv) rs
  | _ => False
def enumFrom : Nat → List AV → List (Nat × AV)
  | _, [] => []
  | i, a :: r => (i, a) :: enumFrom (i + 1) r
theorem enum_get : ∀ (as : List AV) (i t : Nat), St.get.go t (enumFrom i as) = if i ≤ t then as.getD (t - i) .any else .any
  | [], i, t => by simp [enumFrom, St.get.go]
  | a :: r, i, t => by
    simp only [enumFrom, St.get.go]
    cases hb : Nat.beq t i with
    | true =>
      have := Nat.eq_of_beq_eq_true hb; subst this
      simp
    | false =>
      have hne : t ≠ i := fun e => by subst e; rw [Nat.beq_refl] at hb; cases hb
      simp only [cond_false]
      rw [enum_get r (i + 1) t]
      by_cases h : i ≤ t
      · have h1 : i + 1 ≤ t := by omega
        have h2 : t - i = (t - (i + 1)) + 1 := by omega
        rw [if_pos h, if_pos h1, h2]; rfl
      · rw [if_neg h, if_neg (by omega)]
theorem retOkL_get {τ : St} : ∀ {as : List AV} {rs : List RV}, retOkL τ as rs → as.length = rs.length ∧ ∀ (i : Nat) (a : AV) (r : RV), as[i]? = some a → rs[i]? = some r → resOk1 τ a r
  | [], [], _ => ⟨rfl, fun i a r h => by simp at h⟩
  | a :: as, r :: rs, h => by
    obtain ⟨h1, h2⟩ := retOkL_get h.2
    refine ⟨by simp [h1], fun i b q hb hq => ?_⟩
    cases i with
    | zero => simp at hb hq; subst hb; subst hq; exact h.1
    | succ i => exact h2 i b q (by simpa using hb) (by simpa using hq)
  | [], _ :: _, h => h.elim
  | _ :: _, [], h => h.elim
theorem notIn_mem {i : Nat} : ∀ {l : List Nat}, notIn i l = true → i ∉ l
  | [], _ => by simp
  | j :: r, h => by
    simp only [notIn, Bool.and_eq_true, Bool.not_eq_true'] at h
    simp only [List.mem_cons, not_or]
    refine ⟨fun e => ?_, notIn_mem h.2⟩
    subst e; rw [Nat.beq_refl] at h; cases h.1
theorem ownIds_mem : ∀ {as : List AV} {i id : Nat}, as[i]? = some (.own id) → id ∈ ownIds as
  | [], i, id, h => by simp at h
  | a :: r, 0, id, h => by simp at h; subst h; simp [ownIds]
  | a :: r, i + 1, id, h => by
    have := ownIds_mem (as := r) (i := i) (by simpa using h)
    simp only [ownIds]
    split
    · exact List.mem_cons_of_mem _ this
    · exact this
theorem ownIds_inj : ∀ {as : List AV} {i j id : Nat}, nodupB (ownIds as) = true → as[i]? = some (.own id) → as[j]? = some (.own id) → i = j
  | [], i, j, id, _, h, _ => by simp at h
  | a :: r, i, j, id, hn, h1, h2 => by
    have hr : nodupB (ownIds r) = true := by
      simp only [ownIds] at hn
      split at hn
      · simp only [nodupB, Bool.and_eq_true] at hn; exact hn.2
      · exact hn
    cases i with
    | zero =>
      cases j with
      | zero => rfl
      | succ j =>
        simp at h1; subst h1
        simp only [ownIds, nodupB, Bool.and_eq_true] at hn
        exact absurd (ownIds_mem (as := r) (by simpa using h2)) (notIn_mem hn.1)
    | succ i =>
      cases j with
      | zero =>
        simp at h2; subst h2
        simp only [ownIds, nodupB, Bool.and_eq_true] at hn
        exact absurd (ownIds_mem (as := r) (by simpa using h1)) (notIn_mem hn.1)
      | succ j =>
        have := ownIds_inj (as := r) (i := i) (j := j) (id := id) hr (by simpa using h1) (by simpa using h2)
        omega
def resOne (tmps : Array Value) : ResultVar → Sem Value
  | .tmp t => pure (tmps.getD t undef)
  | .cell a t => do loadVar t (← asAddr (tmps.getD a undef))
theorem mapM_res {P : Program} {w : World} {f : ResultVar → Sem Value} : ∀ {l : List ResultVar} {us : List Value}, us.length = l.length → (∀ (i : Nat) (r : ResultVar) (u : Value), l[i]? = some r → us[i]? = some u → (f r).run P w = .ok u w) → (l.mapM f).run P w = .ok us w
  | [], us, hl, _ => by obtain rfl := List.eq_nil_of_length_eq_zero hl; rfl
  | r :: l, us, hl, h => by
    match us, hl with
    | u :: us, hl =>
      have h1 := h 0 r u rfl rfl
      have ih := mapM_res (P := P) (w := w) (f := f) (l := l) (us := us) (by simpa using hl) (fun i r u hr hu => h (i + 1) r u (by simpa using hr) (by simpa using hu))
      simp only [List.mapM_cons, Sem.run_bind, h1, Result.andThen_ok, ih, Sem.run_pure]
theorem results_run {fn : Func} {l : List ResultVar} (h : fn.results.toList = l) {tmps : Array Value} {P : Program} {w : World} {us : List Value} (hl : us.length = l.length) (hu : ∀ (i : Nat) (r : ResultVar) (u : Value), l[i]? = some r → us[i]? = some u → (resOne tmps r).run P w = .ok u w) :
    (results fn tmps).run P w = .ok (retValue us) w := by
  have hr : fn.results = l.toArray := by rw [← h]
  have hm := mapM_res (P := P) (w := w) (f := resOne tmps) hl hu
  have hres : results fn tmps = (do let vs ← fn.results.mapM (resOne tmps); pure (if h : vs.size = 1 then vs[0] else .tuple vs)) := by
    unfold results
    congr 1
  rw [hres, hr, List.mapM_toArray]
  simp only [Sem.run_bind, Sem.run_map, hm, Sem.run_pure, Result.andThen_ok, Result.ok.injEq, and_true]
  by_cases h1 : us.length = 1
  · match us, h1 with
    | [t], _ => simp [retValue]
  · have h2 : ¬ us.toArray.size = 1 := by simpa using h1
    rw [dif_neg h2]
    unfold retValue
    split
    · rename_i v
      exact absurd rfl h1
    · rfl
theorem rvsOf_get {P : Program} : ∀ {l : List ResultVar} {ts : List Nat}, rvsOf P l = some ts → ts.length = l.length ∧ ∀ (i : Nat) (r : ResultVar) (t : Nat), l[i]? = some r → ts[i]? = some t → rvEnc P r = some t
  | [], ts, h => by simp [rvsOf] at h; subst h; simp
  | r :: l, ts, h => by
    simp only [rvsOf] at h
    split at h
    · rename_i t ts' h1 h2
      simp at h; subst h
      obtain ⟨g1, g2⟩ := rvsOf_get h2
      refine ⟨by simp [g1], fun i q u hq hu => ?_⟩
      cases i with
      | zero => simp at hq hu; subst hq; subst hu; exact h1
      | succ i => exact g2 i q u (by simpa using hq) (by simpa using hu)
    · cases h
theorem resv_run {P : Program} {x : Ctx} {S : Nat → Prop} {φ : Nat → Value} {τ : St} {a : Act} {w : World} (hs : Sim x S φ τ a w) {r : ResultVar} {t : Nat} (h : rvEnc P r = some t) (hne : τ.resv t ≠ .any) : ∃ v, (resOne a.tmps r).run P w = .ok v w ∧ AVR x w S φ (τ.resv t) v := by
  cases r with
  | tmp u =>
    simp only [rvEnc] at h
    cases hb : Nat.blt u 1000000 with
    | false => rw [hb] at h; cases h
    | true =>
      rw [hb] at h; simp at h; subst h
      have hlt : u < 1000000 := by simpa [Nat.blt_eq] using hb
      refine ⟨_, rfl, ?_⟩
      unfold St.resv
      rw [if_pos hlt]; exact hs.tms u
  | cell u ty =>
    simp only [rvEnc] at h
    split at h
    · rename_i n hn
      cases hb : Nat.blt u 1000000 with
      | false => rw [hb] at h; cases h
      | true =>
        rw [hb] at h; simp at h; subst h
        have hlt : u < 1000000 := by simpa [Nat.blt_eq] using hb
        have hsc : 1 ≤ shCode n := by cases n <;> simp [shCode]
        have e1 : ¬ (shCode n * 1000000 + u < 1000000) := by omega
        have e2 : (shCode n * 1000000 + u) / 1000000 = shCode n := by
          rw [Nat.mul_comm, Nat.mul_add_div (by omega), Nat.div_eq_of_lt hlt, Nat.add_zero]
        have e3 : (shCode n * 1000000 + u) % 1000000 = u := by
          rw [Nat.mul_comm, Nat.mul_add_mod, Nat.mod_eq_of_lt hlt]
        unfold St.resv at hne ⊢
        rw [if_neg e1, e2, e3] at hne ⊢
        have h1 := hs.tms u
        generalize hq : τ.get u = q at h1 hne ⊢
        obtain ⟨id, off, rfl⟩ : ∃ id off, q = .ptr id off := by
          cases q <;> first | exact ⟨_, _, rfl⟩ | exact absurd rfl hne
        have hbox : ∃ t' cs, obGet id τ.ob = some (.box t' cs) := by
          simp only [St.resC] at hne
          split at hne
          · exact ⟨_, _, by assumption⟩
          · exact absurd rfl hne
        obtain ⟨t', cs, ho⟩ := hbox
        have eC : τ.resC (shCode n) (.ptr id off) = cellAV (shCode n) (cs.drop off) := by simp [St.resC, ho]
        rw [eC] at hne ⊢
        · generalize hz : a.tmps.getD u undef = z at h1
          cases h1 with
          | @ptr _ b _ hb' =>
            have hob : (ldCells n (cs.drop off)).2 ∧ cellAV (shCode n) (cs.drop off) = (ldCells n (cs.drop off)).1 := by
              cases n with
              | none =>
                simp only [shCode, cellAV] at hne ⊢
                cases hcs : cs.drop off with
                | nil => rw [hcs] at hne; simp at hne
                | cons c r => simp [ldCells]
              | some m =>
                simp only [shCode, cellAV] at hne ⊢
                cases hm : Nat.ble m (cs.drop off).length with
                | false => rw [hm] at hne; simp at hne
                | true => exact ⟨Nat.le_of_ble_eq_true hm, by simp [ldCells]⟩
            obtain ⟨v, hv, hrun⟩ := ld_sound (P := P) (x := x) hn (memAt_box (hs.obs id _ ho) hb') hob.1
            refine ⟨v, ?_, by rw [hob.2]; exact hv⟩
            have := hrun w (Ext.refl _ _)
            simp only [Instr.loadAt, Instr.sureAddr, Sem.run_bind, Sem.run_pure, Result.andThen_ok] at this
            simp only [resOne, hz, asAddr, Sem.run_bind, Sem.run_pure, Result.andThen_ok]
            exact this
    · cases h
section
variable {P : Program}
def closedCell0 (ob : List (Nat × AO)) : AV → Bool
  | .c _ => true
  | .dptr _ => true
  | .any => true
  | .own id => hasKey id ob
  | .ptr id _ => hasKey id ob
  | _ => false
def closedCell (ob : List (Nat × AO)) : AV → Bool
  | .c _ => true
  | .dptr _ => true
  | .any => true
  | .own id => hasKey id ob
  | .ptr id _ => hasKey id ob
  | .fn _ cs => cs.all (closedCell0 ob)
  | _ => false
theorem closedCell0_key {ob : List (Nat × AO)} {i : Nat} {a : AV} (hc : closedCell0 ob a = true) (hi : a.noId i = false) : hasKey i ob = true := by
  cases a with
  | own k => simp [AV.noId] at hi; have := Nat.eq_of_beq_eq_true (by simpa using hi : Nat.beq i k = true); subst this; exact hc
  | ptr k off => simp [AV.noId] at hi; have := Nat.eq_of_beq_eq_true (by simpa using hi : Nat.beq i k = true); subst this; exact hc
  | c d => simp [AV.noId] at hi
  | dptr d => simp [AV.noId] at hi
  | any => simp [AV.noId] at hi
  | _ => simp [closedCell0] at hc
theorem closedCell_key {ob : List (Nat × AO)} {i : Nat} {a : AV} (hc : closedCell ob a = true) (hi : a.noId i = false) : hasKey i ob = true := by
  cases a with
  | own k => exact closedCell0_key (a := .own k) hc hi
  | ptr k off => exact closedCell0_key (a := .ptr k off) hc hi
  | c d => simp [AV.noId] at hi
  | dptr d => simp [AV.noId] at hi
  | any => simp [AV.noId] at hi
  | fn f cs =>
    simp only [closedCell] at hc
    simp only [AV.noId] at hi
    have key : ∀ l : List AV, l.all (closedCell0 ob) = true → noIds i l = false → hasKey i ob = true := by
      intro l
      induction l with
      | nil => intro _ h; simp [noIds] at h
      | cons b r ih =>
        intro h1 h2
        simp only [List.all_cons, Bool.and_eq_true] at h1
        simp only [noIds] at h2
        cases hb : b.noId i with
        | false => exact closedCell0_key h1.1 hb
        | true => rw [hb] at h2; exact ih h1.2 (by simpa using h2)
    exact key cs hc hi
  | _ => simp [closedCell] at hc
def closedOb (ob : List (Nat × AO)) : List (Nat × AO) → Bool
  | [] => true
  | (_, .box _ cs) :: r => cs.all (closedCell ob) && closedOb ob r
  | (_, .rows ..) :: _ => false
  | (_, .rows2 ..) :: _ => false
  | _ :: r => closedOb ob r
theorem closedOb_get {ob : List (Nat × AO)} {i t : Nat} {cs : List AV} : ∀ {l : List (Nat × AO)}, closedOb ob l = true → obGet i l = some (.box t cs) → cs.all (closedCell ob) = true
  | [], _, h => by simp [obGet] at h
  | (s, p) :: r, hf, h => by
    simp only [obGet] at h
    have hr : closedOb ob r = true := by
      cases p with
      | box t cs => simp only [closedOb, Bool.and_eq_true] at hf; exact hf.2
      | arr => exact hf
      | map => exact hf
      | iter => exact hf
      | rows => cases hf
      | rows2 => cases hf
    cases hb : Nat.beq i s with
    | true =>
      rw [hb] at h; simp at h; subst h
      simp only [closedOb, Bool.and_eq_true] at hf; exact hf.1
    | false => rw [hb] at h; exact closedOb_get hr (by simpa using h)
theorem closedOb_plain {ob : List (Nat × AO)} {i : Nat} {o : AO} : ∀ {l : List (Nat × AO)}, closedOb ob l = true → obGet i l = some o → o.plainB = true
  | [], _, h => by simp [obGet] at h
  | (s, p) :: r, hf, h => by
    simp only [obGet] at h
    cases hb : Nat.beq i s with
    | true =>
      rw [hb] at h; simp at h; subst h
      cases p with
      | rows => cases hf
      | rows2 => cases hf
      | _ => rfl
    | false =>
      rw [hb] at h
      cases p with
      | box t cs => simp only [closedOb, Bool.and_eq_true] at hf; exact closedOb_plain hf.2 (by simpa using h)
      | arr => exact closedOb_plain (l := r) hf (by simpa using h)
      | map => exact closedOb_plain (l := r) hf (by simpa using h)
      | iter => exact closedOb_plain (l := r) hf (by simpa using h)
      | rows => cases hf
      | rows2 => cases hf
def apartIds (ob : List (Nat × AO)) : List Nat → Bool
  | [] => true
  | i :: r => !hasKey i ob && apartIds ob r
theorem apartIds_mem {ob : List (Nat × AO)} {i : Nat} : ∀ {l : List Nat}, apartIds ob l = true → i ∈ l → hasKey i ob = false
  | [], _, h => by simp at h
  | j :: r, h, hm => by
    simp only [apartIds, Bool.and_eq_true, Bool.not_eq_true'] at h
    rcases List.mem_cons.1 hm with rfl | hm
    · exact h.1
    · exact apartIds_mem h.2 hm
def bigIds : List Nat → Bool
  | [] => true
  | i :: r => Nat.ble 1000000 i && bigIds r
theorem bigIds_mem {i : Nat} : ∀ {l : List Nat}, bigIds l = true → inL i l = true → 1000000 ≤ i
  | [], _, h => by simp [inL] at h
  | j :: r, h, hm => by
    simp only [bigIds, Bool.and_eq_true] at h
    simp only [inL, Bool.or_eq_true] at hm
    rcases hm with hm | hm
    · have := Nat.eq_of_beq_eq_true hm; subst this
      exact Nat.le_of_ble_eq_true h.1
    · exact bigIds_mem h.2 hm
def retOkW (τ : St) (as : List AV) (rs : List RV) (ob' : List (Nat × AO)) : Prop := retOk τ as rs ∧ τ.le2 ob' ∧ closedOb ob' ob' = true ∧ apartIds ob' (ownIds as) = true
def retQW (ts : List Nat) (rs : List RV) (ob' : List (Nat × AO)) (e : Exit) (τ : St) : Prop := match e with
  | .normal => retOkW τ (ts.map τ.resv) rs ob'
  | .ret => retOkW τ (ts.map τ.resv) rs ob'
  | _ => False
def rowless : List (Nat × AO) → Bool
  | [] => true
  | (_, o) :: r => o.plainB && rowless r
theorem rowless_get {i : Nat} {o : AO} : ∀ {l : List (Nat × AO)}, rowless l = true → obGet i l = some o → o.plainB = true
  | [], _, h => by simp [obGet] at h
  | (s, p) :: r, hf, h => by
    simp only [rowless, Bool.and_eq_true] at hf
    simp only [obGet] at h
    cases hb : Nat.beq i s with
    | true => rw [hb] at h; simp at h; subst h; exact hf.1
    | false => rw [hb] at h; exact rowless_get hf.2 (by simpa using h)
theorem fn_introW {f : Nat} {fn : Func} {code : Code} {ac : AC} {ts : List Nat} {as : List AV} {rs : List RV} {ob ob' : List (Nat × AO)} {kp : List Nat} (hf : P.funcs[f]? = some fn) (hb : fn.body = some code) (hcb : callB P f = true) (hc : comp P code = some ac)
    (hr : rvsOf P fn.results.toList = some ts) (hn : as.length ≤ fn.ntmps ∧ fn.ntmps ≤ 10000) (hkp : bigIds kp = true) (h : AW P ac (retQW ts rs ob') ⟨fn.ntmps, enumFrom 0 as, ob⟩) (hpl : rowless ob = true := by rfl) : FnW P f as ob rs ob' kp := by
  refine ⟨hcb, fun w S φ vs hS hlen hargs hobs => calls_of_wp hf hb (Code.wp_mono ?_ (h code hc ⟨P, w, S, blkIO φ ob, φ⟩ S φ _ w rfl ?_))⟩
  · rintro e a w' ⟨τ, S', ψ, hq, hs⟩
    have main : retOkW τ (ts.map τ.resv) rs ob' → a.defers = [] ∧ ∃ v, (results fn a.tmps).run P w' = .ok v w' ∧ ∃ us S' φ', Ending.returned v = .returned (retValue us) ∧ ResW w S (blkIO φ ob) w' rs us S' ∧ Ext (fun b => ¬ blkIO φ ob b) w w' ∧ ObsR ⟨P, w, S, blkIO φ ob, φ⟩ w' S' φ' ob' ∧
      (∀ (i : Nat) (e k : Nat) (xs : List (List CD)) (v : Value) (b id : Nat) (o : AO), rs[i]? = some (.own e k xs) → us[i]? = some v → Value.blk v = some b → obGet id ob' = some o → Value.blk (φ' id) ≠ some b) ∧
      (∀ id, inL id kp = true → φ' id = φ id) ∧ ∀ id, hasKey id ob' = false → φ' id = φ id := by
      rintro ⟨⟨hok, hnd⟩, hle, hcl, hap⟩
      have hlo := fun i o h => le2_get hle i o h
      obtain ⟨hl, hres⟩ := retOkL_get hok
      obtain ⟨hr1, hr2⟩ := rvsOf_get hr
      have hne : ∀ (i t : Nat), ts[i]? = some t → ∃ r, rs[i]? = some r ∧ resOk1 τ (τ.resv t) r ∧ τ.resv t ≠ .any := fun i t ht => by
        have hil : i < rs.length := by
          have h1 := (List.getElem?_eq_some_iff.1 ht).1
          simp at hl; omega
        have hok := hres i (τ.resv t) rs[i] (by simp [ht]) (List.getElem?_eq_getElem hil)
        refine ⟨_, List.getElem?_eq_getElem hil, hok, fun e => ?_⟩
        rw [e] at hok
        cases hri : rs[i] <;> rw [hri] at hok <;> exact hok
      have hus : ∃ us : List Value, us.length = fn.results.toList.length ∧ (∀ (i : Nat) (r : ResultVar) (u : Value), fn.results.toList[i]? = some r → us[i]? = some u → (resOne a.tmps r).run P w' = .ok u w') ∧ ∀ (i t : Nat) (u : Value), ts[i]? = some t → us[i]? = some u → AVR ⟨P, w, S, blkIO φ ob, φ⟩ w' S' ψ (τ.resv t) u := by
        have key : ∀ (l : List ResultVar) (us : List Nat), us.length = l.length → (∀ (i : Nat) (r : ResultVar) (t : Nat), l[i]? = some r → us[i]? = some t → rvEnc P r = some t ∧ τ.resv t ≠ .any) → ∃ vs : List Value, vs.length = l.length ∧ (∀ (i : Nat) (r : ResultVar) (u : Value), l[i]? = some r → vs[i]? = some u → (resOne a.tmps r).run P w' = .ok u w') ∧ ∀ (i t : Nat) (u : Value), us[i]? = some t → vs[i]? = some u → AVR ⟨P, w, S, blkIO φ ob, φ⟩ w' S' ψ (τ.resv t) u := by
          intro l
          induction l with
          | nil =>
            intro us hl _
            obtain rfl := List.eq_nil_of_length_eq_zero hl
            exact ⟨[], rfl, fun i r u h => by simp at h, fun i t u h => by simp at h⟩
          | cons r l ih =>
            intro us hl h
            match us, hl with
            | t :: us, hl =>
              obtain ⟨vs, h1, h2, h3⟩ := ih us (by simpa using hl) fun i r t hr ht => h (i + 1) r t (by simpa using hr) (by simpa using ht)
              obtain ⟨g1, g2⟩ := h 0 r t rfl rfl
              obtain ⟨v, hv1, hv2⟩ := resv_run hs g1 g2
              refine ⟨v :: vs, by simp [h1], fun i r' u hr' hu => ?_, fun i t' u ht' hu => ?_⟩
              · cases i with
                | zero => simp at hr' hu; subst hr'; subst hu; exact hv1
                | succ i => exact h2 i r' u (by simpa using hr') (by simpa using hu)
              · cases i with
                | zero => simp at ht' hu; subst ht'; subst hu; exact hv2
                | succ i => exact h3 i t' u (by simpa using ht') (by simpa using hu)
        refine key _ ts hr1 fun i r t hr' ht => ⟨hr2 i r t hr' ht, ?_⟩
        obtain ⟨_, _, _, h⟩ := hne i t ht
        exact h
      obtain ⟨us0, hus1, hus2, hus3⟩ := hus
      have hval : ∀ (i : Nat) (r : RV) (v : Value), rs[i]? = some r → us0[i]? = some v → ∃ q, (ts.map τ.resv)[i]? = some q ∧ AVR ⟨P, w, S, blkIO φ ob, φ⟩ w' S' ψ q v ∧ resOk1 τ q r := by
        intro i r v hri hv
        have hit : i < ts.length := by
          have h1 := (List.getElem?_eq_some_iff.1 hv).1
          omega
        have ht : ts[i]? = some ts[i] := List.getElem?_eq_getElem hit
        exact ⟨τ.resv ts[i], by simp [ht], hus3 i _ v ht hv, hres i _ r (by simp [ht]) hri⟩
      have hSown : ∀ id o b, obGet id τ.ob = some o → Value.blk (ψ id) = some b → ¬ S b := by
        intro id o b ho hb h
        rcases (hs.own id o b ho hb).2.2 with h' | ⟨i, p, hp, h'⟩
        · have := hS b h; simp at h'; omega
        · exact (hobs.own i p b hp h').1 h
      refine ⟨hs.defers, _, results_run rfl hus1 hus2, us0, fun b => S b ∨ S' b ∨ ∃ (i id : Nat) (d : CD), (ts.map τ.resv)[i]? = some (.own id) ∧ rs[i]? = some (.c d) ∧ (∃ o, obGet id τ.ob = some o) ∧ Value.blk (ψ id) = some b, (fun id => bif hasKey id ob' then ψ id else φ id), rfl, ?_, hs.ext, ?_, ?_, ?_, ?_⟩
      · refine ⟨fun b hb => .inl hb, fun b hb => ?_, fun b hb => ?_, by simp at hl; omega, fun i r v hri hv => ?_, fun i e k xs v b hri hv hb => ?_, fun i j e k xs e' k' xs' v u b hri hrj hv hu hbv hbu => ?_⟩
        · rcases hb with hb | hb | ⟨i, id, d, _, _, ⟨o, ho⟩, hb⟩
          · exact .inl hb
          · exact (hs.dat b hb).2
          · exact .inr (hs.own id o b ho hb).2.2
        · rcases hb with hb | hb | ⟨i, id, d, _, _, ⟨o, ho⟩, hb⟩
          · exact Nat.lt_of_lt_of_le (hS b hb) hs.ext.size
          · exact (hs.dat b hb).1
          · exact (hs.own id o b ho hb).2.1
        · obtain ⟨q, hq, hr, hok⟩ := hval i r v hri hv
          cases r with
          | c d =>
            simp only [resOk1] at hok
            split at hok
            · subst hok
              cases hr with
              | c h => exact h.mono fun b hb => .inr (.inl hb)
            · rename_i id
              split at hok
              · rename_i e k xs ho
                subst hok
                have := hs.obs id _ ho
                cases hr
                cases this with
                | arr h => exact (h.mono fun b hb => .inr (.inl hb)).data fun b hb => .inr (.inr ⟨i, id, _, hq, hri, ⟨_, ho⟩, hb⟩)
              · rename_i kk es ho
                subst hok
                have := hs.obs id _ ho
                have hbk : ∀ b, Value.blk (ψ id) = some b → _ := fun b hb => (.inr (.inr ⟨i, id, _, hq, hri, ⟨_, ho⟩, hb⟩) : S b ∨ S' b ∨ ∃ (i id : Nat) (d : CD), (ts.map τ.resv)[i]? = some (.own id) ∧ rs[i]? = some (.c d) ∧ (∃ o, obGet id τ.ob = some o) ∧ Value.blk (ψ id) = some b)
                cases hr
                generalize ψ id = z at this hbk
                cases this with
                | map hb hst hm => exact MapR.data hb (hbk _ rfl) hst (hm.mono fun b hb => .inr (.inl hb))
              · exact hok.elim
            · exact hok.elim
          | agg ds =>
            simp only [resOk1] at hok
            split at hok
            · rename_i cs
              obtain ⟨h1, h2⟩ := toCDs_get hok
              cases hr with
              | @agg _ us hl hr _ =>
                refine ⟨us, rfl, hl.trans h1, fun j d u hd hu => ?_⟩
                have := hr j _ u (h2 j d hd) hu
                cases this with
                | c h => exact h.mono fun b hb => .inr (.inl hb)
            · exact hok.elim
          | own e k xs =>
            simp only [resOk1] at hok
            split at hok
            · rename_i id
              split at hok
              · rename_i e' k' xs' ho
                obtain ⟨rfl, rfl, rfl⟩ := hok
                have := hs.obs id _ ho
                cases hr
                cases this with
                | arr h => exact h.mono fun b hb => .inr (.inl hb)
              · exact hok.elim
            · subst hok
              cases hr with
              | c h => cases h; exact .nil
            · exact hok.elim
        · obtain ⟨q, hq, hr, hok⟩ := hval i _ v hri hv
          simp only [resOk1] at hok
          split at hok
          · rename_i id
            split at hok
            · rename_i e' k' xs' ho
              cases hr
              obtain ⟨h1, h2, h3⟩ := hs.own id _ b ho hb
              refine ⟨?_, h3, h2⟩
              rintro (h | h | ⟨j, id', d, hj, hrj, ⟨o', ho'⟩, hb'⟩)
              · exact hSown id _ b ho hb h
              · exact h1 h
              · have := hs.inj id id' _ _ b ho ho' hb hb'
                subst this
                have := ownIds_inj hnd hq hj
                subst this
                rw [hri] at hrj; cases hrj
            · exact hok.elim
          · cases hr with
            | c h => cases h; cases hb
          · exact hok.elim
        · obtain ⟨q, hq, hr, hok⟩ := hval i _ v hri hv
          obtain ⟨q', hq', hr', hok'⟩ := hval j _ u hrj hu
          simp only [resOk1] at hok hok'
          split at hok
          · rename_i id
            split at hok
            · rename_i ho
              split at hok'
              · rename_i id'
                split at hok'
                · rename_i ho'
                  cases hr; cases hr'
                  have := hs.inj id id' _ _ b ho ho' hbv hbu
                  subst this
                  exact ownIds_inj hnd hq hq'
                · exact hok'.elim
              · cases hr' with
                | c h => cases h; cases hbu
              · exact hok'.elim
            · exact hok.elim
          · cases hr with
            | c h => cases h; cases hbv
          · exact hok.elim
      · -- the objects
        refine ⟨fun id o ho => ?_, fun id o b ho hb => ?_, fun id id' o o' b ho ho' hb hb' => ?_⟩
        · simp only [hasKey_of ho, cond_true]
          have h1 := (hs.obs id o (hlo id o ho)).mono (T := fun b => S b ∨ S' b ∨ ∃ (i id : Nat) (d : CD), (ts.map τ.resv)[i]? = some (.own id) ∧ rs[i]? = some (.c d) ∧ (∃ o, obGet id τ.ob = some o) ∧ Value.blk (ψ id) = some b) fun b hb => .inr (.inl hb)
          generalize hz : ψ id = z at h1
          cases h1 with
          | arr h => exact .arr h
          | map hb hst h => exact .map hb hst h
          | iter hr hS hg hst hsc h hc => exact .iter hr hS hg hst hsc h hc
          | rows0 => exact .rows0
          | rows hg hn hc hs h1 hr hd hw => cases closedOb_plain hcl ho
          | rows2 hg hn hc hs h1 hr hd hw hw' => cases closedOb_plain hcl ho
          | box hb hs' h h1 =>
            refine .box hb hs' (fun j a v ha hv => (h j a v ha hv).agree fun i hi => ?_) h1
            have hc := closedOb_get hcl ho
            rw [List.all_eq_true] at hc
            have hc := hc a (List.mem_of_getElem? ha)
            have hk : hasKey i ob' = true := closedCell_key hc hi
            simp [hk]
        · simp only [hasKey_of ho, cond_true] at hb
          obtain ⟨h1, h2, h3⟩ := hs.own id o b (hlo id o ho) hb
          refine ⟨?_, h2, h3⟩
          rintro (h | h | ⟨j, id', d, hj, hrj, ⟨o', ho'⟩, hb'⟩)
          · exact hSown id _ b (hlo id o ho) hb h
          · exact h1 h
          · have := hs.inj id id' _ _ b (hlo id o ho) ho' hb hb'
            subst this
            have := apartIds_mem hap (ownIds_mem hj)
            rw [hasKey_of ho] at this; cases this
        · simp only [hasKey_of ho, cond_true] at hb
          simp only [hasKey_of ho', cond_true] at hb'
          exact hs.inj id id' o o' b (hlo id o ho) (hlo id' o' ho') hb hb'
      · intro i e k xs v b id o hri hv hb ho hb'
        simp only [hasKey_of ho, cond_true] at hb'
        obtain ⟨q, hq, hr, hok⟩ := hval i _ v hri hv
        simp only [resOk1] at hok
        split at hok
        · rename_i id'
          split at hok
          · rename_i ho2
            cases hr
            have := hs.inj id' id _ _ b ho2 (hlo id o ho) hb hb'
            subst this
            have := apartIds_mem hap (ownIds_mem hq)
            rw [hasKey_of ho] at this; cases this
          · exact hok.elim
        · cases hr with
          | c h => cases h; cases hb
        · exact hok.elim
      · intro id hk
        cases hb2 : hasKey id ob' with
        | false => simp [hb2]
        | true => simp only [hb2, cond_true]; exact hs.pins id (bigIds_mem hkp hk)
      · intro id hk
        simp [hk]
    cases e with
    | normal => exact main hq
    | ret => exact main hq
    | exit id => exact hq.elim
    | goto l => exact hq.elim
    | panic c => exact hq.elim
    | outgrown => exact hq.elim
  · refine ⟨fun t => ?_, by simp [hlen]; omega, hobs.obs, fun id o b h1 h2 => ⟨(hobs.own id o b h1 h2).1, (hobs.own id o b h1 h2).2.1, .inr ⟨id, o, h1, h2⟩⟩, hobs.inj, fun id o b h1 h2 => absurd h2 (innerB_plain (rowless_get hpl h1) _ _), fun b hb => ⟨hS b hb, .inl hb⟩, Ext.refl _ _, rfl, hn.2, fun _ _ => rfl⟩
    show AVR _ w S φ (St.get.go t (enumFrom 0 as)) _
    rw [enum_get]
    simp only [Nat.zero_le, if_true, Nat.sub_zero]
    rcases Nat.lt_or_ge t as.length with ht | ht
    · have hv : t < vs.length := by omega
      have e1 : (vs.toArray ++ Array.replicate (fn.ntmps - vs.toArray.size) undef).getD t undef = vs[t] := by
        rw [Array.getD_eq_getD_getElem?, Array.getElem?_append_left (by simpa using hv)]
        simp [hv]
      rw [e1]
      simp only [List.getD, List.getElem?_eq_getElem ht, Option.getD_some]
      exact hargs t _ _ (List.getElem?_eq_getElem ht) (List.getElem?_eq_getElem hv)
    · simp only [List.getD, List.getElem?_eq_none ht, Option.getD_none]
      exact .any
theorem FnR_of_W {f : Nat} {as : List AV} {rs : List RV} (h : FnW P f as [] rs [] []) : FnR P f as rs := by
  refine ⟨h.1, fun w S φ vs hS hl ha => ?_⟩
  have e : blkIO φ [] = fun _ => False := by
    funext b
    refine propext ⟨?_, fun h => h.elim⟩
    rintro ⟨id, o, ho, _⟩
    simp [obGet] at ho
  have h1 := h.2 w S φ vs hS hl (by rw [e]; exact ha) ⟨fun id o h => by simp [obGet] at h, fun id o b h => by simp [obGet] at h, fun id id' o o' b h => by simp [obGet] at h⟩
  rw [e] at h1
  refine h1.mono ?_
  rintro E w' ⟨us, S', ψ, rfl, hres, hext, _, _, _, _⟩
  refine ⟨us, S', rfl, ⟨hres.inc, fun b hb => ?_, hres.lt, hres.len, hres.rel, fun i e k xs v b h1 h2 h3 => ?_, hres.inj⟩, ⟨hext.os, hext.tape, hext.output, hext.size, fun b hl => hext.block b (fun h => h) hl⟩⟩
  · exact (hres.new b hb).imp_right fun h => h.resolve_right fun h => h
  · obtain ⟨g1, g2, g3⟩ := hres.own i e k xs v b h1 h2 h3
    exact ⟨g1, g2.resolve_right fun h => h, g3⟩
theorem fn_intro {f : Nat} {fn : Func} {code : Code} {ac : AC} {ts : List Nat} {as : List AV} {rs : List RV} (hf : P.funcs[f]? = some fn) (hb : fn.body = some code) (hcb : callB P f = true) (hc : comp P code = some ac)
    (hr : rvsOf P fn.results.toList = some ts) (hn : as.length ≤ fn.ntmps ∧ fn.ntmps ≤ 10000) (h : AW P ac (retQ ts rs) ⟨fn.ntmps, enumFrom 0 as, []⟩) : FnR P f as rs := by
  refine FnR_of_W (fn_introW hf hb hcb hc hr hn rfl (AW_mono h fun e τ hq => ?_))
  have key : ∀ l : List Nat, apartIds [] l = true := by
    intro l
    induction l with
    | nil => rfl
    | cons i r ih => simp [apartIds, hasKey, ih]
  cases e with
  | normal => exact ⟨hq, trivial, rfl, key _⟩
  | ret => exact ⟨hq, trivial, rfl, key _⟩
  | _ => exact hq
end
end Go.AL

