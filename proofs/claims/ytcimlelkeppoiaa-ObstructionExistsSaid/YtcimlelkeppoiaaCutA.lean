/-
  Lemmas for the proof: no statement of its own.
-/
import Derived.Test.YtcimlelkeppoiaaAlD
set_option linter.unusedVariables false
set_option linter.unusedSimpArgs false
open Go
namespace Go.AL
set_option linter.unusedVariables false
variable {P : Program}
def MonoQ (Q : Exit → St → Prop) : Prop := ∀ σ τ : St, σ.le τ → Q .normal τ → Q .normal σ
theorem MonoQ.seq {c : AC} {Q : Exit → St → Prop} : MonoQ (seqQ P c Q) := fun σ τ hl h => AW_le τ hl h
theorem MonoQ.block {id : Nat} {Q : Exit → St → Prop} (h : MonoQ Q) : MonoQ (blockQ id Q) := fun σ τ hl hq => h σ τ hl hq
def cutQ (τ : St) : Exit → St → Prop
  | .normal, σ => σ.le τ
  | _, _ => False
theorem cutQ_normal (τ σ : St) : cutQ τ .normal σ = (σ.n = τ.n ∧ σ.le1 τ.tm ∧ σ.le2 τ.ob) := rfl
attribute [go_sem] cutQ_normal
theorem AW_cut {c : AC} (τ σ0 : St) {Q : Exit → St → Prop} {σ : St} (h : AW P c (cutQ τ) σ0) (hl : σ.le σ0) (hk : Q .normal τ) (hq : MonoQ Q := by repeat first | exact MonoQ.seq | refine MonoQ.block ?_) : AW P c Q σ :=
  AW_le σ0 hl (AW_mono h fun e σ' hl => by
    cases e with
    | normal => exact hq σ' τ hl hk
    | _ => exact hl.elim)
end Go.AL

namespace Go.AL
open Go Go.RowKit
section
variable {x : Ctx} {S : Nat → Prop} {φ : Nat → Value} {σ : St} {a : Act} {w : World} {P : Program} {c : AC} {Q : Exit → St → Prop}
theorem Sim.mark (hs : Sim x S φ σ a w) : Sim x S φ (σ.put 20000 (.opt false .any)) a w := by
  refine ⟨fun t => ?_, hs.size, hs.obs, hs.own, hs.inj, hs.inr, hs.dat, hs.ext, hs.defers, hs.small, hs.pins⟩
  rw [get_put]
  by_cases h : t = 20000
  · subst h
    rw [if_pos rfl]
    refine .opt (fun h => by cases h) fun _ => ?_
    have h1 := hs.size
    have h2 := hs.small
    rw [Array.getD_eq_getD_getElem?, Array.getElem?_eq_none (by omega)]; rfl
  · rw [if_neg h]; exact hs.tms t
end
end Go.AL

namespace Go.AL
open Go Go.RowKit
set_option linter.unusedVariables false
section
variable {x : Ctx} {S : Nat → Prop} {φ : Nat → Value} {σ : St} {a : Act} {w : World} {P : Program}
def CW (P : Program) (code : Code) (Q : Exit → St → Prop) (σ : St) : Prop :=
  ∀ (x : Ctx) (S : Nat → Prop) (φ : Nat → Value) (a : Act) (w : World), x.P = P → Sim x S φ σ a w → code.wp P (simQ x Q) a w
theorem CW.of {code : Code} {c : AC} {Q : Exit → St → Prop} (hc : comp P code = some c) (h : AW P c Q σ) : CW P code Q σ := h code hc
def cwQ (P : Program) (z : Code) (Q : Exit → St → Prop) : Exit → St → Prop
  | .normal, τ => CW P z Q τ
  | e, τ => Q e τ
attribute [go_sem] cwQ
theorem CW.seq {y z : Code} {Q : Exit → St → Prop} (h : CW P y (cwQ P z Q) σ) : CW P (.seq y z) Q σ := fun x S φ a w hx hs => by
  refine wp_seq (Code.wp_mono (fun e a' w' hq => ?_) (h x S φ a w hx hs))
  obtain ⟨τ, S', φ', hq, hs'⟩ := hq
  cases e with
  | normal => exact hq x S' φ' a' w' hx hs'
  | _ => exact ⟨τ, S', φ', hq, hs'⟩
theorem clear_run {t ty e k l cap : Nat} {inf : TypeInfo} {z : Value} {zc : List CD} {xs : List (List CD)} {A : Option Addr} (ht : P.underlying t = some (.slice e)) (hi : P.info? e = some inf) (hz : inf.zero = some z) (hk0 : 0 < k)
    (hzc : constCDs z.cells.toList = some zc) (hzl : zc.length = k) (h : ArrR w S e k xs (.slice A xs.length cap)) (hl : l ≤ xs.length) (hS : ∀ b, Value.blk (.slice A xs.length cap) = some b → ¬ S b) :
    ∃ w', (Builtin.clear_ #[t] ty #[.slice (if cap = l then A else A.map (·.add (l * k))) (xs.length - l) (cap - l)]).run P w = .ok (.tuple #[]) w' ∧ Ext (fun b => Value.blk (.slice A xs.length cap) ≠ some b) w w' ∧ ArrR w' S e k (xs.take l ++ List.replicate (xs.length - l) zc) (.slice A xs.length cap) := by
  by_cases hn : xs.length - l = 0
  · refine ⟨w, ?_, Ext.refl _ _, ?_⟩
    · rw [hn]
      split <;> cases A <;> simp [Builtin.clear_, run_underlying ht]
    · rw [hn, List.replicate_zero, List.append_nil, List.take_of_length_le (by omega)]; exact h
  · obtain ⟨c1, c2⟩ := constCDs_sound hzc w S
    have hzs : z.cells.size = k := by simpa [hzl] using c1
    generalize hxl : xs.length = n at *
    generalize hv : Value.slice A n cap = v at h
    cases h with
    | nil => simp at hxl; omega
    | @row _ g o cap' cur hg hn' hcm hs hk' h1 hrd =>
      simp only [Value.slice.injEq] at hv
      obtain ⟨rfl, hv2, rfl⟩ := hv
      have hcl : ¬ cap = l := by omega
      have hnl : l * k + (n - l) * k = n * k := by rw [← Nat.add_mul]; congr 1; omega
      have hnk : n * k ≤ cap * k := Nat.mul_le_mul_right _ (by omega)
      have hsz : (Builtin.zeroCells z.cells (n - l)).toList.length = (n - l) * k := by rw [Array.length_toList, size_zeroC, hzs]
      have hz1 : ∀ u ∈ z.cells.toList, u.oneCell' = true := fun u hu => by
        obtain ⟨j, hj, rfl⟩ := List.getElem_of_mem hu
        exact (c2 j _ _ (List.getElem?_eq_getElem (by rw [← c1]; exact hj)) (List.getElem?_eq_getElem hj)).oneCell
      have hv1 := zero_one z.cells (n - l) hz1 (by omega)
      have hst := run_storeCells_at P g (o + l * k) e (Builtin.zeroCells z.cells (n - l)).toList 0 cur w hg (by rw [hsz]; omega) hv1
      simp only [Nat.add_zero] at hst
      have hgz : ∀ q, q < (n - l) * k → (Builtin.zeroCells z.cells (n - l)).toList[q]? = z.cells.toList[q % k]? := fun q hq => by
        have hm : q % k < z.cells.size := by rw [hzs]; exact Nat.mod_lt _ hk0
        simp only [Builtin.zeroCells, Array.toList_map, Array.toList_range, List.getElem?_map, hzs]
        rw [List.getElem?_range (by omega)]
        simp only [Option.map_some]
        rw [getElem!_pos z.cells (q % k) hm, Array.getElem?_toList, Array.getElem?_eq_getElem hm]
      generalize hvs : (Builtin.zeroCells z.cells (n - l)).toList = vs at *
      have hext : Ext (fun b => b ≠ g) w (w.setRow g (cur.toList.take (o + l * k) ++ vs ++ cur.toList.drop (o + l * k + vs.length)).toArray) := ext_setRow w g _
      have hgS : ¬ S g := hS g (by simp [Value.blk])
      have heS := hext.mono (T := S) fun b hb e => hgS (e ▸ hb)
      refine ⟨_, ?_, hext.mono fun b hb e => hb (by subst e; rfl), ?_⟩
      · rw [if_neg hcl]
        obtain ⟨m, hm⟩ : ∃ m, n - l = m + 1 := ⟨n - l - 1, by omega⟩
        have hzv : (zeroValue e).run P w = .ok z w := by simp [zeroValue, typeInfo, hi, hz, Result.andThen]
        rw [hm] at hvs ⊢
        simp only [Option.map_some, addr_add]
        simp [Builtin.clear_, run_underlying ht, hzv, hvs, hst]
      · have hlen : (xs.take l ++ List.replicate (n - l) zc).length = n := by simp; omega
        suffices hR : ArrR (w.setRow g (cur.toList.take (o + l * k) ++ vs ++ cur.toList.drop (o + l * k + vs.length)).toArray) S e k (xs.take l ++ List.replicate (n - l) zc) (.slice (some ⟨g, o, none⟩) (xs.take l ++ List.replicate (n - l) zc).length cap) by
          rw [hlen] at hR
          rw [← hv2]; exact hR
        refine .row (setRow_heap w g cur _ e _ hg) (by omega) hcm (by simp; omega) (fun y hy => ?_) (fun u hu => ?_) fun i' j y d hy hd => ?_
        · rcases List.mem_append.1 hy with hy | hy
          · exact hk' y (List.mem_of_mem_take hy)
          · rw [List.eq_of_mem_replicate hy]; exact hzl
        · simp only [List.mem_append] at hu
          rcases hu with (hu | hu) | hu
          · exact h1 u (List.mem_of_mem_take hu)
          · exact hv1 u hu
          · exact h1 u (List.mem_of_mem_drop hu)
        · have e0 : (cur.toList.take (o + l * k)).length = o + l * k := by simp; omega
          have etl : (xs.take l).length = l := by simp; omega
          simp only [List.getElem?_toArray]
          rcases Nat.lt_or_ge i' l with hil | hil
          · rw [List.getElem?_append_left (by omega), List.getElem?_take, if_pos hil] at hy
            have hjk : j < k := by rw [← hk' y (List.mem_of_getElem? hy)]; exact (List.getElem?_eq_some_iff.1 hd).1
            obtain ⟨u, hu, hru⟩ := hrd i' j y d hy hd
            have := idx_lt hil hjk
            refine ⟨u, ?_, hru.ext heS⟩
            rw [List.append_assoc, List.getElem?_append_left (by omega), List.getElem?_take, if_pos (by omega)]
            simpa using hu
          · rw [List.getElem?_append_right (by omega), etl] at hy
            have hyz : y = zc := List.eq_of_mem_replicate (List.mem_of_getElem? hy)
            have hi2 : i' - l < n - l := by
              have := (List.getElem?_eq_some_iff.1 hy).1
              simpa using this
            subst hyz
            have hjk : j < k := by rw [← hzl]; exact (List.getElem?_eq_some_iff.1 hd).1
            have hlt := idx_lt hi2 hjk
            have hmul : i' * k = l * k + (i' - l) * k := by rw [← Nat.add_mul]; congr 1; omega
            have hjl : j < z.cells.toList.length := by simp [hzs, hjk]
            refine ⟨z.cells.toList[j], ?_, (c2 j d _ hd (List.getElem?_eq_getElem hjl)).ext heS⟩
            rw [List.append_assoc, List.getElem?_append_right (by omega), List.getElem?_append_left (by omega), e0, show o + (i' * k + j) - (o + l * k) = (i' - l) * k + j by omega, hgz _ hlt,
              show ((i' - l) * k + j) % k = j by rw [Nat.mul_comm, Nat.mul_add_mod, Nat.mod_eq_of_lt hjk], List.getElem?_eq_getElem hjl]
theorem tail_run {t e k : Nat} {inf : TypeInfo} {n cap l : Nat} {A : Option Addr} {kk : IntKind} (ht : P.underlying t = some (.slice e)) (hi : P.info? e = some inf) (hsz : inf.size = k) (hl : l ≤ n) (hn : n ≤ cap) (w' : World) :
    (Instr.sliceAt t (.slice A n cap) (some (.int kk l)) none none).run P w' = .ok (.slice (if cap = l then A else A.map (·.add (l * k))) (n - l) (cap - l)) w' := by
  have h1 : (0 : Int) ≤ (l : Int) := by omega
  have h2 : (l : Int) ≤ (n : Int) := by omega
  have h3 : (n : Int) ≤ (cap : Int) := by omega
  have h4 : (l : Int) ≤ (cap : Int) := by omega
  simp [Instr.sliceAt, Instr.slice, run_underlying ht, Instr.sliceBounds, Instr.sliceBound, asIntOf, run_sizeOf hi, hsz, h1, h2, h3, h4]
  intro hbad; omega
theorem eval_put {a : Act} {d : Nat} {v : Value} (hd : d < a.tmps.size) (t : Nat) : (a.put (some d) v).eval (.tmp t) = if t = d then v else a.eval (.tmp t) := by
  show (a.tmps.setIfInBounds d v).getD t undef = _
  rw [getD_setIfInBounds _ _ _ _ hd]; rfl
theorem CW_clr {r s i d1 d2 d3 t e k id l : Nat} {o1 o2 o3 o4 : Oper} {inf : TypeInfo} {z : Value} {zc : List CD} {xs : List (List CD)} {Q : Exit → St → Prop}
    (q1 : o1.dst = some d1 ∧ o1.op = .move (.tmp s) ∧ o1.guard = none) (q2 : o2.dst = some d2 ∧ o2.op = .move (.tmp i) ∧ o2.guard = none) (q3 : o3.dst = some d3 ∧ o3.op = .slice t (.tmp d1) (some (.tmp d2)) none none ∧ o3.guard = none)
    (q4 : o4.dst = none ∧ o4.op = .call { callee := .builtin .clear, args := #[.tmp d3], argTypes := #[t] } ∧ o4.guard = none)
    (ht : P.underlying t = some (.slice e)) (hi : P.info? e = some inf) (hz : inf.zero = some z) (hsz : inf.size = k) (hk0 : 0 < k) (hzc : constCDs z.cells.toList = some zc) (hzl : zc.length = k)
    (hs : σ.get s = .own id) (hi' : σ.get i = .I l) (ho : obGet id σ.ob = some (.arr e k xs)) (hl : l ≤ xs.length) (h1 : d1 < σ.n) (h2 : d2 < σ.n) (h3 : d3 < σ.n) (h12 : d2 ≠ d1) (hi1 : i ≠ d1)
    (h : Q .normal ((((σ.put d1 (.own id)).put d2 (.I l)).put d3 .any).upd id (.arr e k (xs.take l ++ List.replicate (xs.length - l) zc)))) :
    CW P (.region r #[o1, o2, o3, o4] false) Q σ := fun x S φ a w hx hsim => by
  refine wp_region_list ?_
  show wpList P _ (simQ x Q) [o1, o2, o3, o4] a w
  have hsz' := hsim.size
  obtain ⟨A, cap, hφ, hnc, _⟩ : ∃ A cap, φ id = .slice A xs.length cap ∧ xs.length ≤ cap ∧ cap ≤ maxLen := by
    have h3 := hsim.obs id _ ho
    generalize φ id = q at h3
    cases h3 with
    | arr h3 => exact arr_cases h3
  have harr : ArrR w S e k xs (.slice A xs.length cap) := by
    have h3 := hsim.obs id _ ho
    rw [hφ] at h3
    cases h3 with
    | arr h3 => exact h3
  have ev1 : a.eval (.tmp s) = φ id := by
    have := ev_sound hsim (o := .tmp s) (y := .t s) rfl
    simp only [St.ev, hs] at this
    generalize a.eval (.tmp s) = q at this
    cases this; rfl
  obtain ⟨kk, ev2, _⟩ : ∃ kk, a.eval (.tmp i) = .int kk l ∧ inK kk l := by
    have := ev_sound hsim (o := .tmp i) (y := .t i) rfl
    simp only [St.ev, hi'] at this
    exact int_of this rfl
  have r1 : (execOp a.eval o1).run P w = .ok (.value (φ id)) w := by simp [execOp, q1.2.1, ev1]
  refine wpl_val q1.2.2 r1 ?_
  rw [q1.1]
  have r2 : (execOp (a.put (some d1) (φ id)).eval o2).run P w = .ok (.value (.int kk l)) w := by simp [execOp, q2.2.1, eval_put (by omega : d1 < a.tmps.size), hi1, ev2]
  refine wpl_val q2.2.2 r2 ?_
  rw [q2.1]
  have hs1 : ((a.put (some d1) (φ id)).tmps.size) = a.tmps.size := by simp [Act.put]
  have e1 : ((a.put (some d1) (φ id)).put (some d2) (.int kk l)).eval (.tmp d1) = .slice A xs.length cap := by
    rw [eval_put (by omega), if_neg (fun e => h12 e.symm), eval_put (by omega), if_pos rfl, hφ]
  have e2 : ((a.put (some d1) (φ id)).put (some d2) (.int kk l)).eval (.tmp d2) = .int kk l := by
    rw [eval_put (by omega), if_pos rfl]
  have hs2 : ((a.put (some d1) (φ id)).put (some d2) (.int kk l)).tmps.size = a.tmps.size := by simp [Act.put]
  have hv1 : AVR x w S φ (.own id) (φ id) := .own (by rw [hφ]; rfl)
  have hv2 : AVR x w S φ (.I l) (.int kk l) := by
    have := ev_sound hsim (o := .tmp i) (y := .t i) rfl
    simp only [St.ev, hi', ev2] at this
    exact this
  have hsm := (hsim.put h1 hv1).put (σ := σ.put d1 (.own id)) h2 hv2
  generalize (a.put (some d1) (φ id)).put (some d2) (.int kk l) = a2 at *
  have r3 : (execOp a2.eval o3).run P w = .ok (.value (.slice (if cap = l then A else A.map (·.add (l * k))) (xs.length - l) (cap - l))) w := by
    have := tail_run (P := P) (A := A) (kk := kk) ht hi hsz hl hnc w
    simp [execOp, q3.2.1, e1, e2, this]
  refine wpl_val q3.2.2 r3 ?_
  rw [q3.1]
  obtain ⟨w', hrun, hext, harr'⟩ := clear_run (P := P) (ty := o4.type) ht hi hz hk0 hzc hzl harr hl (fun b hb => (hsim.own id _ b ho (by rw [hφ]; exact hb)).1)
  generalize hV : Value.slice (if cap = l then A else A.map (·.add (l * k))) (xs.length - l) (cap - l) = v' at *
  have hsm3 := hsm.put (d := d3) (r := .any) (v := v') h3 .any
  have e3 : (a2.put (some d3) v').eval (.tmp d3) = v' := by rw [eval_put (by omega), if_pos rfl]
  have r4 : (execOp (a2.put (some d3) v').eval o4).run P w = .ok (.value (.tuple #[])) w' := by
    simp [execOp, q4.2.1, resolve, invoke, builtin, e3, hrun, Result.andThen]
  refine wpl_val q4.2.2 r4 ?_
  rw [q4.1, put_none]
  refine ⟨_, S, φ, h, hsm3.upd id (.arr e k (xs.take l ++ List.replicate (xs.length - l) zc)) (.arr e k xs) w' ho (by rw [hφ]; exact hext) (by rw [hφ]; exact .arr harr')⟩
theorem CW_clr' {r s i d1 d2 d3 t e k id l : Nat} {o1 o2 o3 o4 : Oper} {zc : List CD} {xs : List (List CD)} {Q : Exit → St → Prop}
    (q1 : o1.dst = some d1 ∧ o1.op = .move (.tmp s) ∧ o1.guard = none) (q2 : o2.dst = some d2 ∧ o2.op = .move (.tmp i) ∧ o2.guard = none) (q3 : o3.dst = some d3 ∧ o3.op = .slice t (.tmp d1) (some (.tmp d2)) none none ∧ o3.guard = none)
    (q4 : o4.dst = none ∧ o4.op = .call { callee := .builtin .clear, args := #[.tmp d3], argTypes := #[t] } ∧ o4.guard = none)
    (ht : P.underlying t = some (.slice e)) (hk : cellsNum P e = some k) (hz : zeroOf P e = some zc) (hk0 : 0 < k) (hzl : zc.length = k)
    (hs : σ.get s = .own id) (hi' : σ.get i = .I l) (ho : obGet id σ.ob = some (.arr e k xs)) (hl : l ≤ xs.length) (h1 : d1 < σ.n) (h2 : d2 < σ.n) (h3 : d3 < σ.n) (h12 : d2 ≠ d1) (hi1 : i ≠ d1)
    (h : Q .normal ((((σ.put d1 (.own id)).put d2 (.I l)).put d3 .any).upd id (.arr e k (xs.take l ++ List.replicate (xs.length - l) zc)))) :
    CW P (.region r #[o1, o2, o3, o4] false) Q σ := by
  unfold cellsNum at hk
  simp only [Option.map_eq_some_iff] at hk
  obtain ⟨inf, hinf, hsz⟩ := hk
  unfold zeroOf at hz
  rw [hinf] at hz
  simp only [Option.bind_some] at hz
  split at hz
  · rename_i z hz'
    exact CW_clr q1 q2 q3 q4 ht hinf hz' hsz hk0 hz hzl hs hi' ho hl h1 h2 h3 h12 hi1 h
  · cases hz
end
end Go.AL

