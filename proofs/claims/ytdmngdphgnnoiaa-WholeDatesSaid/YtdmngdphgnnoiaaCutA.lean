/-
  Lemmas for the proof: no statement of its own.
-/
import Derived.Test.YtdmngdphgnnoiaaAlD
set_option linter.unusedVariables false
set_option linter.unusedSimpArgs false
open Go
namespace Go.AL
set_option linter.unusedVariables false
variable {P : Program}
def MonoQ (Q : Exit → St → Prop) : Prop := ∀ σ τ : St, σ.le τ → Q .normal τ → Q .normal σ
theorem MonoQ.seq {c : AC} {Q : Exit → St → Prop} : MonoQ (seqQ P c Q) := fun σ τ hl h => AW_le τ hl h
theorem MonoQ.block {id : Nat} {Q : Exit → St → Prop} (h : MonoQ Q) : MonoQ (blockQ id Q) := fun σ τ hl hq => h σ τ hl hq
def cutQ (τ : St) : Exit → St → Prop
  | .normal, σ => σ.le τ
  | _, _ => False
theorem cutQ_normal (τ σ : St) : cutQ τ .normal σ = (σ.n = τ.n ∧ σ.le1 τ.tm ∧ σ.le2 τ.ob) := rfl
attribute [go_sem] cutQ_normal
theorem AW_cut {c : AC} (τ σ0 : St) {Q : Exit → St → Prop} {σ : St} (h : AW P c (cutQ τ) σ0) (hl : σ.le σ0) (hk : Q .normal τ) (hq : MonoQ Q := by repeat first | exact MonoQ.seq | refine MonoQ.block ?_) : AW P c Q σ :=
  AW_le σ0 hl (AW_mono h fun e σ' hl => by
    cases e with
    | normal => exact hq σ' τ hl hk
    | _ => exact hl.elim)
end Go.AL

namespace Go.AL
open Go Go.RowKit
section
variable {x : Ctx} {S : Nat → Prop} {φ : Nat → Value} {σ : St} {a : Act} {w : World} {P : Program} {c : AC} {Q : Exit → St → Prop}
theorem Sim.mark (hs : Sim x S φ σ a w) : Sim x S φ (σ.put 20000 (.opt false .any)) a w := by
  refine ⟨fun t => ?_, hs.size, hs.obs, hs.own, hs.inj, hs.inr, hs.dat, hs.ext, hs.defers, hs.small, hs.pins⟩
  rw [get_put]
  by_cases h : t = 20000
  · subst h
    rw [if_pos rfl]
    refine .opt (fun h => by cases h) fun _ => ?_
    have h1 := hs.size
    have h2 := hs.small
    rw [Array.getD_eq_getD_getElem?, Array.getElem?_eq_none (by omega)]; rfl
  · rw [if_neg h]; exact hs.tms t
theorem AW_mark (h : AW P c Q (σ.put 20000 (.opt false .any))) : AW P c Q σ := fun code hc x S φ a w hx hs => h code hc x S φ a w hx hs.mark
theorem AW_nilBox (id j k : Nat) {T : Nat} {cs : List AV} (ho : obGet id σ.ob = some (.box T cs)) (hj : cs[j]? = some (.c .nil)) (hk : AW P c Q (σ.upd id (.box T (cs.set j (.c (.sl k [])))))) : AW P c Q σ := fun code hc x S φ a w hx hs => by
  refine hk code hc x S φ a w hx (hs.upd id _ _ w ho (Ext.refl _ _) ?_)
  have h1 := hs.obs id _ ho
  generalize φ id = q at h1 ⊢
  cases h1 with
  | box hb hs' h h1' =>
    refine .box hb (by simpa using hs') (fun i a v ha hv => ?_) h1'
    by_cases e : i = j
    · subst e
      have hl : i < cs.length := (List.getElem?_eq_some_iff.1 hj).1
      rw [List.getElem?_set_self hl] at ha
      simp at ha; subst ha
      have h3 := h i _ v hj hv
      cases h3 with
      | c h3 => cases h3; exact .c (.sl0 (by omega) fun _ => rfl)
    · rw [List.getElem?_set_ne (fun h => e h.symm)] at ha
      exact h i a v ha hv
end
end Go.AL

