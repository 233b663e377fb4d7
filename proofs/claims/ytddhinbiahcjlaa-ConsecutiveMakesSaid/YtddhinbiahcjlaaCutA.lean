/-
  Lemmas for the proof: no statement of its own.
-/
import Derived.Test.YtddhinbiahcjlaaAlD
set_option linter.unusedVariables false
set_option linter.unusedSimpArgs false
open Go
namespace Go.AL
set_option linter.unusedVariables false
variable {P : Program}
def MonoQ (Q : Exit → St → Prop) : Prop := ∀ σ τ : St, σ.le τ → Q .normal τ → Q .normal σ
theorem MonoQ.seq {c : AC} {Q : Exit → St → Prop} : MonoQ (seqQ P c Q) := fun σ τ hl h => AW_le τ hl h
theorem MonoQ.block {id : Nat} {Q : Exit → St → Prop} (h : MonoQ Q) : MonoQ (blockQ id Q) := fun σ τ hl hq => h σ τ hl hq
def cutQ (τ : St) : Exit → St → Prop
  | .normal, σ => σ.le τ
  | _, _ => False
theorem cutQ_normal (τ σ : St) : cutQ τ .normal σ = (σ.n = τ.n ∧ σ.le1 τ.tm ∧ σ.le2 τ.ob) := rfl
attribute [go_sem] cutQ_normal
/-- a piece of code walked by itself, from a state that is known to one that is -/
theorem AW_cut {c : AC} (τ σ0 : St) {Q : Exit → St → Prop} {σ : St} (h : AW P c (cutQ τ) σ0) (hl : σ.le σ0) (hk : Q .normal τ) (hq : MonoQ Q := by repeat first | exact MonoQ.seq | refine MonoQ.block ?_) : AW P c Q σ :=
  AW_le σ0 hl (AW_mono h fun e σ' hl => by
    cases e with
    | normal => exact hq σ' τ hl hk
    | _ => exact hl.elim)
end Go.AL

