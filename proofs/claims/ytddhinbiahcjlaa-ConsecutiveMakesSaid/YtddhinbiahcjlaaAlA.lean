/-
  Lemmas for the proof: no statement of its own.
-/
import Derived.WalkKit
import Derived.Still
import Derived.Orders
import Derived.MapKept
import Derived.WideKeyRuns
set_option linter.unusedVariables false
set_option linter.unusedSimpArgs false
namespace Go.AL
open Go Go.RowKit

/-- what a map's keys are: integers, or rows of integers (structs) -/
inductive KK where
  | one (k : IntKind)
  | agg (ks : List IntKind)
deriving Inhabited

/-- The datum of one cell. -/
inductive CD where
  | sc (v : Value)
  | nil
  | sl (k : Nat) (xs : List (List CD))
  | mn
  | mp (kk : KK) (es : List (List Int × Sum CD (List CD)))
deriving Inhabited

/-- An abstract value. -/
inductive AV where
  | c (d : CD)
  | agg (cs : List AV)
  | tup (vs : List AV)
  | own (id : Nat)
  | ptr (id off : Nat)
  | eptr (id k i off : Nat)
  | dptr (cs : List CD)
  | fn (f : Nat) (caps : List AV)
  | pf (p : List (Sum CD (List CD)) → Option Value)
  | mp (id : Nat)
  | opt (g : Bool) (v : AV)
  | any
deriving Inhabited

abbrev AV.I (n : Int) : AV := .c (.sc (.int .i64 n))
abbrev AV.B (b : Bool) : AV := .c (.sc (.bool b))
abbrev CD.I (n : Int) : CD := .sc (.int .i64 n)
abbrev CD.B (b : Bool) : CD := .sc (.bool b)

inductive AO where
  | arr (e k : Nat) (xs : List (List CD))
  | box (t : Nat) (cs : List AV)
  | map (kk : KK) (es : List (List Int × Sum CD (List CD)))
  | iter (kk : KK) (left : List (List Int × Sum CD (List CD))) (cur : Option (List Int × Sum CD (List CD)))
  | rows (e ek k : Nat) (xss : List (List (List CD))) (hole who : Option Nat)

structure St where
  n : Nat
  tm : List (Nat × AV)
  ob : List (Nat × AO)

def St.get.go (t : Nat) : List (Nat × AV) → AV
  | [] => .any
  | (s, a) :: r => bif Nat.beq t s then a else St.get.go t r
def St.get (σ : St) (t : Nat) : AV := St.get.go t σ.tm

def obGet (id : Nat) : List (Nat × AO) → Option AO
  | [] => none
  | (s, o) :: r => bif Nat.beq id s then some o else obGet id r

/-! ### worlds -/

/-- on the blocks of S the world w' is as w was -/
structure Ext (S : Nat → Prop) (w w' : World) : Prop where
  os : w'.os = w.os
  tape : w'.tape = w.tape
  output : w'.output = w.output
  size : w.heap.size ≤ w'.heap.size
  block : ∀ b, S b → b < w.heap.size → w'.heap[b]? = w.heap[b]?

theorem Ext.refl (S : Nat → Prop) (w : World) : Ext S w w := ⟨rfl, rfl, rfl, Nat.le_refl _, fun _ _ _ => rfl⟩
theorem Ext.trans {S : Nat → Prop} {a b c : World} (h : Ext S a b) (k : Ext S b c) : Ext S a c :=
  ⟨k.os.trans h.os, k.tape.trans h.tape, k.output.trans h.output, Nat.le_trans h.size k.size, fun i hi hl => (k.block i hi (Nat.lt_of_lt_of_le hl h.size)).trans (h.block i hi hl)⟩
theorem Ext.mono {S T : Nat → Prop} {w w' : World} (h : Ext S w w') (hs : ∀ b, T b → S b) : Ext T w w' := ⟨h.os, h.tape, h.output, h.size, fun b hb hl => h.block b (hs b hb) hl⟩
theorem Ext.of_below {w w' : World} (h : Below w.heap.size w w') (S : Nat → Prop) : Ext S w w' := ⟨h.os, h.tape, h.output, h.size, fun b _ hl => h.block b hl⟩
theorem Ext.alloc (S : Nat → Prop) (w : World) (o : Obj) : Ext S w (w.alloc o) := ⟨rfl, rfl, rfl, by simp, fun b _ hl => Below.heap_alloc w o b hl⟩
theorem Ext.drew (S : Nat → Prop) (w : World) : Ext S w w.drew := ⟨rfl, rfl, rfl, Nat.le_refl _, fun _ _ _ => rfl⟩

def All : Nat → Prop := fun _ => True

/-! ### data in memory -/

def scOk : Value → Prop
  | .int k n => k.min ≤ n ∧ n ≤ k.max
  | .bool _ => True
  | _ => False

theorem block_add (a : Addr) (n : Nat) : (a.add n).block = a.block := by unfold Addr.add; split <;> rfl
theorem add_add' (a : Addr) (i j : Nat) : (a.add i).add j = a.add (i + j) := by
  unfold Addr.add
  by_cases hi : i = 0 <;> by_cases hj : j = 0 <;> simp [hi, hj, Nat.add_assoc]

/-- the key n, as the value of a key -/
def keyV : KK → List Int → Value
  | .one k, ns => .int k (ns.headD 0)
  | .agg ks, ns => .agg ((ks.zip ns).map fun p => Value.int p.1 p.2).toArray
/-- n is a key of the kind -/
def keyOk : KK → List Int → Prop
  | .one k, ns => ns.length = 1 ∧ k.min ≤ ns.headD 0 ∧ ns.headD 0 ≤ k.max
  | .agg ks, ns => ns.length = ks.length ∧ ∀ (i : Nat) (k : IntKind) (n : Int), ks[i]? = some k → ns[i]? = some n → k.min ≤ n ∧ n ≤ k.max
/-- the stamps of a map's entries -/
def stampsOk (ents : Array MapEntry) (clock : Nat) : Prop := (ents.toList.map (·.born)).Nodup ∧ ∀ e ∈ ents.toList, e.born < clock

/-- the value v reads in w as the datum, meeting no block but those of S -/
inductive Rd (w : World) (S : Nat → Prop) : CD → Value → Prop where
  | sc {v : Value} (h : scOk v) : Rd w S (.sc v) v
  | nil : Rd w S .nil (.slice none 0 0)
  | sl0 {k : Nat} {A : Option Addr} {cap : Nat} (hc : cap ≤ maxLen) (hA : A = none → cap = 0) : Rd w S (.sl k []) (.slice A 0 cap)
  | sl {k : Nat} {xs : List (List CD)} {a : Addr} {cap : Nat} (vs : Nat → Nat → Value) (hn : xs.length ≤ cap) (hc : cap ≤ maxLen) (hS : S a.block)
      (hk : ∀ x ∈ xs, x.length = k)
      (hcell : ∀ i j, i < xs.length → j < k → w.cell? (a.add (i * k + j)) = some (vs i j))
      (hrd : ∀ (i j : Nat) (x : List CD) (d : CD), xs[i]? = some x → x[j]? = some d → Rd w S d (vs i j)) : Rd w S (.sl k xs) (.slice (some a) xs.length cap)
  | mn : Rd w S .mn (.map none)
  | mp {kk : KK} {es : List (List Int × Sum CD (List CD))} {b clock : Nat} {ents : Array MapEntry} (v1 : Nat → Value) (v2 : Nat → Nat → Value) (hb : w.heap[b]? = some (.map ents clock)) (hS : S b) (hst : stampsOk ents clock) (hl : ents.size = es.length)
      (hk : ∀ (i : Nat) (n : List Int) (d : Sum CD (List CD)) (e : MapEntry), es[i]? = some (n, d) → ents[i]? = some e → e.key = keyV kk n ∧ keyOk kk n)
      (h1 : ∀ (i : Nat) (n : List Int) (d : CD) (e : MapEntry), es[i]? = some (n, .inl d) → ents[i]? = some e → e.val = v1 i)
      (hr1 : ∀ (i : Nat) (n : List Int) (d : CD), es[i]? = some (n, .inl d) → Rd w S d (v1 i))
      (h2 : ∀ (i : Nat) (n : List Int) (ds : List CD) (e : MapEntry), es[i]? = some (n, .inr ds) → ents[i]? = some e → e.val = .agg ((List.range ds.length).map fun j => v2 i j).toArray)
      (hr2 : ∀ (i j : Nat) (n : List Int) (ds : List CD) (d : CD), es[i]? = some (n, .inr ds) → ds[j]? = some d → Rd w S d (v2 i j)) : Rd w S (.mp kk es) (.map (some b))

theorem cell_ext {S : Nat → Prop} {w w' : World} (he : Ext S w w') {a : Addr} (hS : S a.block) {v : Value} (h : w.cell? a = some v) : w'.cell? a = some v := by
  have hl := World.block_lt_of_cell? w a h
  rw [World.cell?_of_block (he.block _ hS hl)]; exact h

theorem Rd.ext {S : Nat → Prop} {w w' : World} (he : Ext S w w') {d : CD} {v : Value} (h : Rd w S d v) : Rd w' S d v := by
  induction h with
  | sc h => exact .sc h
  | nil => exact .nil
  | sl0 hc hA => exact .sl0 hc hA
  | sl vs hn hc hS hk hcell _ ih =>
    exact .sl vs hn hc hS hk (fun i j hi hj => cell_ext he (by rw [block_add]; exact hS) (hcell i j hi hj)) ih
  | mn => exact .mn
  | mp v1 v2 hb hS hst hl hk h1 _ h2 _ ih1 ih2 =>
    exact .mp v1 v2 ((he.block _ hS (Array.getElem?_eq_some_iff.1 hb).1).trans hb) hS hst hl hk h1 ih1 h2 ih2

theorem Rd.mono {S T : Nat → Prop} {w : World} (hs : ∀ b, S b → T b) {d : CD} {v : Value} (h : Rd w S d v) : Rd w T d v := by
  induction h with
  | sc h => exact .sc h
  | nil => exact .nil
  | sl0 hc hA => exact .sl0 hc hA
  | sl vs hn hc hS hk hcell _ ih => exact .sl vs hn hc (hs _ hS) hk hcell ih
  | mn => exact .mn
  | mp v1 v2 hb hS hst hl hk h1 _ h2 _ ih1 ih2 => exact .mp v1 v2 hb (hs _ hS) hst hl hk h1 ih1 h2 ih2

/-- a datum that meets no memory reads in every world -/
def CD.flatP : CD → Prop
  | .sc _ => True
  | .nil => True
  | .sl _ xs => xs = []
  | .mn => True
  | .mp _ _ => False

theorem Rd.flat {S T : Nat → Prop} {w w' : World} {d : CD} {v : Value} (hd : d.flatP) (h : Rd w S d v) : Rd w' T d v := by
  cases h with
  | sc h => exact .sc h
  | nil => exact .nil
  | sl0 hc hA => exact .sl0 hc hA
  | sl vs hn hc _ _ _ _ =>
    simp only [CD.flatP] at hd
    subst hd
    exact .sl0 hc (fun h => by cases h)
  | mn => exact .mn
  | mp => exact hd.elim

theorem Rd.oneCell {S : Nat → Prop} {w : World} {d : CD} {v : Value} (h : Rd w S d v) : v.oneCell' = true := by
  cases h with
  | sc h => unfold scOk at h; split at h <;> first | rfl | exact h.elim
  | nil => rfl
  | sl0 => rfl
  | sl => rfl
  | mn => rfl
  | mp => rfl

/-! ### values -/

structure Ctx where
  P : Program
  w0 : World
  S0 : Nat → Prop
  InO : Nat → Prop
  φ0 : Nat → Value

/-- an argument of a pure function value -/
inductive ArgR (w : World) (S : Nat → Prop) : Sum CD (List CD) → Value → Prop where
  | one {d : CD} {v : Value} (h : Rd w S d v) : ArgR w S (.inl d) v
  | agg {ds : List CD} {vs : List Value} (hl : vs.length = ds.length) (h : ∀ (j : Nat) (d : CD) (v : Value), ds[j]? = some d → vs[j]? = some v → Rd w S d v) : ArgR w S (.inr ds) (.agg vs.toArray)

theorem ArgR.ext {S : Nat → Prop} {w w' : World} (he : Ext S w w') {d : Sum CD (List CD)} {v : Value} (h : ArgR w S d v) : ArgR w' S d v := by
  cases h with
  | one h => exact .one (h.ext he)
  | agg hl h => exact .agg hl fun j d v hd hv => (h j d v hd hv).ext he
theorem ArgR.mono {S T : Nat → Prop} {w : World} (hs : ∀ b, S b → T b) {d : Sum CD (List CD)} {v : Value} (h : ArgR w S d v) : ArgR w T d v := by
  cases h with
  | one h => exact .one (h.mono hs)
  | agg hl h => exact .agg hl fun j d v hd hv => (h j d v hd hv).mono hs

/-- a map's entries, in order -/
inductive MapR (w : World) (S : Nat → Prop) (kk : KK) : List (List Int × Sum CD (List CD)) → List MapEntry → Prop where
  | nil : MapR w S kk [] []
  | cons {n : List Int} {d : Sum CD (List CD)} {e : MapEntry} {r : List (List Int × Sum CD (List CD))} {l : List MapEntry} (hk : e.key = keyV kk n) (hw : keyOk kk n) (hv : ArgR w S d e.val) (h : MapR w S kk r l) : MapR w S kk ((n, d) :: r) (e :: l)

theorem MapR.ext {S : Nat → Prop} {w w' : World} (he : Ext S w w') {kk : KK} {es : List (List Int × Sum CD (List CD))} {l : List MapEntry} (h : MapR w S kk es l) : MapR w' S kk es l := by
  induction h with
  | nil => exact .nil
  | cons hk hw hv _ ih => exact .cons hk hw (hv.ext he) ih
theorem MapR.mono {S T : Nat → Prop} {w : World} (hs : ∀ b, S b → T b) {kk : KK} {es : List (List Int × Sum CD (List CD))} {l : List MapEntry} (h : MapR w S kk es l) : MapR w T kk es l := by
  induction h with
  | nil => exact .nil
  | cons hk hw hv _ ih => exact .cons hk hw (hv.mono hs) ih

/-- a function with a body, that the model enters -/
def callB (P : Program) (f : Nat) : Bool := match P.funcs[f]? with
  | some fn => fn.body.isSome && !(fn.name == "runtime.NumGoroutine")
  | none => false

def PureFn (P : Program) (w0 : World) (InO : Nat → Prop) (p : List (Sum CD (List CD)) → Option Value) (f : Nat) (caps : List Value) : Prop :=
  callB P f = true ∧ ∀ (w : World) (S : Nat → Prop) (as : List (Sum CD (List CD))) (vs : List Value) (r : Value), Ext (fun b => ¬ InO b) w0 w → (∀ b, S b → b < w.heap.size) → p as = some r →
    vs.length = as.length → (∀ (i : Nat) (a : Sum CD (List CD)) (v : Value), as[i]? = some a → vs[i]? = some v → ArgR w S a v) →
    scOk r ∧ Calls P f (vs ++ caps).toArray w fun e w' => e = .returned r ∧ Below w.heap.size w w'

inductive AVR (x : Ctx) (w : World) (S : Nat → Prop) (φ : Nat → Value) : AV → Value → Prop where
  | c {d : CD} {v : Value} (h : Rd w S d v) : AVR x w S φ (.c d) v
  | agg {cs : List AV} {vs : List Value} (hl : vs.length = cs.length) (h : ∀ (j : Nat) (a : AV) (v : Value), cs[j]? = some a → vs[j]? = some v → AVR x w S φ a v) (h1 : ∀ v ∈ vs, v.oneCell' = true) : AVR x w S φ (.agg cs) (.agg vs.toArray)
  | tup {cs : List AV} {vs : List Value} (hl : vs.length = cs.length) (h : ∀ (j : Nat) (a : AV) (v : Value), cs[j]? = some a → vs[j]? = some v → AVR x w S φ a v) : AVR x w S φ (.tup cs) (.tuple vs.toArray)
  | own {id : Nat} (h : (φ id).oneCell' = true) : AVR x w S φ (.own id) (φ id)
  | ptr {id b off : Nat} (h : φ id = .pointer (some ⟨b, 0, none⟩)) : AVR x w S φ (.ptr id off) (.pointer (some ⟨b, off, none⟩))
  | eptr {id k i off g o n cap : Nat} (h : φ id = .slice (some ⟨g, o, none⟩) n cap) : AVR x w S φ (.eptr id k i off) (.pointer (some ⟨g, o + i * k + off, none⟩))
  | dptr {cs : List CD} {a : Addr} (vs : Nat → Value) (hS : S a.block) (hcell : ∀ j, j < cs.length → w.cell? (a.add j) = some (vs j)) (h : ∀ (j : Nat) (d : CD), cs[j]? = some d → Rd w S d (vs j)) : AVR x w S φ (.dptr cs) (.pointer (some a))
  | fn {f : Nat} {cs : List AV} {vs : List Value} (hl : vs.length = cs.length) (h : ∀ (j : Nat) (a : AV) (v : Value), cs[j]? = some a → vs[j]? = some v → AVR x w S φ a v) : AVR x w S φ (.fn f cs) (.func (.func f) #[] vs.toArray)
  | pf {p : List (Sum CD (List CD)) → Option Value} {f : Nat} {caps : List Value} (h : PureFn x.P x.w0 x.InO p f caps) : AVR x w S φ (.pf p) (.func (.func f) #[] caps.toArray)
  | mp {id : Nat} (h : (φ id).oneCell' = true) : AVR x w S φ (.mp id) (φ id)
  | opt {g : Bool} {a : AV} {v : Value} (h : g = true → AVR x w S φ a v) (h0 : g = false → v = undef) : AVR x w S φ (.opt g a) v
  | any {v : Value} : AVR x w S φ .any v

mutual
def AV.noId (id : Nat) : AV → Bool
  | .agg cs => noIds id cs
  | .tup vs => noIds id vs
  | .own i => !Nat.beq id i
  | .ptr i _ => !Nat.beq id i
  | .eptr i _ _ _ => !Nat.beq id i
  | .fn _ caps => noIds id caps
  | .mp i => !Nat.beq id i
  | .opt _ v => v.noId id
  | _ => true
def noIds (id : Nat) : List AV → Bool
  | [] => true
  | a :: r => a.noId id && noIds id r
end

theorem noIds_mem {id : Nat} : ∀ {l : List AV} {j : Nat} {a : AV}, noIds id l = true → l[j]? = some a → a.noId id = true
  | [], j, a, _, h => by simp at h
  | b :: r, 0, a, h, hj => by
    simp only [noIds, Bool.and_eq_true] at h
    simp at hj; subst hj; exact h.1
  | b :: r, j + 1, a, h, hj => by
    simp only [noIds, Bool.and_eq_true] at h
    exact noIds_mem h.2 (by simpa using hj)

theorem AVR.ext {x : Ctx} {w w' : World} {S : Nat → Prop} {φ : Nat → Value} (he : Ext S w w') {a : AV} {v : Value} (h : AVR x w S φ a v) : AVR x w' S φ a v := by
  induction h with
  | c h => exact .c (h.ext he)
  | agg hl _ h1 ih => exact .agg hl ih h1
  | tup hl _ ih => exact .tup hl ih
  | own h => exact .own h
  | ptr h => exact .ptr h
  | eptr h => exact .eptr h
  | dptr vs hS hcell h => exact .dptr vs hS (fun j hj => cell_ext he (by rw [block_add]; exact hS) (hcell j hj)) (fun j d hd => (h j d hd).ext he)
  | fn hl _ ih => exact .fn hl ih
  | pf h => exact .pf h
  | mp h => exact .mp h
  | opt _ h0 ih => exact .opt ih h0
  | any => exact .any

theorem AVR.mono {x : Ctx} {w : World} {S T : Nat → Prop} {φ : Nat → Value} (hs : ∀ b, S b → T b) {a : AV} {v : Value} (h : AVR x w S φ a v) : AVR x w T φ a v := by
  induction h with
  | c h => exact .c (h.mono hs)
  | agg hl _ h1 ih => exact .agg hl ih h1
  | tup hl _ ih => exact .tup hl ih
  | own h => exact .own h
  | ptr h => exact .ptr h
  | eptr h => exact .eptr h
  | dptr vs hS hcell h => exact .dptr vs (hs _ hS) hcell (fun j d hd => (h j d hd).mono hs)
  | fn hl _ ih => exact .fn hl ih
  | pf h => exact .pf h
  | mp h => exact .mp h
  | opt _ h0 ih => exact .opt ih h0
  | any => exact .any

theorem ne_of_beq {id i : Nat} (h : Nat.beq id i = false) : i ≠ id := fun e => by subst e; rw [Nat.beq_refl] at h; cases h

/-- another placing of one name, which the value does not mention -/
theorem AVR.place {x : Ctx} {w : World} {S : Nat → Prop} {φ ψ : Nat → Value} {id : Nat} (hp : ∀ i, i ≠ id → ψ i = φ i) {a : AV} {v : Value} (h : AVR x w S φ a v) (hn : a.noId id = true) : AVR x w S ψ a v := by
  induction h with
  | c h => exact .c h
  | agg hl _ h1 ih => simp only [AV.noId] at hn; exact .agg hl (fun j a v ha hv => ih j a v ha hv (noIds_mem hn ha)) h1
  | tup hl _ ih => simp only [AV.noId] at hn; exact .tup hl (fun j a v ha hv => ih j a v ha hv (noIds_mem hn ha))
  | own h => rename_i i; simp [AV.noId] at hn; have e := hp i (ne_of_beq hn); rw [← e]; exact .own (by rw [e]; exact h)
  | ptr h => rename_i i _ _; simp [AV.noId] at hn; exact .ptr (by rw [hp i (ne_of_beq hn)]; exact h)
  | eptr h => rename_i i _ _ _ _ _ _ _; simp [AV.noId] at hn; exact .eptr (by rw [hp i (ne_of_beq hn)]; exact h)
  | dptr vs hS hcell h => exact .dptr vs hS hcell h
  | fn hl _ ih => simp only [AV.noId] at hn; exact .fn hl (fun j a v ha hv => ih j a v ha hv (noIds_mem hn ha))
  | pf h => exact .pf h
  | mp h => rename_i i; simp [AV.noId] at hn; have e := hp i (ne_of_beq hn); rw [← e]; exact .mp (by rw [e]; exact h)
  | opt _ h0 ih => simp only [AV.noId] at hn; exact .opt (fun hg => ih hg hn) h0
  | any => exact .any

/-! ### objects -/

def Value.blk : Value → Option Nat
  | .slice (some a) _ _ => some a.block
  | .pointer (some a) => some a.block
  | .map r => r
  | _ => none

/-- an owned row -/
inductive ArrR (w : World) (S : Nat → Prop) (e k : Nat) : List (List CD) → Value → Prop where
  | nil : ArrR w S e k [] (.slice none 0 0)
  | row {xs : List (List CD)} {g o cap : Nat} {cur : Array Value} (hg : w.heap[g]? = some (.cells cur e (0, 0))) (hn : xs.length ≤ cap) (hc : cap ≤ maxLen) (hs : o + cap * k ≤ cur.size)
      (hk : ∀ x ∈ xs, x.length = k) (h1 : ∀ v ∈ cur.toList, v.oneCell' = true)
      (hrd : ∀ (i j : Nat) (x : List CD) (d : CD), xs[i]? = some x → x[j]? = some d → ∃ v, cur[o + (i * k + j)]? = some v ∧ Rd w S d v) : ArrR w S e k xs (.slice (some ⟨g, o, none⟩) xs.length cap)

/-- the blocks of the rows that a row of rows owns -/
def innerB (w : World) : AO → Value → Nat → Prop
  | .rows e _ _ xss hole _, .slice (some ⟨g, o, none⟩) _ _, b => ∃ (cur : Array Value) (i : Nat) (u : Value), w.heap[g]? = some (.cells cur e (0, 0)) ∧ i < xss.length ∧ hole ≠ some i ∧ cur[o + i]? = some u ∧ Value.blk u = some b
  | _, _, _ => False
theorem innerB_who {w : World} {e ek k : Nat} {xss : List (List (List CD))} {hole who who' : Option Nat} {v : Value} {b : Nat} : innerB w (.rows e ek k xss hole who) v b = innerB w (.rows e ek k xss hole who') v b := by
  cases v with
  | slice a n c => cases a with
    | none => rfl
    | some a =>
      obtain ⟨g, o, p⟩ := a
      cases p <;> rfl
  | _ => rfl
theorem innerB_ext {w w' : World} {o : AO} {v : Value} {b : Nat} (hb : ∀ b, Value.blk v = some b → w'.heap[b]? = w.heap[b]?) (h : innerB w' o v b) : innerB w o v b := by
  unfold innerB at h ⊢
  split at h
  · obtain ⟨cur, i, u, h1, h2⟩ := h
    exact ⟨cur, i, u, (hb _ rfl).symm.trans h1, h2⟩
  · exact h.elim

inductive ObR (x : Ctx) (w : World) (S : Nat → Prop) (φ : Nat → Value) : AO → Value → Prop where
  | arr {e k : Nat} {xs : List (List CD)} {v : Value} (h : ArrR w S e k xs v) : ObR x w S φ (.arr e k xs) v
  | box {t b : Nat} {cs : List AV} {cur : Array Value} (hb : w.heap[b]? = some (.cells cur t (0, 0))) (hs : cur.size = cs.length) (h : ∀ (j : Nat) (a : AV) (v : Value), cs[j]? = some a → cur[j]? = some v → AVR x w S φ a v)
      (h1 : ∀ v ∈ cur.toList, v.oneCell' = true) : ObR x w S φ (.box t cs) (.pointer (some ⟨b, 0, none⟩))
  | map {kk : KK} {es : List (List Int × Sum CD (List CD))} {b clock : Nat} {ents : Array MapEntry} (hb : w.heap[b]? = some (.map ents clock)) (hst : stampsOk ents clock) (h : MapR w S kk es ents.toList) : ObR x w S φ (.map kk es) (.map (some b))
  | iter {kk : KK} {left : List (List Int × Sum CD (List CD))} {cur : Option (List Int × Sum CD (List CD))} {r mb since clock : Nat} {seen : Array Nat} {ents : Array MapEntry} (hr : w.heap[r]? = some (.mapIter (some mb) since seen clock)) (hS : S mb)
      (hb : w.heap[mb]? = some (.map ents clock)) (hst : stampsOk ents clock) (hsc : since = clock) (h : MapR w S kk left (ents.toList.filter fun e => !seen.contains e.born))
      (hc : ∀ n d, cur = some (n, d) → ∃ (sn : Array Nat) (e : MapEntry), seen = sn.push e.born ∧ e ∈ ents.toList ∧ MapR w S kk [(n, d)] [e]) : ObR x w S φ (.iter kk left cur) (.pointer (some ⟨r, 0, none⟩))
  | rows0 {e ek k : Nat} {hole who : Option Nat} : ObR x w S φ (.rows e ek k [] hole who) (.slice none 0 0)
  | rows {e ek k : Nat} {xss : List (List (List CD))} {hole who : Option Nat} {g o cap : Nat} {cur : Array Value} (hg : w.heap[g]? = some (.cells cur e (0, 0))) (hn : xss.length ≤ cap) (hc : cap ≤ maxLen) (hs : o + cap ≤ cur.size)
      (h1 : ∀ v ∈ cur.toList, v.oneCell' = true) (hr : ∀ (i : Nat) (xs : List (List CD)), xss[i]? = some xs → hole ≠ some i → ∃ v, cur[o + i]? = some v ∧ ArrR w S ek k xs v)
      (hd : ∀ (i j : Nat) (u v : Value) (b : Nat), i < xss.length → j < xss.length → hole ≠ some i → hole ≠ some j → cur[o + i]? = some u → cur[o + j]? = some v → Value.blk u = some b → Value.blk v = some b → i = j)
      (hw : ∀ h d, hole = some h → who = some d → h < xss.length → cur[o + h]? = some (φ d)) : ObR x w S φ (.rows e ek k xss hole who) (.slice (some ⟨g, o, none⟩) xss.length cap)

theorem ArrR.ext {w w' : World} {S : Nat → Prop} {e k : Nat} {xs : List (List CD)} {v : Value} (h : ArrR w S e k xs v) (he : Ext S w w') (hb : ∀ b, Value.blk v = some b → w'.heap[b]? = w.heap[b]?) : ArrR w' S e k xs v := by
  cases h with
  | nil => exact .nil
  | row hg hn hc hs hk h1 hrd =>
    refine .row ((hb _ rfl).trans hg) hn hc hs hk h1 fun i j x d hx hd => ?_
    obtain ⟨v, hv, hr⟩ := hrd i j x d hx hd
    exact ⟨v, hv, hr.ext he⟩

theorem ArrR.mono {w : World} {S T : Nat → Prop} {e k : Nat} {xs : List (List CD)} {v : Value} (hs : ∀ b, S b → T b) (h : ArrR w S e k xs v) : ArrR w T e k xs v := by
  cases h with
  | nil => exact .nil
  | row hg hn hc hz hk h1 hrd =>
    refine .row hg hn hc hz hk h1 fun i j x d hx hd => ?_
    obtain ⟨v, hv, hr⟩ := hrd i j x d hx hd
    exact ⟨v, hv, hr.mono hs⟩

/-- a row whose cells meet no memory -/
theorem ArrR.flat {w : World} {S T : Nat → Prop} {e k : Nat} {xs : List (List CD)} {v : Value} (hf : ∀ x ∈ xs, ∀ d ∈ x, CD.flatP d) (h : ArrR w S e k xs v) : ArrR w T e k xs v := by
  cases h with
  | nil => exact .nil
  | row hg hn hc hz hk h1 hrd =>
    refine .row hg hn hc hz hk h1 fun i j x d hx hd => ?_
    obtain ⟨v, hv, hr⟩ := hrd i j x d hx hd
    exact ⟨v, hv, hr.flat (hf x (List.mem_of_getElem? hx) d (List.mem_of_getElem? hd))⟩

/-- read as data, by those who may meet its block -/
theorem ArrR.data {w : World} {S : Nat → Prop} {e k : Nat} {xs : List (List CD)} {v : Value} (h : ArrR w S e k xs v) (hb : ∀ b, Value.blk v = some b → S b) : Rd w S (.sl k xs) v := by
  cases h with
  | nil => exact .sl0 (by unfold maxLen; omega) (fun _ => rfl)
  | row hg hn hc hz hk h1 hrd =>
    rename_i g o cap cur
    refine .sl (fun i j => cur.getD (o + (i * k + j)) default) hn hc (hb _ rfl) hk (fun i j hi hj => ?_) fun i j x d hx hd => ?_
    · have hlt : o + (i * k + j) < cur.size := by
        have : i * k + j < xs.length * k := by
          calc i * k + j < i * k + k := by omega
            _ = (i + 1) * k := by rw [Nat.add_mul, Nat.one_mul]
            _ ≤ xs.length * k := Nat.mul_le_mul_right _ (by omega)
        have h2 : xs.length * k ≤ cap * k := Nat.mul_le_mul_right _ hn
        omega
      have hadd : (⟨g, o, none⟩ : Addr).add (i * k + j) = ⟨g, o + (i * k + j), none⟩ := by unfold Addr.add; split <;> simp_all
      rw [hadd, cell_of_row w g _ cur e (0, 0) hg]
      simp [Array.getD, hlt]
    · obtain ⟨v, hv, hr⟩ := hrd i j x d hx hd
      have : cur.getD (o + (i * k + j)) default = v := by
        have := Array.getElem?_eq_some_iff.1 hv
        obtain ⟨hl, he⟩ := this
        simp [Array.getD, hl, he]
      rw [this]; exact hr

theorem ObR.ext {x : Ctx} {w w' : World} {S : Nat → Prop} {φ : Nat → Value} {o : AO} {v : Value} (h : ObR x w S φ o v) (he : Ext S w w') (hb : ∀ b, Value.blk v = some b → w'.heap[b]? = w.heap[b]?) (hi : ∀ b, innerB w o v b → w'.heap[b]? = w.heap[b]?) : ObR x w' S φ o v := by
  cases h with
  | rows0 => exact .rows0
  | rows hg hn hc hs h1 hr hd hw =>
    refine .rows ((hb _ rfl).trans hg) hn hc hs h1 (fun i xs hx hne => ?_) hd hw
    obtain ⟨v, hv, hrow⟩ := hr i xs hx hne
    exact ⟨v, hv, hrow.ext he fun b hbk => hi b ⟨_, i, v, hg, (List.getElem?_eq_some_iff.1 hx).1, hne, hv, hbk⟩⟩
  | arr h => exact .arr (h.ext he hb)
  | box hg hs h h1 => exact .box ((hb _ rfl).trans hg) hs (fun j a v ha hv => (h j a v ha hv).ext he) h1
  | map hg hst h => exact .map ((hb _ rfl).trans hg) hst (h.ext he)
  | iter hr hS hg hst hsc h hc =>
    refine .iter ((hb _ rfl).trans hr) hS ((he.block _ hS (Array.getElem?_eq_some_iff.1 hg).1).trans hg) hst hsc (h.ext he) fun n d e => ?_
    obtain ⟨sn, e', h1, h2, h3⟩ := hc n d e
    exact ⟨sn, e', h1, h2, h3.ext he⟩

theorem ObR.mono {x : Ctx} {w : World} {S T : Nat → Prop} {φ : Nat → Value} (hs : ∀ b, S b → T b) {o : AO} {v : Value} (h : ObR x w S φ o v) : ObR x w T φ o v := by
  cases h with
  | rows0 => exact .rows0
  | rows hg hn hc hz h1 hr hd hw =>
    refine .rows hg hn hc hz h1 (fun i xs hx hne => ?_) hd hw
    obtain ⟨v, hv, hrow⟩ := hr i xs hx hne
    exact ⟨v, hv, hrow.mono hs⟩
  | arr h => exact .arr (h.mono hs)
  | box hg hz h h1 => exact .box hg hz (fun j a v ha hv => (h j a v ha hv).mono hs) h1
  | map hg hst h => exact .map hg hst (h.mono hs)
  | iter hr hS hg hst hsc h hc =>
    refine .iter hr (hs _ hS) hg hst hsc (h.mono hs) fun n d e => ?_
    obtain ⟨sn, e', h1, h2, h3⟩ := hc n d e
    exact ⟨sn, e', h1, h2, h3.mono hs⟩


/-- a map, read as data, by those who may meet its block -/
theorem MapR.get {w : World} {S : Nat → Prop} {kk : KK} {es : List (List Int × Sum CD (List CD))} {l : List MapEntry} (h : MapR w S kk es l) : l.length = es.length ∧ ∀ (i : Nat) (n : List Int) (d : Sum CD (List CD)) (e : MapEntry), es[i]? = some (n, d) → l[i]? = some e → e.key = keyV kk n ∧ keyOk kk n ∧ ArgR w S d e.val := by
  induction h with
  | nil => exact ⟨rfl, fun i n d e h => by simp at h⟩
  | cons hk hw hv _ ih =>
    refine ⟨by simp [ih.1], fun i n d e he hl => ?_⟩
    cases i with
    | zero => simp at he hl; obtain ⟨rfl, rfl⟩ := he; subst hl; exact ⟨hk, hw, hv⟩
    | succ i => exact ih.2 i n d e (by simpa using he) (by simpa using hl)
theorem MapR.of_get {w : World} {S : Nat → Prop} {kk : KK} : ∀ {es : List (List Int × Sum CD (List CD))} {l : List MapEntry}, l.length = es.length → (∀ (i : Nat) (n : List Int) (d : Sum CD (List CD)) (e : MapEntry), es[i]? = some (n, d) → l[i]? = some e → e.key = keyV kk n ∧ keyOk kk n ∧ ArgR w S d e.val) → MapR w S kk es l
  | [], l, hl, _ => by obtain rfl := List.eq_nil_of_length_eq_zero hl; exact .nil
  | (n, d) :: r, [], hl, _ => by simp at hl
  | (n, d) :: r, e :: l, hl, h => by
    obtain ⟨h1, h2, h3⟩ := h 0 n d e rfl rfl
    exact .cons h1 h2 h3 (MapR.of_get (by simpa using hl) fun i n d e he hl => h (i + 1) n d e (by simpa using he) (by simpa using hl))
theorem MapR.data {w : World} {S : Nat → Prop} {kk : KK} {es : List (List Int × Sum CD (List CD))} {b clock : Nat} {ents : Array MapEntry} (hb : w.heap[b]? = some (.map ents clock)) (hS : S b) (hst : stampsOk ents clock) (h : MapR w S kk es ents.toList) : Rd w S (.mp kk es) (.map (some b)) := by
  obtain ⟨hl, hg⟩ := h.get
  have hent : ∀ i, i < es.length → ∃ e, ents[i]? = some e := fun i hi => ⟨_, Array.getElem?_eq_getElem (by rw [Array.length_toList] at hl; omega)⟩
  have hlt : ∀ (i : Nat) (x : List Int × Sum CD (List CD)), es[i]? = some x → i < es.length := fun i x h => (List.getElem?_eq_some_iff.1 h).1
  refine .mp (fun i => ((ents[i]?).map (·.val)).getD undef) (fun i j => match ((ents[i]?).map (·.val)).getD undef with | .agg cs => cs.getD j undef | _ => undef) hb hS hst (by simpa using hl) (fun i n d e he hl => ?_) (fun i n d e he hl => by simp [hl]) (fun i n d he => ?_) (fun i n ds e he hl => ?_) (fun i j n ds d he hd => ?_)
  · obtain ⟨a, b, _⟩ := hg i n d e he (by simpa using hl); exact ⟨a, b⟩
  · obtain ⟨e, hle⟩ := hent i (hlt i _ he)
    obtain ⟨_, _, hv⟩ := hg i n _ e he (by simpa using hle)
    simp only [hle, Option.map_some, Option.getD_some]
    cases hv with
    | one h => exact h
  · obtain ⟨_, _, hv⟩ := hg i n _ e he (by simpa using hl)
    simp only [hl, Option.map_some, Option.getD_some]
    generalize e.val = v at hv
    cases hv with
    | @agg _ vs hl2 h =>
      simp only [← hl2]
      have : vs = (List.range vs.length).map fun j => vs.toArray.getD j undef := by
        apply List.ext_getElem?
        intro j
        simp only [List.getElem?_map]
        rcases Nat.lt_or_ge j vs.length with hj | hj
        · simp [hj]
        · simp [hj]
      rw [← this]
  · obtain ⟨e, hle⟩ := hent i (hlt i _ he)
    obtain ⟨_, _, hv⟩ := hg i n _ e he (by simpa using hle)
    simp only [hle, Option.map_some, Option.getD_some]
    generalize e.val = v at hv
    cases hv with
    | @agg _ vs hl2 h =>
      have hj : j < vs.length := by rw [hl2]; exact (List.getElem?_eq_some_iff.1 hd).1
      have := h j d vs[j] hd (List.getElem?_eq_getElem hj)
      simpa [hj] using this
/-- .. and back: what is read as a map -/
theorem Rd.map_inv {w : World} {S : Nat → Prop} {kk : KK} {es : List (List Int × Sum CD (List CD))} {v : Value} (h : Rd w S (.mp kk es) v) : ∃ b ents clock, v = .map (some b) ∧ w.heap[b]? = some (.map ents clock) ∧ S b ∧ stampsOk ents clock ∧ MapR w S kk es ents.toList := by
  cases h with
  | @mp _ _ b clock ents v1 v2 hb hS hst hl hk h1 hr1 h2 hr2 =>
    refine ⟨b, ents, clock, rfl, hb, hS, hst, MapR.of_get (by simpa using hl) fun i n d e he hle => ?_⟩
    have hle' : ents[i]? = some e := by simpa using hle
    obtain ⟨k1, k2⟩ := hk i n d e he hle'
    refine ⟨k1, k2, ?_⟩
    cases d with
    | inl d => rw [h1 i n d e he hle']; exact .one (hr1 i n d he)
    | inr ds =>
      rw [h2 i n ds e he hle']
      refine .agg (by simp) fun j d v hd hv => ?_
      simp only [List.getElem?_map, Option.map_eq_some_iff] at hv
      obtain ⟨j', hj', rfl⟩ := hv
      obtain ⟨hjl, e'⟩ := List.getElem?_eq_some_iff.1 hj'
      simp at e'; subst e'
      exact hr2 i j n ds d he hd

end Go.AL

namespace Go.AL
open Go Go.RowKit

inductive AX where
  | t (n : Nat)
  | k (a : AV)
deriving Inhabited

inductive AK where
  | mv (x : AX)
  | pick (c a b : AX)
  | bin (op : BinOp) (x y : AX)
  | eqs (neg : Bool) (sh : List Bool) (x y : AX)
  | beq (neg : Bool) (x y : AX)
  | not (x : AX)
  | neg (x : AX)
  | ext (x : AX) (i : Nat)
  | fad (off : Nat) (x : AX)
  | iad (k : Nat) (x i : AX)
  | iadA (len k : Nat) (x i : AX)
  | ld (n : Option Nat) (x : AX)
  | idx (n k : Nat) (isAgg : Bool) (x i : AX)
  | fld (off : Nat) (n : Option Nat) (x : AX)
  | nilck (x : AX)
  | conv (k : IntKind) (x : AX)
  | build (zero : List AV) (parts : List (Nat × Nat × AX))
  | len (x : AX)
  | minmax (isMax : Bool) (x y : AX)
  | mkfn (f : Nat) (caps : List AX)
  | slc (k : Nat) (x : AX) (lo hi : Option AX)
  | box (t : Nat) (n : Option Nat) (x : AX)
  | alloc (t : Nat) (zero : List AV)
  | bslice (e k : Nat) (parts : List AX)
  | st (n : Option Nat) (x v : AX)
  | app (e k bytes : Nat) (s x : AX)
  | mks (e k bytes : Nat) (zero : List CD) (len cap : AX)
  | call (f : Nat) (args : List AX)
  | callv (x : AX) (args : List AX)
  | mkmap (kk : KK)
  | look (kk : KK) (zero : Sum CD (List CD)) (ok : Bool) (m k : AX)
  | mset (kk : KK) (m k v : AX)
  | isnil (neg : Bool) (x : AX)
  | mdel (kk : KK) (m k : AX)
  | mlen (m : AX)
  | mrange (m : AX)
  | mnext (x : AX)
  | mentry (x : AX)

structure AP where
  dst : Option Nat
  op : AK
  g : Option (Nat × Bool)

/-- in which order the operations of a region that draws are looked at -/
inductive Plan where
  | done
  | nope
  | first (i : Nat) (p : Plan)
  | fork (i : Nat) (p r : Plan)
inductive PlanA where
  | done
  | nope
  | first (o : AP) (p : PlanA)
  | fork (o : AP) (p r : PlanA)

/-- a knot of a region's orders: nothing is left; this one, and then that knot; any of these -/
inductive GN where
  | fin
  | one (i j : Nat)
  | all (es : List (Nat × Nat))

inductive AC where
  | skip
  | reg (ops : List AP) (draw : Bool)
  | regD (ops : List (AP × List Nat))
  | regX (p : PlanA)
  | regG (l : List AP) (pre blk : List Nat)
  | seq (a b : AC)
  | cond (c : AX) (a b : AC)
  | block (id : Nat) (b : AC)
  | loop (b : AC)
  | exit (id : Nat)
  | ret
  | scope (b : AC)
  | label (l : Nat)

/-! ### a state of the small code, and a frame in a world -/

structure Sim (x : Ctx) (S : Nat → Prop) (φ : Nat → Value) (σ : St) (a : Act) (w : World) : Prop where
  tms : ∀ t, AVR x w S φ (σ.get t) (a.tmps.getD t undef)
  size : a.tmps.size = σ.n
  obs : ∀ id o, obGet id σ.ob = some o → ObR x w S φ o (φ id)
  own : ∀ id o b, obGet id σ.ob = some o → Value.blk (φ id) = some b → ¬ S b ∧ b < w.heap.size ∧ (x.w0.heap.size ≤ b ∨ x.InO b)
  inj : ∀ id id' o o' b, obGet id σ.ob = some o → obGet id' σ.ob = some o' → Value.blk (φ id) = some b → Value.blk (φ id') = some b → id = id'
  inr : ∀ id o b, obGet id σ.ob = some o → innerB w o (φ id) b → (¬ S b ∧ b < w.heap.size ∧ (x.w0.heap.size ≤ b ∨ x.InO b)) ∧ ∀ id' o', obGet id' σ.ob = some o' → Value.blk (φ id') ≠ some b ∧ (innerB w o' (φ id') b → id' = id)
  dat : ∀ b, S b → b < w.heap.size ∧ (x.S0 b ∨ x.w0.heap.size ≤ b ∨ x.InO b)
  ext : Ext (fun b => ¬ x.InO b) x.w0 w
  defers : a.defers = []
  small : σ.n ≤ 10000
  pins : ∀ id, 1000000 ≤ id → φ id = x.φ0 id

def simQ (x : Ctx) (Q : Exit → St → Prop) (e : Exit) (a : Act) (w : World) : Prop := ∃ σ S φ, Q e σ ∧ Sim x S φ σ a w

def St.ev (σ : St) : AX → AV
  | .t n => σ.get n
  | .k a => a

def St.put (σ : St) (d : Nat) (a : AV) : St := { σ with tm := (d, a) :: σ.tm }

theorem getD_setIfInBounds (a : Array Value) (d t : Nat) (v : Value) (hd : d < a.size) : (a.setIfInBounds d v).getD t undef = if t = d then v else a.getD t undef := by
  by_cases h : t = d
  · subst h; simp [Array.getD, hd]
  · simp only [h, if_false]
    simp only [Array.getD_eq_getD_getElem?]
    rw [Array.getElem?_setIfInBounds_ne (fun e => h e.symm)]

theorem get_put (σ : St) (d t : Nat) (a : AV) : (σ.put d a).get t = if t = d then a else σ.get t := by
  unfold St.put St.get
  by_cases h : t = d
  · subst h; simp [St.get.go]
  · have : Nat.beq t d = false := by
      cases hb : Nat.beq t d with
      | false => rfl
      | true => exact absurd (Nat.eq_of_beq_eq_true hb) h
    simp [St.get.go, this, h]

/-- a value into a slot, the world as it is or grown -/
theorem Sim.put {x : Ctx} {S : Nat → Prop} {φ : Nat → Value} {σ : St} {a : Act} {w : World} (h : Sim x S φ σ a w) {d : Nat} (hd : d < σ.n) {r : AV} {v : Value} (hr : AVR x w S φ r v) :
    Sim x S φ (σ.put d r) (a.put (some d) v) w where
  tms := fun t => by
    rw [get_put]
    simp only [Act.put]
    rw [getD_setIfInBounds _ _ _ _ (by rw [h.size]; exact hd)]
    split
    · exact hr
    · exact h.tms t
  size := by simp only [Act.put, Array.size_setIfInBounds]; exact h.size
  obs := h.obs
  own := h.own
  inj := h.inj
  inr := h.inr
  dat := h.dat
  ext := h.ext
  defers := h.defers
  small := h.small
  pins := h.pins

/-- the world grows, what it holds stays -/
theorem Sim.world {x : Ctx} {S : Nat → Prop} {φ : Nat → Value} {σ : St} {a : Act} {w w' : World} (h : Sim x S φ σ a w) (he : Ext All w w') : Sim x S φ σ a w' where
  tms := fun t => (h.tms t).ext (he.mono fun _ _ => trivial)
  size := h.size
  obs := fun id o ho => (h.obs id o ho).ext (he.mono fun _ _ => trivial) (fun b hb => he.block b trivial (h.own id o b ho hb).2.1) (fun b hb => he.block b trivial (h.inr id o b ho hb).1.2.1)
  own := fun id o b ho hb => let ⟨h1, h2, h3⟩ := h.own id o b ho hb; ⟨h1, Nat.lt_of_lt_of_le h2 he.size, h3⟩
  inj := h.inj
  inr := fun id o b ho hb => by
    have back : ∀ id o, obGet id σ.ob = some o → ∀ b, innerB w' o (φ id) b → innerB w o (φ id) b := fun id o ho b hb => innerB_ext (fun b hb => he.block b trivial (h.own id o b ho hb).2.1) hb
    obtain ⟨⟨h1, h2, h3⟩, h4⟩ := h.inr id o b ho (back id o ho b hb)
    exact ⟨⟨h1, Nat.lt_of_lt_of_le h2 he.size, h3⟩, fun id' o' ho' => ⟨(h4 id' o' ho').1, fun hb' => (h4 id' o' ho').2 (back id' o' ho' b hb')⟩⟩
  dat := fun b hb => ⟨Nat.lt_of_lt_of_le (h.dat b hb).1 he.size, (h.dat b hb).2⟩
  ext := h.ext.trans (he.mono fun _ _ => trivial)
  defers := h.defers
  small := h.small
  pins := h.pins

/-- more data blocks: new ones, or those of no object -/
theorem Sim.more {x : Ctx} {S T : Nat → Prop} {φ : Nat → Value} {σ : St} {a : Act} {w : World} (h : Sim x S φ σ a w) (hs : ∀ b, S b → T b)
    (hn : ∀ b, T b → ¬ S b → b < w.heap.size ∧ (x.S0 b ∨ x.w0.heap.size ≤ b ∨ x.InO b) ∧ ∀ id o, obGet id σ.ob = some o → Value.blk (φ id) ≠ some b ∧ ¬ innerB w o (φ id) b) : Sim x T φ σ a w where
  tms := fun t => (h.tms t).mono hs
  size := h.size
  obs := fun id o ho => (h.obs id o ho).mono hs
  own := fun id o b ho hb => by
    obtain ⟨h1, h2, h3⟩ := h.own id o b ho hb
    exact ⟨fun ht => ((hn b ht h1).2.2 id o ho).1 hb, h2, h3⟩
  inj := h.inj
  inr := fun id o b ho hb => by
    obtain ⟨⟨h1, h2, h3⟩, h4⟩ := h.inr id o b ho hb
    exact ⟨⟨fun ht => ((hn b ht h1).2.2 id o ho).2 hb, h2, h3⟩, h4⟩
  dat := fun b hb => by
    by_cases hsb : S b
    · exact h.dat b hsb
    · exact ⟨(hn b hb hsb).1, (hn b hb hsb).2.1⟩
  ext := h.ext
  defers := h.defers
  small := h.small
  pins := h.pins

/-- a block that is not there yet is no object's -/
theorem Sim.free {x : Ctx} {S : Nat → Prop} {φ : Nat → Value} {σ : St} {a : Act} {w w' : World} (h : Sim x S φ σ a w) (he : Ext All w w') {b : Nat} (hb : w.heap.size ≤ b) {i : Nat} {p : AO} (hp : obGet i σ.ob = some p) : Value.blk (φ i) ≠ some b ∧ ¬ innerB w' p (φ i) b := by
  refine ⟨fun hbk => ?_, fun hi => ?_⟩
  · have := (h.own i p b hp hbk).2.1; omega
  · have := (h.inr i p b hp (innerB_ext (fun b hbk => he.block b trivial (h.own i p b hp hbk).2.1) hi)).1.2.1; omega

/-- an object's block is no other one's -/
theorem Sim.apart {x : Ctx} {S : Nat → Prop} {φ : Nat → Value} {σ : St} {a : Act} {w : World} (h : Sim x S φ σ a w) {id : Nat} {o : AO} {b : Nat} (ho : obGet id σ.ob = some o) (hb : Value.blk (φ id) = some b) {i : Nat} {p : AO} (hi : i ≠ id) (hp : obGet i σ.ob = some p) : Value.blk (φ i) ≠ some b ∧ ¬ innerB w p (φ i) b :=
  ⟨fun hbk => hi (h.inj i id p o b hp ho hbk hb), fun hin => ((h.inr i p b hp hin).2 id o ho).1 hb⟩

/-! ### what stands behind code -/

def thenQ (K : St → Prop) (Q : Exit → St → Prop) : Exit → St → Prop
  | .normal, τ => K τ
  | e, τ => Q e τ
def blockQ (id : Nat) (Q : Exit → St → Prop) : Exit → St → Prop
  | .exit i, τ => bif Nat.beq i id then Q .normal τ else Q (.exit i) τ
  | e, τ => Q e τ
def scopeQ (Q : Exit → St → Prop) : Exit → St → Prop := fun e τ => match e with
  | .goto _ => False
  | e => Q e τ

end Go.AL

namespace Go.AL
open Go Go.RowKit

/-! ### from the loaded code to the small one -/
def kOk (k : IntKind) (n : Int) : Bool := decide (k.min ≤ n) && decide (n ≤ k.max)

def constCD : Value → Option CD
  | .int k n => bif kOk k n then some (.sc (.int k n)) else none
  | .bool b => some (.sc (.bool b))
  | .slice none 0 0 => some .nil
  | .map none => some .mn
  | _ => none

def constCDs : List Value → Option (List CD)
  | [] => some []
  | v :: r => match constCD v, constCDs r with
    | some d, some ds => some (d :: ds)
    | _, _ => none

def constAV : Value → Option AV
  | .agg cs => (constCDs cs.toList).map fun ds => .agg (ds.map AV.c)
  | v => (constCD v).map AV.c

def compX : Operand → Option AX
  | .tmp t => some (.t t)
  | .const v => some (.k ((constAV v).getD .any))
  | .func f => some (.k (.fn f []))
  | .global _ => none

def compXs : List Operand → Option (List AX)
  | [] => some []
  | x :: r => match compX x, compXs r with
    | some a, some as => some (a :: as)
    | _, _ => none

/-- one cell (none) or an aggregate of n -/
def shapeOf (P : Program) (t : TypeId) : Option (Option Nat) :=
  match P.underlying t, P.info? t with
  | some (.struct _), some i => some (some i.size)
  | some (.array _ _), some i => some (some i.size)
  | some _, some i => bif Nat.beq i.size 1 then some none else none
  | _, _ => none

def cellsNum (P : Program) (t : TypeId) : Option Nat := (P.info? t).map (·.size)

def zeroOf (P : Program) (t : TypeId) : Option (List CD) :=
  match (P.info? t).bind (·.zero) with
  | some z => constCDs z.cells.toList
  | none => none

def zeroLen (P : Program) (t : TypeId) (k : Nat) : Bool := match zeroOf P t with
  | some z => Nat.beq z.length k
  | none => false

/-- the type's cells are bools (true) and integers (false), a field a cell, in order -/
def plainFields (P : Program) : Nat → List Field → Option (List Bool)
  | _, [] => some []
  | j, f :: r => bif Nat.beq f.offset j && (f.name != "_") then
      (match P.underlying f.type, plainFields P (j + 1) r with
        | some (.int _), some sh => some (false :: sh)
        | some .bool, some sh => some (true :: sh)
        | _, _ => none) else none

def plainStruct (P : Program) (t : TypeId) : Option (List Bool) :=
  match P.underlying t with
  | some (.struct fs) => bif P.eqGuardType P.depth t || P.stoodInHeld t then none else plainFields P 0 fs.toList
  | _ => none

def seqParts : Nat → List (Nat × Operand) → Option (List AX)
  | _, [] => some []
  | i, (j, x) :: r => bif Nat.beq i j then (match compX x, seqParts (i + 1) r with | some a, some as => some (a :: as) | _, _ => none) else none

def buildParts (P : Program) (place : Nat → Option (Nat × Nat)) : List (Nat × Operand) → Option (List (Nat × Nat × AX))
  | [] => some []
  | (j, x) :: r => match place j, compX x, buildParts P place r with
    | some (off, n), some a, some as => some ((off, n, a) :: as)
    | _, _, _ => none

def optX : Option Operand → Option (Option AX)
  | none => some none
  | some x => (compX x).map some

def isIntT (P : Program) (t : TypeId) : Bool := match P.underlying t with | some (.int _) => true | _ => false
def isSliceT (P : Program) (t : TypeId) : Bool := match P.underlying t with | some (.slice _) => true | _ => false
def isBoolT (P : Program) (t : TypeId) : Bool := match P.underlying t with | some .bool => true | _ => false

def zeroArg (P : Program) (t : TypeId) : Option (Sum CD (List CD)) := match (P.info? t).bind (·.zero) with
  | some (.agg cs) => (constCDs cs.toList).map .inr
  | some v => (constCD v).map .inl
  | none => none

/-- a struct of integers, a field a cell, in order -/
def intFields (P : Program) : Nat → List Field → Option (List IntKind)
  | _, [] => some []
  | j, f :: r => bif Nat.beq f.offset j && (f.name != "_") then
      (match P.underlying f.type, intFields P (j + 1) r with
        | some (.int k), some ks => some (k :: ks)
        | _, _ => none) else none
/-- what the keys are -/
def keyKind (P : Program) (t : TypeId) : Option KK := match P.underlying t with
  | some (.int k) => some (.one k)
  | some (.struct fs) => bif P.stoodInHeld t then none else (intFields P 0 fs.toList).map .agg
  | _ => none

def compOp (P : Program) (o : Oper) : Option AK :=
  match o.op with
  | .move x | .assign x => (compX x).map .mv
  | .pick c a b => match compX c, compX a, compX b with | some c, some a, some b => some (.pick c a b) | _, _, _ => none
  | .binOp op t x y _ => match compX x, compX y with
    | some x, some y =>
      if isIntT P t then some (.bin op x y)
      else if isBoolT P t then (match op with | .eql => some (.beq false x y) | .neq => some (.beq true x y) | _ => none)
      else if isSliceT P t then (match op, y with | .eql, .k (.c .nil) => some (.isnil false x) | .neq, .k (.c .nil) => some (.isnil true x) | _, _ => none)
      else (match op, plainStruct P t with | .eql, some sh => some (.eqs false sh x y) | .neq, some sh => some (.eqs true sh x y) | _, _ => none)
    | _, _ => none
  | .unOp .not _ x => (compX x).map .not
  | .unOp .neg _ x => (compX x).map .neg
  | .extract x i => (compX x).map (.ext · i)
  | .fieldAddr s x f => match P.underlying s, compX x with
    | some (.struct fs), some x => match fs[f]? with
      | some g => match cellsNum P g.type with
        | some (_ + 1) => some (.fad g.offset x)
        | _ => none
      | none => none
    | _, _ => none
  | .indexAddr t x i => match P.underlying t, compX x, compX i with
    | some (.slice e), some x, some i => (cellsNum P e).map fun k => .iad k x i
    | some (.array n e), some x, some i => (cellsNum P e).map fun k => .iadA n k x i
    | _, _, _ => none
  | .load t x => match shapeOf P t, compX x with | some n, some x => some (.ld n x) | _, _ => none
  | .store t x v => match shapeOf P t, compX x, compX v with | some n, some x, some v => some (.st n x v) | _, _, _ => none
  | .index t x i => match P.underlying t, compX x, compX i with
    | some (.array n e), some x, some i => match shapeOf P e, cellsNum P e with
      | some s, some k => some (.idx n k s.isSome x i)
      | _, _ => none
    | _, _, _ => none
  | .field t x f => match P.underlying t, compX x with
    | some (.struct fs), some x => match fs[f]? with
      | some g => match shapeOf P g.type with | some n => some (.fld g.offset n x) | none => none
      | none => none
    | _, _ => none
  | .nilCheck x => (compX x).map .nilck
  | .convert s t x => match P.underlying s, P.underlying t, compX x with
    | some (.int _), some (.int k), some x => some (.conv k x)
    | _, _, _ => none
  | .build t parts => match zeroOf P t, P.underlying t with
    | some z, some (.struct fs) => bif !(fs.toList.all fun f => (cellsNum P f.type).isSome) then none else (buildParts P (fun j => (fs[j]?).bind fun f => (cellsNum P f.type).map fun n => (f.offset, n)) parts.toList).map (.build (z.map AV.c) ·)
    | some z, some (.array _ e) => match cellsNum P e with
      | some k => (buildParts P (fun j => some (j * k, k)) parts.toList).map (.build (z.map AV.c) ·)
      | none => none
    | _, _ => none
  | .buildSlice t len parts => match P.underlying t, seqParts 0 parts.toList with
    | some (.slice e), some as => match cellsNum P e with
      | some k => bif (Nat.beq as.length len && decide (len ≤ 16777216 ∧ len * k ≤ 16777216)) && (zeroOf P e).isSome then some (.bslice e k as) else none
      | none => none
    | _, _ => none
  | .box t x => match shapeOf P t, compX x with | some n, some x => some (.box t n x) | _, _ => none
  | .alloc t => match zeroOf P t with | some z => some (.alloc t (z.map AV.c)) | none => none
  | .makeFunc (.func f) first caps => bif Nat.beq first.size 0 then (compXs caps.toList).map (.mkfn f ·) else none
  | .makeSlice t l c => match P.underlying t, compX l, compX c with
    | some (.slice e), some l, some c => match cellsNum P e, zeroOf P e, P.info? e with
      | some k, some z, some i => some (.mks e k i.bytes z l c)
      | _, _, _ => none
    | _, _, _ => none
  | .makeMap t none => match P.underlying t with
    | some (.map key _) => match keyKind P key with
      | some kk => some (.mkmap kk)
      | none => none
    | _ => none
  | .lookup t m k ok => match P.underlying t, compX m, compX k with
    | some (.map key e), some m, some k => match keyKind P key, zeroArg P e with
      | some kk, some z => some (.look kk z ok m k)
      | _, _ => none
    | _, _, _ => none
  | .mapUpdate t m k v => match P.underlying t, compX m, compX k, compX v with
    | some (.map key _), some m, some k, some v => match keyKind P key with
      | some kk => some (.mset kk m k v)
      | none => none
    | _, _, _, _ => none
  | .insert t m k v => match P.underlying t, compX m, compX k, compX v with
    | some (.map key _), some m, some k, some v => match keyKind P key with
      | some kk => some (.mset kk m k v)
      | none => none
    | _, _, _, _ => none
  | .range t m => match P.underlying t, compX m with
    | some (.map _ _), some m => some (.mrange m)
    | _, _ => none
  | .next x false => (compX x).map .mnext
  | .entry x => (compX x).map .mentry
  | .slice t x lo hi none => match P.underlying t, compX x, optX lo, optX hi with
    | some (.slice e), some x, some lo, some hi => (cellsNum P e).map fun k => .slc k x lo hi
    | _, _, _, _ => none
  | .call { callee := .builtin .len, args := args, argTypes := ts } => match args.toList, ts.toList with
    | [x], [t] => match P.underlying t, compX x with | some (.slice _), some x => some (.len x) | some (.map _ _), some x => some (.mlen x) | _, _ => none
    | _, _ => none
  | .call { callee := .builtin .delete, args := args, argTypes := ts } => match args.toList, ts.toList with
    | [m, k], t :: _ => match P.underlying t, compX m, compX k with
      | some (.map key _), some m, some k => match keyKind P key with
        | some kk => some (.mdel kk m k)
        | none => none
      | _, _, _ => none
    | _, _ => none
  | .call { callee := .builtin .min, args := args, .. } => match args.toList with
    | [x, y] => match compX x, compX y with | some x, some y => some (.minmax false x y) | _, _ => none
    | _ => none
  | .call { callee := .builtin .max, args := args, .. } => match args.toList with
    | [x, y] => match compX x, compX y with | some x, some y => some (.minmax true x y) | _, _ => none
    | _ => none
  | .call { callee := .builtin .append, args := args, argTypes := ts } => match args.toList, ts.toList with
    | [s, x], [t, u] => match P.underlying t, compX s, compX x with
      | some (.slice e), some s, some x => match cellsNum P e, P.info? e with
        | some k, some i => bif Nat.beq t u && zeroLen P e k then some (.app e k i.bytes s x) else none
        | _, _ => none
      | _, _, _ => none
    | _, _ => none
  | .call { callee := .value (.func f), args := args, .. } => (compXs args.toList).map (.call f ·)
  | .call { callee := .value x, args := args, .. } => match compX x, compXs args.toList with
    | some x, some as => some (.callv x as)
    | _, _ => none
  | _ => none

def compGuard (ops : Array Oper) : Option (Nat × Bool) → Option (Option (Nat × Bool))
  | none => some none
  | some (j, want) => match (ops[j]?).bind (·.dst) with
    | some s => some (some (s, want))
    | none => none

def compOps (P : Program) (ops : Array Oper) : List Oper → Option (List AP)
  | [] => some []
  | o :: r => match compOp P o, compGuard ops o.guard, compOps P ops r with
    | some k, some g, some as => some ({ dst := o.dst, op := k, g } :: as)
    | _, _, _ => none

/-- every operation of these kinds can stand in a quiet region -/
def AK.quietK : AK → Bool
  | .box .. | .alloc .. | .st .. | .app .. | .mks .. | .slc .. | .mkmap .. | .mset .. | .isnil .. | .mdel .. | .mrange .. | .mnext .. | .mentry .. => false
  | _ => true
def AK.firstK : AK → Bool
  | .mv _ | .pick .. | .bin .. | .eqs .. | .beq .. | .not _ | .neg _ | .ext .. | .fad .. | .iad .. | .iadA .. | .idx .. | .fld .. | .nilck _ | .conv .. | .build .. | .len _ | .minmax .. | .mkfn .. => true
  | _ => false
def readyB (ops : Array Oper) (listed : Array Bool) : List Nat := Region.ready .any ops listed
/-- the first that can be taken ahead of all others -/
def pickFirst (ops : Array Oper) (l : List AP) (listed : Array Bool) : List Nat → Option Nat
  | [] => none
  | i :: r => match l[i]? with
    | some ap => bif ap.op.firstK && ap.dst.isSome && Region.free .any ops listed i then some i else pickFirst ops l listed r
    | none => none
def mkPlan (ops : Array Oper) (l : List AP) : Nat → Array Bool → Plan
  | 0, _ => .done
  | n + 1, listed => match readyB ops listed with
    | [] => .done
    | rs => match pickFirst ops l listed rs with
      | some i => .first i (mkPlan ops l n (listed.setIfInBounds i true))
      | none => rs.foldr (fun i p => .fork i (mkPlan ops l n (listed.setIfInBounds i true)) p) .nope
def forksB (rs : List Nat) : Plan → Bool
  | .nope => rs.isEmpty
  | .fork i _ r => forksB (rs.filter (· != i)) r
  | _ => false
/-- the plan looks at every order -/
def planB (ops : Array Oper) (l : List AP) : Plan → Nat → Array Bool → Bool
  | .done, _, listed => (readyB ops listed).isEmpty
  | .nope, _, _ => true
  | .first i p, n + 1, listed => (match l[i]? with | some ap => ap.op.firstK && ap.dst.isSome | none => false) && Region.free .any ops listed i && (readyB ops listed).contains i && planB ops l p n (listed.setIfInBounds i true)
  | .fork i p r, n + 1, listed => planB ops l p n (listed.setIfInBounds i true) && planB ops l r (n + 1) listed
  | _, 0, _ => false
/-- .. and so do the forks in it -/
def forkB (ops : Array Oper) : Plan → Bool → Array Bool → Bool
  | .done, _, _ => true
  | .nope, h, _ => h
  | .first i p, _, listed => forkB ops p false (listed.setIfInBounds i true)
  | .fork i p r, h, listed => (h || (!(readyB ops listed).isEmpty && forksB (readyB ops listed) (.fork i p r))) && forkB ops p false (listed.setIfInBounds i true) && forkB ops r true listed

def attachP (l : List AP) : Plan → Option PlanA
  | .done => some .done
  | .nope => some .nope
  | .first i p => match l[i]?, attachP l p with
    | some o, some q => some (.first o q)
    | _, _ => none
  | .fork i p r => match l[i]?, attachP l p, attachP l r with
    | some o, some q, some s => some (.fork o q s)
    | _, _, _ => none

/-! the orders of a region as a graph: a knot for each set of operations (a number's bits) that can have been listed -/
def bitB (m i : Nat) : Bool := Nat.beq (Nat.land (Nat.shiftRight m i) 1) 1
def withB (m i : Nat) : Nat := Nat.lor m (Nat.shiftLeft 1 i)
def inB (p m : Nat) : Bool := Nat.beq (Nat.land p m) p
def nthN : List Nat → Nat → Nat
  | [], _ => 0
  | x :: _, 0 => x
  | _ :: r, i + 1 => nthN r i
/-- what an operation waits for -/
def preBits : List Edge → Nat
  | [] => 0
  | e :: r => bif Region.binds .any e then withB (preBits r) e.on else preBits r
def preOf (ops : Array Oper) : List Nat := ops.toList.map fun o => preBits o.after.toList
/-- what must be listed before an operation can be taken ahead of all others -/
def blkBits (ops : Array Oper) (i : Nat) (oi : Oper) : Nat → List Oper → Nat
  | _, [] => 0
  | j, oj :: r => bif Nat.beq j i || oj.after.any (fun e => Region.binds .any e && e.on == i) || oi.apart ops oj then blkBits ops i oi (j + 1) r else withB (blkBits ops i oi (j + 1) r) j
def blkGo (ops : Array Oper) : Nat → List Oper → List Nat
  | _, [] => []
  | i, o :: r => blkBits ops i o 0 ops.toList :: blkGo ops (i + 1) r
def blkOf (ops : Array Oper) : List Nat := blkGo ops 0 ops.toList
def readyM (pre : List Nat) (n m : Nat) : List Nat := (List.range n).filter fun i => !bitB m i && inB (nthN pre i) m
def firstB (l : List AP) (i : Nat) : Bool := match l[i]? with
  | some ap => ap.op.firstK && ap.dst.isSome
  | none => false
def pickM (l : List AP) (blk : List Nat) (m : Nat) : List Nat → Option Nat
  | [] => none
  | i :: r => bif firstB l i && inB (nthN blk i) m then some i else pickM l blk m r
def succM (l : List AP) (blk : List Nat) (m : Nat) (rs : List Nat) : List Nat := match pickM l blk m rs with
  | some i => [withB m i]
  | none => rs.map (withB m)
def memN (x : Nat) : List Nat → Bool
  | [] => false
  | y :: r => Nat.beq x y || memN x r
def addN : List Nat → List Nat → List Nat
  | [], acc => acc
  | x :: r, acc => bif memN x acc then addN r acc else addN r (x :: acc)
def layN (l : List AP) (pre blk : List Nat) (n : Nat) : List Nat → List Nat → List Nat
  | [], acc => acc
  | m :: r, acc => layN l pre blk n r (addN (succM l blk m (readyM pre n m)) acc)
/-- at least so many knots -/
def manyB (l : List AP) (pre blk : List Nat) (n : Nat) : Nat → Nat → List Nat → Bool
  | 0, _, _ => false
  | f + 1, k, cur => match cur with
    | [] => false
    | m :: r => Nat.ble k (m :: r).length || manyB l pre blk n f (k - (m :: r).length) (layN l pre blk n (m :: r) [])
/-- so many knots at least make a graph of a tree -/
def graphy : Nat := 36
def graphB (ops : Array Oper) (l : List AP) : Bool := manyB l (preOf ops) (blkOf ops) ops.size (ops.size + 1) graphy [0]
def goesTo (ms : List Nat) (m i j : Nat) : Bool := Nat.ble (j + 1) ms.length && Nat.beq (nthN ms j) (withB m i)
def allTo (ms : List Nat) (m : Nat) : List (Nat × Nat) → Bool
  | [] => true
  | e :: r => goesTo ms m e.1 e.2 && allTo ms m r
def eqN : List Nat → List (Nat × Nat) → Bool
  | [], [] => true
  | x :: r, e :: s => Nat.beq x e.1 && eqN r s
  | _, _ => false
def knotB (l : List AP) (pre blk : List Nat) (ms : List Nat) (m : Nat) : GN → Bool
  | .fin => (readyM pre l.length m).isEmpty
  | .one i j => firstB l i && inB (nthN blk i) m && memN i (readyM pre l.length m) && goesTo ms m i j
  | .all es => !es.isEmpty && eqN (readyM pre l.length m) es && allTo ms m es
def knotsB (l : List AP) (pre blk : List Nat) (ms : List Nat) : List Nat → List GN → Bool
  | [], [] => true
  | m :: r, g :: gs => knotB l pre blk ms m g && knotsB l pre blk ms r gs
  | _, _ => false

def compReg (P : Program) (ops : Array Oper) : Bool → Option AC
  | false => (compOps P ops ops.toList).map fun l => .reg l false
  | true => match compOps P ops ops.toList with
    | none => none
    | some l => bif Region.lexB .any ops && (l.all fun p => p.op.quietK && p.dst.isSome) then some (.regD (l.zip (ops.toList.map (Oper.looksAt ops))))
      else bif Region.noSelect ops && graphB ops l then some (.regG l (preOf ops) (blkOf ops))
      else bif Region.noSelect ops && planB ops l (mkPlan ops l ops.size (Array.replicate ops.size false)) ops.size (Array.replicate ops.size false) && forkB ops (mkPlan ops l ops.size (Array.replicate ops.size false)) false (Array.replicate ops.size false) then
        (attachP l (mkPlan ops l ops.size (Array.replicate ops.size false))).map .regX
      else none

theorem compReg_ne {P : Program} {ops : Array Oper} {d : Bool} {c : AC} (h : compReg P ops d = some c) (h1 : ∀ l, c ≠ .reg l false) (h2 : ∀ l, c ≠ .regD l) (h3 : ∀ p, c ≠ .regX p := by simp) (h4 : ∀ l p b, c ≠ .regG l p b := by simp) : False := by
  unfold compReg at h
  split at h
  · simp only [Option.map_eq_some_iff] at h
    obtain ⟨l, _, rfl⟩ := h; exact h1 l rfl
  · split at h
    · cases h
    · rename_i l hl
      cases hq : Region.lexB .any ops && (l.all fun p => p.op.quietK && p.dst.isSome) with
      | true => rw [hq] at h; simp only [cond_true, Option.some.injEq] at h; exact h2 _ h.symm
      | false =>
        rw [hq] at h
        simp only [cond_false] at h
        cases hg : Region.noSelect ops && graphB ops l with
        | true => rw [hg] at h; simp only [cond_true, Option.some.injEq] at h; exact h4 _ _ _ h.symm
        | false =>
        rw [hg] at h
        simp only [cond_false] at h
        generalize mkPlan ops l ops.size (Array.replicate ops.size false) = p at h
        cases hp : Region.noSelect ops && planB ops l p ops.size (Array.replicate ops.size false) && forkB ops p false (Array.replicate ops.size false) with
        | true => rw [hp] at h; simp only [cond_true, Option.map_eq_some_iff] at h; obtain ⟨q, _, h⟩ := h; exact h3 _ h.symm
        | false => rw [hp] at h; simp at h

def comp (P : Program) : Code → Option AC
  | .skip => some .skip
  | .region _ ops draw => compReg P ops draw
  | .seq a b => match comp P a, comp P b with | some a, some b => some (.seq a b) | _, _ => none
  | .cond c a b => match compX c, comp P a, comp P b with | some c, some a, some b => some (.cond c a b) | _, _, _ => none
  | .block id b => (comp P b).map (.block id ·)
  | .loop b => (comp P b).map .loop
  | .exit id => some (.exit id)
  | .ret => some .ret
  | .scope b => (comp P b).map .scope
  | .label l => some (.label l)
  | _ => none

/-! ### the judgement on code -/

def AW (P : Program) (c : AC) (Q : Exit → St → Prop) (σ : St) : Prop :=
  ∀ code, comp P code = some c → ∀ (x : Ctx) (S : Nat → Prop) (φ : Nat → Value) (a : Act) (w : World), x.P = P → Sim x S φ σ a w → code.wp P (simQ x Q) a w

/-- the judgement on the operations of a region ('all': the region whole) -/
def AL (P : Program) (aps : List AP) (Q : Exit → St → Prop) (σ : St) : Prop :=
  ∀ all l, compOps P all l = some aps → ∀ (x : Ctx) (S : Nat → Prop) (φ : Nat → Value) (a : Act) (w : World), x.P = P → Sim x S φ σ a w → wpList P all (simQ x Q) l a w

def seqQ (P : Program) (b : AC) (Q : Exit → St → Prop) : Exit → St → Prop
  | .normal, τ => AW P b Q τ
  | e, τ => Q e τ

def condW (a : AV) (p q : Prop) : Prop := match a with
  | .c (.sc (.bool b)) => (b = true → p) ∧ (b = false → q)
  | _ => False

def St.le1 (σ : St) : List (Nat × AV) → Prop
  | [] => True
  | (t, a) :: r => σ.get t = a ∧ σ.le1 r
def St.le2 (σ : St) : List (Nat × AO) → Prop
  | [] => True
  | (i, o) :: r => obGet i σ.ob = some o ∧ σ.le2 r
/-- σ knows all that τ says -/
def St.le (σ τ : St) : Prop := σ.n = τ.n ∧ σ.le1 τ.tm ∧ σ.le2 τ.ob

theorem le1_get {σ : St} : ∀ {l : List (Nat × AV)}, σ.le1 l → ∀ t, St.get.go t l = .any ∨ St.get.go t l = σ.get t
  | [], _, t => .inl rfl
  | (s, a) :: r, h, t => by
    simp only [St.le1] at h
    simp only [St.get.go]
    cases hb : Nat.beq t s with
    | true => have := Nat.eq_of_beq_eq_true hb; subst this; exact .inr h.1.symm
    | false => exact le1_get h.2 t
theorem le2_get {σ : St} : ∀ {l : List (Nat × AO)}, σ.le2 l → ∀ i o, obGet i l = some o → obGet i σ.ob = some o
  | [], _, i, o, ho => by simp [obGet] at ho
  | (s, a) :: r, h, i, o, ho => by
    simp only [St.le2] at h
    simp only [obGet] at ho
    cases hb : Nat.beq i s with
    | true =>
      have := Nat.eq_of_beq_eq_true hb; subst this
      rw [hb] at ho; simp at ho; subst ho; exact h.1
    | false => rw [hb] at ho; exact le2_get h.2 i o ho

theorem Sim.le {x : Ctx} {S : Nat → Prop} {φ : Nat → Value} {σ τ : St} {a : Act} {w : World} (h : Sim x S φ σ a w) (hl : σ.le τ) : Sim x S φ τ a w where
  tms := fun t => by
    rcases le1_get hl.2.1 t with h1 | h1
    · show AVR x w S φ (St.get.go t τ.tm) _
      rw [h1]; exact .any
    · show AVR x w S φ (St.get.go t τ.tm) _
      rw [h1]; exact h.tms t
  size := h.size.trans hl.1
  obs := fun id o ho => h.obs id o (le2_get hl.2.2 id o ho)
  own := fun id o b ho hb => h.own id o b (le2_get hl.2.2 id o ho) hb
  inj := fun id id' o o' b h1 h2 => h.inj id id' o o' b (le2_get hl.2.2 id o h1) (le2_get hl.2.2 id' o' h2)
  inr := fun id o b h1 h2 => let ⟨g1, g2⟩ := h.inr id o b (le2_get hl.2.2 id o h1) h2; ⟨g1, fun id' o' h3 => g2 id' o' (le2_get hl.2.2 id' o' h3)⟩
  dat := h.dat
  ext := h.ext
  defers := h.defers
  small := hl.1 ▸ h.small
  pins := h.pins

section
variable {P : Program} {Q : Exit → St → Prop} {σ : St}

theorem simQ_mono {x : Ctx} {Q' : Exit → St → Prop} (h : ∀ e τ, Q e τ → Q' e τ) {e : Exit} {a : Act} {w : World} (hq : simQ x Q e a w) : simQ x Q' e a w :=
  let ⟨σ, S, φ, h1, h2⟩ := hq; ⟨σ, S, φ, h _ _ h1, h2⟩

theorem AW_mono {c : AC} {Q' : Exit → St → Prop} (h : AW P c Q σ) (hq : ∀ e τ, Q e τ → Q' e τ) : AW P c Q' σ :=
  fun code hc x S φ a w hx hs => Code.wp_mono (fun _ _ _ => simQ_mono hq) (h code hc x S φ a w hx hs)

theorem AW_le {c : AC} (τ : St) (hl : σ.le τ) (h : AW P c Q τ) : AW P c Q σ :=
  fun code hc x S φ a w hx hs => h code hc x S φ a w hx (hs.le hl)

theorem AW_skip (h : Q .normal σ) : AW P .skip Q σ := fun code hc x S φ a w _ hs => by
  cases code <;> simp [comp] at hc
  case skip => exact wp_skip ⟨σ, S, φ, h, hs⟩
  all_goals (first | exact (compReg_ne hc (by simp) (by simp)).elim | (split at hc <;> simp at hc) | (repeat (obtain ⟨_, _, hc⟩ := hc)))
theorem AW_exit {id : Nat} (h : Q (.exit id) σ) : AW P (.exit id) Q σ := fun code hc x S φ a w _ hs => by
  cases code <;> simp [comp] at hc
  case exit => subst hc; exact wp_exit ⟨σ, S, φ, h, hs⟩
  all_goals (first | exact (compReg_ne hc (by simp) (by simp)).elim | (split at hc <;> simp at hc) | (repeat (obtain ⟨_, _, hc⟩ := hc)))
theorem AW_ret (h : Q .ret σ) : AW P .ret Q σ := fun code hc x S φ a w _ hs => by
  cases code <;> simp [comp] at hc
  case ret => exact wp_ret ⟨σ, S, φ, h, hs⟩
  all_goals (first | exact (compReg_ne hc (by simp) (by simp)).elim | (split at hc <;> simp at hc) | (repeat (obtain ⟨_, _, hc⟩ := hc)))
theorem AW_seq {b c : AC} (h : AW P b (seqQ P c Q) σ) : AW P (.seq b c) Q σ := fun code hc x S φ a w hx hs => by
  cases code <;> simp [comp] at hc
  case seq y z =>
    split at hc
    · rename_i b' c' h1 h2
      simp at hc
      obtain ⟨rfl, rfl⟩ := hc
      refine wp_seq (Code.wp_mono (fun e a' w' hq => ?_) (h y h1 x S φ a w hx hs))
      obtain ⟨τ, S', φ', hq, hs'⟩ := hq
      cases e with
      | normal => exact hq z h2 x S' φ' a' w' hx hs'
      | _ => exact ⟨τ, S', φ', hq, hs'⟩
    · simp at hc
  all_goals (first | exact (compReg_ne hc (by simp) (by simp)).elim | (split at hc <;> simp at hc) | (repeat (obtain ⟨_, _, hc⟩ := hc)))
theorem AW_block {id : Nat} {b : AC} (h : AW P b (blockQ id Q) σ) : AW P (.block id b) Q σ := fun code hc x S φ a w hx hs => by
  cases code <;> simp [comp] at hc
  case block i y =>
    obtain ⟨h1, rfl⟩ := hc
    refine wp_block (Code.wp_mono (fun e a' w' hq => ?_) (h y h1 x S φ a w hx hs))
    obtain ⟨τ, S', φ', hq, hs'⟩ := hq
    cases e with
    | exit j =>
      simp only [blockQ] at hq
      simp only [Exit.inBlock]
      by_cases hj : j = i
      · subst hj; rw [if_pos rfl]; simp at hq; exact ⟨τ, S', φ', hq, hs'⟩
      · rw [if_neg hj]
        have : Nat.beq j i = false := by
          cases hb : Nat.beq j i with
          | false => rfl
          | true => exact absurd (Nat.eq_of_beq_eq_true hb) hj
        rw [this] at hq; exact ⟨τ, S', φ', hq, hs'⟩
    | _ => exact ⟨τ, S', φ', hq, hs'⟩
  all_goals (first | exact (compReg_ne hc (by simp) (by simp)).elim | (split at hc <;> simp at hc) | (repeat (obtain ⟨_, _, hc⟩ := hc)))
def loopQ {ι : Type} (I : ι → St) (μ : ι → Nat) (i : ι) (Q : Exit → St → Prop) : Exit → St → Prop
  | .normal, τ => ∃ j, μ j < μ i ∧ τ.le (I j)
  | e, τ => Q e τ

end
end Go.AL

namespace Go.AL
open Go Go.RowKit

/-! ### operations that leave memory alone -/

/-- the value of an operand under a guard, and what is owed -/
def AV.val (G : Bool) : AV → AV × Prop
  | .opt g v => (v, G = true → g = true)
  | v => (v, True)

def inK (k : IntKind) (n : Int) : Prop := k.min ≤ n ∧ n ≤ k.max

def binAV (op : BinOp) (x y : AV) : Option (AV × Prop) :=
  match x, y with
  | .c (.sc (.int k a)), .c (.sc (.int k' b)) =>
    if k = k' then
      match op with
      | .add => some (.c (.sc (.int k (a + b))), inK k (a + b))
      | .sub => some (.c (.sc (.int k (a - b))), inK k (a - b))
      | .mul => some (.c (.sc (.int k (a * b))), inK k (a * b))
      | .quo => some (.c (.sc (.int k (a.tdiv b))), b ≠ 0 ∧ inK k (a.tdiv b))
      | .rem => some (.c (.sc (.int k (a.tmod b))), b ≠ 0 ∧ inK k (a.tmod b))
      | .lss => some (.B (decide (a < b)), True)
      | .leq => some (.B (decide (a ≤ b)), True)
      | .gtr => some (.B (decide (b < a)), True)
      | .geq => some (.B (decide (b ≤ a)), True)
      | .eql => some (.B (decide (a = b)), True)
      | .neq => some (.B (!decide (a = b)), True)
      | .shr => some (.c (.sc (.int k (a / 2 ^ b.toNat))), 0 ≤ a ∧ 0 ≤ b ∧ b < 8)
      | _ => none
    else none
  | _, _ => none

def scEq (isBool : Bool) (x y : AV) : Option Bool :=
  match isBool, x, y with
  | false, .c (.sc (.int k a)), .c (.sc (.int k' b)) => if k = k' then some (decide (a = b)) else none
  | true, .c (.sc (.bool a)), .c (.sc (.bool b)) => some (a == b)
  | _, _, _ => none

def aggEq : List Bool → List AV → List AV → Option Bool
  | [], [], [] => some true
  | s :: sh, x :: xs, y :: ys => match scEq s x y, aggEq sh xs ys with
    | some a, some b => some (a && b)
    | _, _ => none
  | _, _, _ => none

def pickAV (cb : Bool) (x y : AV) : Option AV :=
  match x, y with
  | .c (.sc (.bool a)), .c (.sc (.bool b)) => some (.B (cond cb a b))
  | .c (.sc (.int k a)), .c (.sc (.int k' b)) => if k = k' then some (.c (.sc (.int k (cond cb a b)))) else none
  | x, y => match cb with
    | true => some x
    | false => some y

def AV.one : AV → Bool
  | .agg _ => false
  | .tup _ => false
  | .opt _ _ => false
  | .any => false
  | _ => true

def setParts : List AV → List (Nat × Nat × AV) → Option (List AV)
  | z, [] => some z
  | z, (off, n, a) :: r =>
    match a with
    | .agg cs => bif Nat.beq cs.length n && Nat.ble (off + n) z.length then setParts (z.take off ++ cs ++ z.drop (off + n)) r else none
    | a => bif a.one && Nat.beq n 1 && Nat.ble (off + 1) z.length then setParts (z.set off a) r else none

def toCDs : List AV → Option (List CD)
  | [] => some []
  | .c d :: r => match toCDs r with
    | some ds => some (d :: ds)
    | none => none
  | _ :: _ => none

def ldCells (n : Option Nat) (cs : List AV) : AV × Prop :=
  match n with
  | none => (cs.headD .any, 0 < cs.length)
  | some m => (.agg (cs.take m), m ≤ cs.length)

def AV.isInt : AV → Option Int
  | .c (.sc (.int _ n)) => some n
  | _ => none

def fadV (off : Nat) : AV → Option AV
  | .dptr cs => some (.dptr (cs.drop off))
  | .ptr id o => some (.ptr id (o + off))
  | .eptr id k i o => some (.eptr id k i (o + off))
  | _ => none

def mlook (es : List (List Int × Sum CD (List CD))) (n : List Int) : Option (Sum CD (List CD)) := match es with
  | [] => none
  | (m, a) :: r => if n = m then some a else mlook r n
def mset (es : List (List Int × Sum CD (List CD))) (n : List Int) (v : Sum CD (List CD)) : List (List Int × Sum CD (List CD)) := match es with
  | [] => [(n, v)]
  | (m, a) :: r => if n = m then (m, v) :: r else (m, a) :: mset r n v
def mdel (es : List (List Int × Sum CD (List CD))) (n : List Int) : List (List Int × Sum CD (List CD)) := match es with
  | [] => []
  | (m, a) :: r => if n = m then r else (m, a) :: mdel r n
def aggInts : List IntKind → List AV → Option (List Int)
  | [], [] => some []
  | k :: ks, .c (.sc (.int k' n)) :: r => match aggInts ks r with
    | some ns => if k' = k then some (n :: ns) else none
    | none => none
  | _, _ => none
/-- a value as a key -/
def keyAV (kk : KK) (a : AV) : Option (List Int) := match kk, a with
  | .one k, .c (.sc (.int k' n)) => if k' = k then some [n] else none
  | .agg ks, .agg cs => aggInts ks cs
  | _, _ => none
/-- a map that is looked at -/
def St.mview (σ : St) : AV → Option (Option KK × List (List Int × Sum CD (List CD)))
  | .own id => match obGet id σ.ob with
    | some (.map kk es) => some (some kk, es)
    | _ => none
  | .c (.mp kk es) => some (some kk, es)
  | .c .mn => some (none, [])
  | _ => none
def kkIs (kk : KK) : Option KK → Prop
  | none => True
  | some k => kk = k
def argAV : Sum CD (List CD) → AV
  | .inl d => .c d
  | .inr ds => .agg (ds.map AV.c)
def lookAV (ok : Bool) (zero : Sum CD (List CD)) (r : Option (Sum CD (List CD))) : AV := match ok with
  | false => argAV (r.getD zero)
  | true => .tup [argAV (r.getD zero), .B r.isSome]

def partObs (G : Bool) (σ : St) : List (Nat × Nat × AX) → Prop
  | [] => True
  | p :: r => ((σ.ev p.2.2).val G).2 ∧ partObs G σ r

/-- an operation that makes no memory and changes none: its value, and what is owed -/
def pop0 (G : Bool) (σ : St) (op : AK) : Option (AV × Prop) :=
  match op with
  | .mv x => some (σ.ev x, True)
  | .pick c a b =>
    match ((σ.ev c).val G).1 with
    | .c (.sc (.bool cb)) =>
      match pickAV cb ((σ.ev a).val cb).1 ((σ.ev b).val (!cb)).1 with
      | some r => some (r, ((σ.ev c).val G).2 ∧ ((σ.ev a).val cb).2 ∧ ((σ.ev b).val (!cb)).2)
      | none => none
    | _ => none
  | .bin op x y => match binAV op ((σ.ev x).val G).1 ((σ.ev y).val G).1 with
    | some (r, ob) => some (r, ((σ.ev x).val G).2 ∧ ((σ.ev y).val G).2 ∧ ob)
    | none => none
  | .eqs neg sh x y => match ((σ.ev x).val G).1, ((σ.ev y).val G).1 with
    | .agg cs, .agg ds => match aggEq sh cs ds with
      | some b => some (.B (bif neg then !b else b), ((σ.ev x).val G).2 ∧ ((σ.ev y).val G).2)
      | none => none
    | _, _ => none
  | .beq neg x y => match ((σ.ev x).val G).1, ((σ.ev y).val G).1 with
    | .c (.sc (.bool a)), .c (.sc (.bool b)) => some (.B (bif neg then !(a == b) else a == b), ((σ.ev x).val G).2 ∧ ((σ.ev y).val G).2)
    | _, _ => none
  | .not x => match ((σ.ev x).val G).1 with
    | .c (.sc (.bool b)) => some (.B (!b), ((σ.ev x).val G).2)
    | _ => none
  | .neg x => match ((σ.ev x).val G).1 with
    | .c (.sc (.int k n)) => some (.c (.sc (.int k (0 - n))), ((σ.ev x).val G).2 ∧ inK k (0 - n))
    | _ => none
  | .ext x i => match ((σ.ev x).val G).1 with
    | .tup vs => match vs[i]? with
      | some v => some (v, ((σ.ev x).val G).2)
      | none => none
    | _ => none
  | .fad off x => match fadV off ((σ.ev x).val G).1 with
    | some r => some (r, ((σ.ev x).val G).2)
    | none => none
  | .iad k x i => match ((σ.ev x).val G).1, ((σ.ev i).val G).1.isInt with
    | .c (.sl k' xs), some n => bif Nat.beq k k' then some (.dptr (xs.getD n.toNat []), ((σ.ev x).val G).2 ∧ ((σ.ev i).val G).2 ∧ 0 ≤ n ∧ n < xs.length) else none
    | .own id, some n => match obGet id σ.ob with
      | some (.arr _ k' xs) => bif Nat.beq k k' then some (.eptr id k n.toNat 0, ((σ.ev x).val G).2 ∧ ((σ.ev i).val G).2 ∧ 0 ≤ n ∧ n < xs.length) else none
      | some (.rows _ _ _ xss _ _) => bif Nat.beq k 1 then some (.eptr id k n.toNat 0, ((σ.ev x).val G).2 ∧ ((σ.ev i).val G).2 ∧ 0 ≤ n ∧ n < xss.length) else none
      | _ => none
    | _, _ => none
  | .iadA len k x i => match ((σ.ev i).val G).1.isInt with
    | some n => match fadV (n.toNat * k) ((σ.ev x).val G).1 with
      | some r => some (r, ((σ.ev x).val G).2 ∧ ((σ.ev i).val G).2 ∧ 0 ≤ n ∧ n < len)
      | none => none
    | none => none
  | .ld n x => match ((σ.ev x).val G).1 with
    | .dptr cs => some ((ldCells n (cs.map AV.c)).1, ((σ.ev x).val G).2 ∧ (ldCells n (cs.map AV.c)).2)
    | .ptr id off => match obGet id σ.ob with
      | some (.box _ cs) => some ((ldCells n (cs.drop off)).1, ((σ.ev x).val G).2 ∧ (ldCells n (cs.drop off)).2)
      | _ => none
    | .eptr id k i off => match obGet id σ.ob with
      | some (.arr _ k' xs) => bif Nat.beq k k' then some ((ldCells n (((xs.getD i []).drop off).map AV.c)).1, ((σ.ev x).val G).2 ∧ i < xs.length ∧ (ldCells n (((xs.getD i []).drop off).map AV.c)).2) else none
      | some (.rows _ _ _ xss (some h) (some d)) => some ((ldCells n [AV.own d]).1, ((σ.ev x).val G).2 ∧ (k = 1 ∧ off = 0 ∧ i = h ∧ i < xss.length) ∧ (ldCells n [AV.own d]).2)
      | _ => none
    | _ => none
  | .idx len k isAgg x i => match ((σ.ev x).val G).1, ((σ.ev i).val G).1.isInt with
    | .agg cs, some n => some ((ldCells (bif isAgg then some k else none) (cs.drop (n.toNat * k))).1, ((σ.ev x).val G).2 ∧ ((σ.ev i).val G).2 ∧ 0 ≤ n ∧ n < len ∧ (ldCells (bif isAgg then some k else none) (cs.drop (n.toNat * k))).2)
    | _, _ => none
  | .fld off n x => match ((σ.ev x).val G).1 with
    | .agg cs => some ((ldCells n (cs.drop off)).1, ((σ.ev x).val G).2 ∧ (ldCells n (cs.drop off)).2)
    | _ => none
  | .nilck x => match ((σ.ev x).val G).1 with
    | .dptr cs => some (.dptr cs, ((σ.ev x).val G).2)
    | .ptr id o => some (.ptr id o, ((σ.ev x).val G).2)
    | .eptr id k i o => some (.eptr id k i o, ((σ.ev x).val G).2)
    | .fn f caps => some (.fn f caps, ((σ.ev x).val G).2)
    | .pf g => some (.pf g, ((σ.ev x).val G).2)
    | _ => none
  | .conv k x => match ((σ.ev x).val G).1 with
    | .c (.sc (.int _ n)) => some (.c (.sc (.int k n)), ((σ.ev x).val G).2 ∧ inK k n)
    | _ => none
  | .build zero parts => match setParts zero (parts.map fun p => (p.1, p.2.1, ((σ.ev p.2.2).val G).1)) with
    | some cs => some (.agg cs, partObs G σ parts)
    | none => none
  | .len x => match ((σ.ev x).val G).1 with
    | .c (.sl _ xs) => some (.I xs.length, ((σ.ev x).val G).2)
    | .c .nil => some (.I 0, ((σ.ev x).val G).2)
    | .own id => match obGet id σ.ob with
      | some (.arr _ _ xs) => some (.I xs.length, ((σ.ev x).val G).2)
      | some (.rows _ _ _ xss _ _) => some (.I xss.length, ((σ.ev x).val G).2)
      | _ => none
    | _ => none
  | .mlen x => match σ.mview ((σ.ev x).val G).1 with
    | some (_, es) => some (.I es.length, ((σ.ev x).val G).2 ∧ es.length ≤ maxLen)
    | none => none
  | .minmax isMax x y => match ((σ.ev x).val G).1, ((σ.ev y).val G).1 with
    | .c (.sc (.int k a)), .c (.sc (.int k' b)) => if k = k' then some (.c (.sc (.int k (bif isMax then max a b else min a b))), ((σ.ev x).val G).2 ∧ ((σ.ev y).val G).2) else none
    | _, _ => none
  | .mkfn f caps => some (.fn f (caps.map fun x => σ.ev x), True)
  | .slc k x lo hi => match ((σ.ev x).val G).1 with
    | .c (.sl k' xs) =>
      match (match lo with | none => some 0 | some y => ((σ.ev y).val G).1.isInt), (match hi with | none => some (xs.length : Int) | some y => ((σ.ev y).val G).1.isInt) with
      | some l, some h => bif Nat.beq k k' then some (.c (.sl k ((xs.take h.toNat).drop l.toNat)), ((σ.ev x).val G).2 ∧ (match lo with | none => True | some y => ((σ.ev y).val G).2) ∧ (match hi with | none => True | some y => ((σ.ev y).val G).2) ∧ 0 ≤ l ∧ l ≤ h ∧ h ≤ xs.length) else none
      | _, _ => none
    | _ => none
  | .look kk zero ok m k => match σ.mview ((σ.ev m).val G).1, keyAV kk ((σ.ev k).val G).1 with
    | some (kq, es), some n => some (lookAV ok zero (mlook es n), ((σ.ev m).val G).2 ∧ ((σ.ev k).val G).2 ∧ kkIs kk kq)
    | _, _ => none
  | _ => none

/-- its value hangs on its operands alone, in whatever world -/
def AK.isN : AK → Bool
  | .mv _ | .pick .. | .bin .. | .eqs .. | .beq .. | .not _ | .neg _ | .ext .. | .fad .. | .iad .. | .iadA .. | .idx .. | .fld .. | .nilck _ | .conv .. | .build .. | .len _ | .minmax .. | .mkfn .. | .slc .. => true
  | _ => false
/-- what is passed over has no value -/
def orAny (G : Bool) : Option (AV × Prop) → Option (AV × Prop)
  | some r => some r
  | none => bif G then none else some (.any, True)
def pop (G : Bool) (σ : St) (op : AK) : Option (AV × Prop) := orAny G (pop0 G σ op)

/-! ### operands -/

theorem constCD_sound {v : Value} {d : CD} (h : constCD v = some d) (w : World) (S : Nat → Prop) : Rd w S d v := by
  unfold constCD at h
  split at h
  · rename_i k n
    cases hk : kOk k n with
    | false => rw [hk] at h; simp at h
    | true =>
      rw [hk] at h; simp at h; subst h
      unfold kOk at hk
      simp at hk
      exact .sc hk
  · simp at h; subst h; exact .sc trivial
  · simp at h; subst h; exact .nil
  · simp at h; subst h; exact .mn
  · cases h

theorem constCDs_sound : ∀ {l : List Value} {ds : List CD}, constCDs l = some ds → ∀ (w : World) (S : Nat → Prop), l.length = ds.length ∧ ∀ (j : Nat) (d : CD) (v : Value), ds[j]? = some d → l[j]? = some v → Rd w S d v
  | [], ds, h, w, S => by simp [constCDs] at h; subst h; simp
  | v :: r, ds, h, w, S => by
    simp only [constCDs] at h
    split at h
    · rename_i d ds' hd hds
      simp at h; subst h
      obtain ⟨h1, h2⟩ := constCDs_sound hds w S
      refine ⟨by simp [h1], fun j d' v' hj hv => ?_⟩
      cases j with
      | zero => simp at hj hv; subst hj; subst hv; exact constCD_sound hd w S
      | succ j => exact h2 j d' v' (by simpa using hj) (by simpa using hv)
    · cases h

section
variable {x : Ctx} {S : Nat → Prop} {φ : Nat → Value} {σ : St} {a : Act} {w : World}

theorem aggC {ds : List CD} {vs : List Value} (hl : vs.length = ds.length) (h : ∀ (j : Nat) (d : CD) (v : Value), ds[j]? = some d → vs[j]? = some v → Rd w S d v) : AVR x w S φ (.agg (ds.map AV.c)) (.agg vs.toArray) := by
  refine .agg (by simpa using hl) (fun j a v ha hv => ?_) (fun v hv => ?_)
  · simp only [List.getElem?_map, Option.map_eq_some_iff] at ha
    obtain ⟨d, hd, rfl⟩ := ha
    exact .c (h j d v hd hv)
  · obtain ⟨j, hj⟩ := List.getElem?_of_mem hv
    have hjl : j < ds.length := by rw [← hl]; exact (List.getElem?_eq_some_iff.1 hj).1
    exact (h j _ v (List.getElem?_eq_getElem hjl) hj).oneCell

theorem constAV_sound {v : Value} {r : AV} (h : constAV v = some r) : AVR x w S φ r v := by
  unfold constAV at h
  split at h
  · rename_i cs
    simp only [Option.map_eq_some_iff] at h
    obtain ⟨ds, hd, rfl⟩ := h
    obtain ⟨h1, h2⟩ := constCDs_sound hd w S
    have := aggC (x := x) (φ := φ) (ds := ds) (vs := cs.toList) h1 h2
    simpa using this
  · simp only [Option.map_eq_some_iff] at h
    obtain ⟨d, hd, rfl⟩ := h
    exact .c (constCD_sound hd w S)

theorem ev_sound (hs : Sim x S φ σ a w) {o : Operand} {y : AX} (h : compX o = some y) : AVR x w S φ (σ.ev y) (a.eval o) := by
  cases o with
  | tmp t => simp [compX] at h; subst h; exact hs.tms t
  | const v =>
    simp only [compX, Option.some.injEq] at h
    subst h
    show AVR x w S φ ((constAV v).getD .any) v
    cases hr : constAV v with
    | none => exact .any
    | some r => exact constAV_sound hr
  | func f =>
    simp [compX] at h; subst h
    exact .fn (cs := []) (vs := []) rfl (fun j a v ha => by simp at ha)
  | global g => simp [compX] at h

theorem val_sound {r : AV} {v : Value} {G : Bool} (hG : G = true) (h : AVR x w S φ r v) (ho : (r.val G).2) : AVR x w S φ (r.val G).1 v := by
  cases r <;> simp only [AV.val] at ho ⊢ <;> try exact h
  cases h with
  | opt h => exact h (ho hG)

/-- an operand's value -/
theorem arg_sound (hs : Sim x S φ σ a w) {G : Bool} (hG : G = true) {o : Operand} {y : AX} (h : compX o = some y) (ho : ((σ.ev y).val G).2) : AVR x w S φ ((σ.ev y).val G).1 (a.eval o) :=
  val_sound hG (ev_sound hs h) ho

theorem compXs_sound : ∀ {l : List Operand} {ys : List AX}, compXs l = some ys → l.length = ys.length ∧ ∀ (j : Nat) (o : Operand) (y : AX), l[j]? = some o → ys[j]? = some y → compX o = some y
  | [], ys, h => by simp [compXs] at h; subst h; simp
  | o :: r, ys, h => by
    simp only [compXs] at h
    split at h
    · rename_i y ys' hy hys
      simp at h; subst h
      obtain ⟨h1, h2⟩ := compXs_sound hys
      refine ⟨by simp [h1], fun j o' y' hj hv => ?_⟩
      cases j with
      | zero => simp at hj hv; subst hj; subst hv; exact hy
      | succ j => exact h2 j o' y' (by simpa using hj) (by simpa using hv)
    · cases h
end

end Go.AL

namespace Go.AL
open Go Go.RowKit

section
variable {x : Ctx} {S : Nat → Prop} {φ : Nat → Value} {σ : St} {a : Act} {w : World} {P : Program}

theorem rd_int {k : IntKind} {n : Int} {v : Value} (h : AVR x w S φ (.c (.sc (.int k n))) v) : v = .int k n ∧ inK k n := by
  cases h with
  | c h => cases h with
    | sc h => exact ⟨rfl, h⟩
theorem rd_bool {b : Bool} {v : Value} (h : AVR x w S φ (.c (.sc (.bool b))) v) : v = .bool b := by
  cases h with
  | c h => cases h with
    | sc h => rfl
theorem mk_int {k : IntKind} {n : Int} (h : inK k n) : AVR x w S φ (.c (.sc (.int k n))) (.int k n) := .c (.sc h)
theorem mk_bool (b : Bool) : AVR x w S φ (.c (.sc (.bool b))) (.bool b) := .c (.sc trivial)

theorem wrap_inK {k : IntKind} {n : Int} (h : inK k n) : k.wrap n = n := by
  unfold inK at h
  cases k <;> simp [IntKind.min, IntKind.max, IntKind.wrap, IntKind.signed, IntKind.bits] at * <;> omega

/-- one binary operation on integers -/
theorem bin_sound {op : BinOp} {u v r : AV} {ob : Prop} {p q : Value} (h : binAV op u v = some (r, ob)) (hob : ob) (hu : AVR x w S φ u p) (hv : AVR x w S φ v q) (t : TypeId) (X Y : Operand) :
    ∃ z, AVR x w S φ r z ∧ ∀ w', (do eqGuard op t X Y p q; binOp op t p q : Sem Value).run P w' = .ok z w' := by
  unfold binAV at h
  split at h
  · rename_i k m k' n
    obtain ⟨rfl, h1⟩ := rd_int hu
    obtain ⟨rfl, h2⟩ := rd_int hv
    split at h
    · rename_i hk
      subst hk
      have hg : ∀ w', (eqGuard op t X Y (.int k m) (.int k n)).run P w' = .ok () w' := fun w' => by cases op <;> simp [eqGuard]
      split at h <;> simp only [Option.some.injEq, Prod.mk.injEq, reduceCtorEq] at h <;> obtain ⟨rfl, rfl⟩ := h
      · exact ⟨_, mk_int hob, fun w' => by simp [hg, binOp, Op.intArith, wrap_inK hob]⟩
      · exact ⟨_, mk_int hob, fun w' => by simp [hg, binOp, Op.intArith, wrap_inK hob]⟩
      · exact ⟨_, mk_int hob, fun w' => by simp [hg, binOp, Op.intArith, wrap_inK hob]⟩
      · exact ⟨_, mk_int hob.2, fun w' => by simp [hg, binOp, Op.intDiv, wrap_inK hob.2, hob.1]⟩
      · exact ⟨_, mk_int hob.2, fun w' => by simp [hg, binOp, Op.intDiv, hob.1]⟩
      · exact ⟨_, mk_bool _, fun w' => by simp [hg, binOp, Op.intCmp]⟩
      · exact ⟨_, mk_bool _, fun w' => by simp [hg, binOp, Op.intCmp]⟩
      · exact ⟨_, mk_bool _, fun w' => by simp [hg, binOp, Op.intCmp]⟩
      · exact ⟨_, mk_bool _, fun w' => by simp [hg, binOp, Op.intCmp]⟩
      · exact ⟨_, mk_bool _, fun w' => by simp [hg, binOp, Op.intCmp]; rfl⟩
      · exact ⟨_, mk_bool _, fun w' => by simp [hg, binOp, Op.intCmp]; rfl⟩
      · obtain ⟨o1, o2, o3⟩ := hob
        have hp : (0 : Int) < 2 ^ n.toNat := Int.pow_pos (by omega)
        have hle : m / 2 ^ n.toNat ≤ m := Int.ediv_le_self _ o1
        have hge : 0 ≤ m / 2 ^ n.toNat := Int.ediv_nonneg o1 (by omega)
        have hin : inK k (m / 2 ^ n.toNat) := by
          unfold inK at h1 ⊢
          have : k.min ≤ 0 := by cases k <;> decide
          omega
        have hmin : min n.toNat k.bits = n.toNat := by
          have : 8 ≤ k.bits := by cases k <;> decide
          omega
        refine ⟨_, mk_int hin, fun w' => ?_⟩
        have hn : ¬ n < 0 := by omega
        simp [hg, binOp, Op.shift, hn, hmin, Int.fdiv_eq_ediv_of_nonneg _ (Int.le_of_lt hp)]
    · cases h
  · cases h


theorem beq_sound {b1 b2 neg : Bool} {p q : Value} (hu : AVR x w S φ (.c (.sc (.bool b1))) p) (hv : AVR x w S φ (.c (.sc (.bool b2))) q) {t : TypeId} (ht : isBoolT P t = true) (X Y : Operand) :
    ∀ w', (do eqGuard (bif neg then .neq else .eql) t X Y p q; binOp (bif neg then .neq else .eql) t p q : Sem Value).run P w' = .ok (.bool (bif neg then !(b1 == b2) else b1 == b2)) w' := by
  obtain rfl := rd_bool hu
  obtain rfl := rd_bool hv
  unfold isBoolT at ht
  split at ht <;> simp at ht
  rename_i hb
  intro w'
  have := run_equalIn_bool' (P := P) w' 9999 t b1 b2 hb
  cases neg <;> simp [eqGuard, binOp, Op.equal, Op.maxDepth, this]

theorem scEq_sound {s : Bool} {c d : AV} {b : Bool} (h : scEq s c d = some b) {p q : Value} (hu : AVR x w S φ c p) (hv : AVR x w S φ d q) {t : TypeId}
    (ht : (s = false ∧ ∃ k, P.underlying t = some (.int k)) ∨ (s = true ∧ P.underlying t = some .bool)) (n : Nat) (w' : World) : (Op.equalIn (n + 1) t p q).run P w' = .ok b w' := by
  unfold scEq at h
  split at h
  · rename_i k m k' m'
    split at h
    · rename_i hk
      subst hk
      simp at h; subst h
      obtain ⟨rfl, _⟩ := rd_int hu
      obtain ⟨rfl, _⟩ := rd_int hv
      rcases ht with ⟨_, k', ht⟩ | ⟨h, _⟩
      · rw [run_equalIn_int _ _ _ _ _ _ _ ht]; rfl
      · cases h
    · cases h
  · rename_i m m'
    simp at h; subst h
    obtain rfl := rd_bool hu
    obtain rfl := rd_bool hv
    rcases ht with ⟨h, _⟩ | ⟨_, ht⟩
    · cases h
    · exact run_equalIn_bool' _ _ _ _ _ ht
  · cases h

def aggD : TypeDesc → Bool
  | .struct _ | .array _ _ => true
  | _ => false

theorem run_isAgg {t : TypeId} {d : TypeDesc} (hd : P.underlying t = some d) (w' : World) : (isAgg t).run P w' = .ok (aggD d) w' := by
  unfold isAgg
  cases d <;> simp [run_underlying hd, aggD]

theorem run_part_one {t : TypeId} {d : TypeDesc} (hd : P.underlying t = some d) (hp : aggD d = false) {cs : Array Value} {off : Nat} {v : Value} (hv : cs[off]? = some v) (w' : World) :
    (part t cs off).run P w' = .ok v w' := by
  simp [part, run_isAgg hd, hp, hv]

theorem eqFields_sound {n : Nat} : ∀ {fs : List Field} {j : Nat} {sh : List Bool} {cs ds : List AV} {vs us : List Value} {b : Bool}, plainFields P j fs = some sh → aggEq sh (cs.drop j) (ds.drop j) = some b →
    vs.length = cs.length → us.length = ds.length → (∀ (i : Nat) (a : AV) (v : Value), cs[i]? = some a → vs[i]? = some v → AVR x w S φ a v) → (∀ (i : Nat) (a : AV) (v : Value), ds[i]? = some a → us[i]? = some v → AVR x w S φ a v) →
    ∀ w', (Op.eqFields (n + 1) vs.toArray us.toArray fs).run P w' = .ok b w'
  | [], j, sh, cs, ds, vs, us, b, hp, ha, _, _, _, _, w' => by
    simp [plainFields] at hp; subst hp
    unfold aggEq at ha
    split at ha <;> simp_all [Op.eqFields]
  | f :: fs, j, sh, cs, ds, vs, us, b, hp, ha, hl1, hl2, h1, h2, w' => by
    simp only [plainFields] at hp
    cases hc : Nat.beq f.offset j && (f.name != "_") with
    | false => rw [hc] at hp; simp at hp
    | true =>
      rw [hc] at hp
      simp only [cond_true] at hp
      simp only [Bool.and_eq_true] at hc
      obtain ⟨hoff, hname⟩ := hc
      have hoff := Nat.eq_of_beq_eq_true hoff
      have hname : f.name ≠ "_" := by simpa using hname
      obtain ⟨s, sh', hsh, hsub, hty⟩ : ∃ s sh', sh = s :: sh' ∧ plainFields P (j + 1) fs = some sh' ∧ ((s = false ∧ ∃ k, P.underlying f.type = some (.int k)) ∨ (s = true ∧ P.underlying f.type = some .bool)) := by
        split at hp
        · rename_i k sh' hk hs'
          simp at hp; exact ⟨false, sh', hp.symm, hs', .inl ⟨rfl, k, hk⟩⟩
        · rename_i sh' hk hs'
          simp at hp; exact ⟨true, sh', hp.symm, hs', .inr ⟨rfl, hk⟩⟩
        · cases hp
      subst hsh
      -- both have a cell at j
      cases hcj : cs.drop j with
      | nil => rw [hcj] at ha; simp [aggEq] at ha
      | cons c cr =>
        cases hdj : ds.drop j with
        | nil => rw [hcj, hdj] at ha; simp [aggEq] at ha
        | cons d dr =>
          rw [hcj, hdj] at ha
          simp only [aggEq] at ha
          have hcr : cs.drop (j + 1) = cr := by rw [← List.tail_drop, hcj]; rfl
          have hdr : ds.drop (j + 1) = dr := by rw [← List.tail_drop, hdj]; rfl
          have hc0 : cs[j]? = some c := by have := congrArg (·[0]?) hcj; simpa using this
          have hd0 : ds[j]? = some d := by have := congrArg (·[0]?) hdj; simpa using this
          have hjl1 : j < vs.length := by rw [hl1]; exact (List.getElem?_eq_some_iff.1 hc0).1
          have hjl2 : j < us.length := by rw [hl2]; exact (List.getElem?_eq_some_iff.1 hd0).1
          have hv0 : vs[j]? = some vs[j] := List.getElem?_eq_getElem hjl1
          have hu0 : us[j]? = some us[j] := List.getElem?_eq_getElem hjl2
          split at ha
          · rename_i b1 b2 he1 he2
            simp at ha; subst ha
            have hq := scEq_sound (w := w) (S := S) (φ := φ) (x := x) he1 (h1 j _ _ hc0 hv0) (h2 j _ _ hd0 hu0) hty n
            have ih := eqFields_sound (n := n) (fs := fs) (j := j + 1) hsub (by rw [hcr, hdr]; exact he2) hl1 hl2 h1 h2
            have hpl : ∃ dd, P.underlying f.type = some dd ∧ aggD dd = false := by
              rcases hty with ⟨_, k, hk⟩ | ⟨_, hk⟩
              · exact ⟨_, hk, rfl⟩
              · exact ⟨_, hk, rfl⟩
            obtain ⟨dd, hdd, hda⟩ := hpl
            have hp1 := run_part_one (P := P) hdd hda (cs := vs.toArray) (off := j) (v := vs[j]) (by simp [hjl1])
            have hp2 := run_part_one (P := P) hdd hda (cs := us.toArray) (off := j) (v := us[j]) (by simp [hjl2])
            unfold Op.eqFields
            rw [if_pos hname, hoff]
            simp only [Sem.run_bind, hp1, hp2, hq, Result.andThen_ok, Sem.run_ite, ih]
            cases b1 <;> simp
          · cases ha

theorem eqs_sound {neg : Bool} {sh : List Bool} {cs ds : List AV} {b : Bool} {t : TypeId} (ht : plainStruct P t = some sh) (h : aggEq sh cs ds = some b) {p q : Value} (hu : AVR x w S φ (.agg cs) p) (hv : AVR x w S φ (.agg ds) q) (X Y : Operand) :
    ∀ w', (do eqGuard (bif neg then .neq else .eql) t X Y p q; binOp (bif neg then .neq else .eql) t p q : Sem Value).run P w' = .ok (.bool (bif neg then !b else b)) w' := by
  intro w'
  cases hu with
  | @agg _ vs hl1 h1 _ =>
    cases hv with
    | @agg _ us hl2 h2 _ =>
      unfold plainStruct at ht
      split at ht
      · rename_i fs hfs
        cases hz : P.eqGuardType P.depth t || P.stoodInHeld t with
        | true => rw [hz] at ht; simp at ht
        | false =>
          rw [hz] at ht
          simp only [cond_false] at ht
          simp only [Bool.or_eq_false_iff] at hz
          have hf : P.fieldsOf t = fs := by simp [Program.fieldsOf, hfs]
          have h3 := run_equalIn_struct (P := P) w' 9999 t vs.toArray us.toArray (by rw [hf]; exact hfs) hz.2
          rw [hf, eqFields_sound (n := 9998) (cs := cs) (ds := ds) (j := 0) ht h hl1 hl2 h1 h2 w'] at h3
          have h4 := run_eqGuard_agg (P := P) w' (bif neg then .neq else .eql) t X Y vs.toArray us.toArray hz.1
          cases neg
          · simp only [cond_false] at h4 ⊢
            simp only [Sem.run_bind, h4, Result.andThen_ok, run_eql_struct, h3]
          · simp only [cond_true] at h4 ⊢
            simp only [Sem.run_bind, h4, Result.andThen_ok, run_neq_struct, h3]
      · cases ht
end
end Go.AL

namespace Go.AL
open Go Go.RowKit

section
variable {x : Ctx} {S : Nat → Prop} {φ : Nat → Value} {σ : St} {a : Act} {w : World} {P : Program}

/-- cells at an address -/
def MemAt (x : Ctx) (w : World) (S : Nat → Prop) (φ : Nat → Value) (ad : Addr) (cs : List AV) : Prop :=
  ∃ vs : List Value, vs.length = cs.length ∧ (∀ (j : Nat) (v : Value), vs[j]? = some v → w.cell? (ad.add j) = some v) ∧ (∀ v ∈ vs, v.oneCell' = true) ∧
    ∀ (j : Nat) (a : AV) (v : Value), cs[j]? = some a → vs[j]? = some v → AVR x w S φ a v

theorem shapeOf_none' {t : TypeId} (h : shapeOf P t = some none) : ∃ d i, P.underlying t = some d ∧ aggD d = false ∧ P.info? t = some i ∧ i.size = 1 := by
  unfold shapeOf at h
  split at h
  · cases h
  · cases h
  · rename_i d i h1 h2 hd hi
    cases hb : Nat.beq i.size 1 with
    | false => rw [hb] at h; cases h
    | true =>
      refine ⟨d, i, hd, ?_, hi, Nat.eq_of_beq_eq_true hb⟩
      cases d with
      | struct fs => exact (h1 fs rfl).elim
      | array n e => exact (h2 n e rfl).elim
      | _ => rfl
  · cases h
theorem shapeOf_none {t : TypeId} (h : shapeOf P t = some none) : ∃ d, P.underlying t = some d ∧ aggD d = false := by
  obtain ⟨d, _, h1, h2, _⟩ := shapeOf_none' h
  exact ⟨d, h1, h2⟩
theorem shapeOf_some {t : TypeId} {m : Nat} (h : shapeOf P t = some (some m)) : ∃ d i, P.underlying t = some d ∧ aggD d = true ∧ P.info? t = some i ∧ i.size = m := by
  unfold shapeOf at h
  split at h
  · rename_i fs i hd hi
    simp at h; exact ⟨_, i, hd, rfl, hi, h⟩
  · rename_i n e i hd hi
    simp at h; exact ⟨_, i, hd, rfl, hi, h⟩
  · rename_i d i _ _ _ _
    cases hb : Nat.beq i.size 1 <;> rw [hb] at h <;> simp at h
  · cases h

theorem run_sizeOf {t : TypeId} {i : TypeInfo} (hi : P.info? t = some i) (w' : World) : (sizeOf t).run P w' = .ok i.size w' := by
  simp [sizeOf, typeInfo, hi]

theorem ld_sound {ad : Addr} {cs : List AV} {n : Option Nat} {t : TypeId} (ht : shapeOf P t = some n) (hm : MemAt x w S φ ad cs) (hob : (ldCells n cs).2) :
    ∃ v, AVR x w S φ (ldCells n cs).1 v ∧ ∀ w', Ext All w w' → (Instr.loadAt t (.pointer (some ad))).run P w' = .ok v w' := by
  obtain ⟨vs, hl, hc, h1, hr⟩ := hm
  cases n with
  | none =>
    simp only [ldCells] at hob ⊢
    obtain ⟨d, hd, hda⟩ := shapeOf_none ht
    cases cs with
    | nil => simp at hob
    | cons c cr =>
      cases vs with
      | nil => simp at hl
      | cons v vr =>
        refine ⟨v, hr 0 c v rfl rfl, fun w' he => ?_⟩
        have h0 : w'.cell? ad = some v := by
          have := cell_ext (he.mono fun _ _ => trivial) (S := All) trivial (hc 0 v rfl)
          simpa [Addr.add] using this
        simp [Instr.loadAt, Instr.sureAddr, loadVar, run_isAgg hd, hda, h0]
  | some m =>
    simp only [ldCells] at hob ⊢
    obtain ⟨d, i, hd, hda, hi, hsz⟩ := shapeOf_some ht
    have hlt : (vs.take m).length = m := by simp; omega
    refine ⟨.agg (vs.take m).toArray, .agg (by simp; omega) (fun j a v ha hv => ?_) (fun v hv => h1 v (List.mem_of_mem_take hv)), fun w' he => ?_⟩
    · rw [List.getElem?_take] at ha hv
      split at ha
      · rename_i hj; rw [if_pos hj] at hv; exact hr j a v ha hv
      · cases ha
    · have := run_loadCells_list (P := P) w' ad (vs.take m) (fun j v hv => by
        rw [List.getElem?_take] at hv
        split at hv
        · exact cell_ext (he.mono fun _ _ => trivial) (S := All) trivial (hc j v hv)
        · cases hv)
      rw [hlt] at this
      simp [Instr.loadAt, Instr.sureAddr, loadVar, run_isAgg hd, hda, run_sizeOf hi, hsz, this]

theorem memAt_dptr {cs : List CD} {v : Value} (h : AVR x w S φ (.dptr cs) v) : ∃ ad, v = .pointer (some ad) ∧ MemAt x w S φ ad (cs.map AV.c) := by
  cases h with
  | @dptr _ ad vs hS hcell hr =>
    refine ⟨ad, rfl, (List.range cs.length).map vs, by simp, fun j v hv => ?_, fun v hv => ?_, fun j a v ha hv => ?_⟩
    · simp only [List.getElem?_map, Option.map_eq_some_iff] at hv
      obtain ⟨k, hk, rfl⟩ := hv
      obtain ⟨hj, hk⟩ := List.getElem?_eq_some_iff.1 hk
      simp at hk hj; subst hk
      exact hcell j hj
    · simp only [List.mem_map, List.mem_range] at hv
      obtain ⟨j, hj, rfl⟩ := hv
      exact (hr j _ (List.getElem?_eq_getElem hj)).oneCell
    · simp only [List.getElem?_map, Option.map_eq_some_iff] at ha hv
      obtain ⟨d, hd, rfl⟩ := ha
      obtain ⟨k, hk, rfl⟩ := hv
      obtain ⟨hj, hk⟩ := List.getElem?_eq_some_iff.1 hk
      simp at hk hj; subst hk
      exact .c (hr j d hd)

theorem memAt_box {t b off : Nat} {cs : List AV} {v : Value} (h : ObR x w S φ (.box t cs) v) (hv : v = .pointer (some ⟨b, 0, none⟩)) : MemAt x w S φ ⟨b, off, none⟩ (cs.drop off) := by
  subst hv
  cases h with
  | @box _ _ _ cur hb hs hr h1 =>
    refine ⟨cur.toList.drop off, by simp [hs], fun j v hv => ?_, fun v hv => h1 v (List.mem_of_mem_drop hv), fun j a v ha hv => ?_⟩
    · have hadd : (⟨b, off, none⟩ : Addr).add j = ⟨b, off + j, none⟩ := by unfold Addr.add; split <;> simp_all
      rw [hadd, cell_of_row w b _ cur t (0, 0) hb]
      simpa using hv
    · rw [List.getElem?_drop] at ha hv
      exact hr _ a v ha (by simpa using hv)

theorem memAt_arr {e k g o n cap i off : Nat} {xs : List (List CD)} {v : Value} (h : ArrR w S e k xs v) (hv : v = .slice (some ⟨g, o, none⟩) n cap) (hi : i < xs.length) :
    MemAt x w S φ ⟨g, o + i * k + off, none⟩ (((xs.getD i []).drop off).map AV.c) := by
  subst hv
  cases h with
  | @row _ _ _ _ cur hg hn hc hs hk h1 hrd =>
    have hx : xs[i]? = some xs[i] := List.getElem?_eq_getElem hi
    have hgd : xs.getD i [] = xs[i] := by simp [List.getD, hi]
    rw [hgd]
    have hxl : xs[i].length = k := hk _ (List.getElem_mem hi)
    have hbnd : o + i * k + k ≤ cur.size := by
      have : i * k + k ≤ xs.length * k := by
        calc i * k + k = (i + 1) * k := by rw [Nat.add_mul, Nat.one_mul]
          _ ≤ xs.length * k := Nat.mul_le_mul_right _ (by omega)
      have h2 : xs.length * k ≤ cap * k := Nat.mul_le_mul_right _ hn
      omega
    refine ⟨((cur.toList.drop (o + i * k)).take k).drop off, ?_, fun j v hv => ?_, fun v hv => h1 v (List.mem_of_mem_drop (List.mem_of_mem_take (List.mem_of_mem_drop hv))), fun j a v ha hv => ?_⟩
    · simp [hxl]; omega
    · have hadd : (⟨g, o + i * k + off, none⟩ : Addr).add j = ⟨g, o + i * k + off + j, none⟩ := by unfold Addr.add; split <;> simp_all
      rw [hadd, cell_of_row w g _ cur e (0, 0) hg]
      rw [List.getElem?_drop, List.getElem?_take] at hv
      split at hv
      · rw [List.getElem?_drop] at hv
        rw [show o + i * k + off + j = o + i * k + (off + j) by omega]
        simpa using hv
      · cases hv
    · simp only [List.getElem?_map, Option.map_eq_some_iff] at ha
      obtain ⟨d, hd, rfl⟩ := ha
      rw [List.getElem?_drop] at hd hv
      obtain ⟨u, hu, hr⟩ := hrd i (off + j) xs[i] d hx hd
      rw [List.getElem?_take] at hv
      split at hv
      · rw [List.getElem?_drop] at hv
        have : u = v := by
          have h3 : cur.toList[o + i * k + (off + j)]? = some u := by rw [show o + i * k + (off + j) = o + (i * k + (off + j)) by omega]; simpa using hu
          rw [h3] at hv; simpa using hv
        subst this
        exact .c hr
      · cases hv

/-- a part of an aggregate's cells -/
theorem part_sound {cs : List AV} {vs : List Value} {off : Nat} {n : Option Nat} {t : TypeId} (ht : shapeOf P t = some n) (hl : vs.length = cs.length)
    (h : ∀ (j : Nat) (a : AV) (v : Value), cs[j]? = some a → vs[j]? = some v → AVR x w S φ a v) (h1 : ∀ v ∈ vs, v.oneCell' = true) (hob : (ldCells n (cs.drop off)).2) :
    ∃ v, AVR x w S φ (ldCells n (cs.drop off)).1 v ∧ ∀ w', (part t vs.toArray off).run P w' = .ok v w' := by
  cases n with
  | none =>
    simp only [ldCells] at hob ⊢
    obtain ⟨d, hd, hda⟩ := shapeOf_none ht
    have hlt : off < vs.length := by simp at hob; omega
    refine ⟨vs[off], ?_, fun w' => run_part_one hd hda (by simp [hlt]) w'⟩
    have : (cs.drop off).headD .any = cs[off]'(by omega) := by
      have : cs.drop off = cs[off]'(by omega) :: cs.drop (off + 1) := List.drop_eq_getElem_cons (by omega)
      rw [this]; rfl
    rw [this]
    exact h off _ _ (List.getElem?_eq_getElem _) (List.getElem?_eq_getElem hlt)
  | some m =>
    simp only [ldCells] at hob ⊢
    obtain ⟨d, i, hd, hda, hi, hsz⟩ := shapeOf_some ht
    simp at hob
    refine ⟨.agg ((vs.drop off).take m).toArray, .agg (by simp; omega) (fun j a v ha hv => ?_) (fun v hv => h1 v (List.mem_of_mem_drop (List.mem_of_mem_take hv))), fun w' => ?_⟩
    · rw [List.getElem?_take] at ha hv
      split at ha
      · rename_i hj
        rw [if_pos hj] at hv
        rw [List.getElem?_drop] at ha hv
        exact h _ a v ha hv
      · cases ha
    · simp [part, run_isAgg hd, hda, run_sizeOf hi, hsz]

end
end Go.AL

namespace Go.AL
open Go Go.RowKit

section
variable {x : Ctx} {S : Nat → Prop} {φ : Nat → Value} {σ : St} {a : Act} {w : World} {P : Program}

def YieldsN (P : Program) (x : Ctx) (S : Nat → Prop) (φ : Nat → Value) (w : World) (r : AV) (s : Sem Value) : Prop :=
  ∃ v, AVR x w S φ r v ∧ ∀ w', s.run P w' = .ok v w'
def Yields (P : Program) (x : Ctx) (S : Nat → Prop) (φ : Nat → Value) (w : World) (r : AV) (s : Sem Value) : Prop :=
  ∃ v, AVR x w S φ r v ∧ ∀ w', Ext All w w' → s.run P w' = .ok v w'

theorem int_of {r : AV} {n : Int} {v : Value} (h : AVR x w S φ r v) (hi : r.isInt = some n) : ∃ k, v = .int k n ∧ inK k n := by
  unfold AV.isInt at hi
  split at hi
  · simp at hi; subst hi
    obtain ⟨rfl, h2⟩ := rd_int h
    exact ⟨_, rfl, h2⟩
  · cases hi

theorem pick_sound {cb : Bool} {u v r : AV} {p q : Value} (h : pickAV cb u v = some r) (hu : cb = true → AVR x w S φ u p) (hv : cb = false → AVR x w S φ v q) : AVR x w S φ r (if cb then p else q) := by
  unfold pickAV at h
  split at h
  · simp at h; subst h
    cases cb
    · have := rd_bool (hv rfl); subst this; exact mk_bool _
    · have := rd_bool (hu rfl); subst this; exact mk_bool _
  · split at h
    · rename_i hk; subst hk
      simp at h; subst h
      cases cb
      · obtain ⟨h1, h2⟩ := rd_int (hv rfl); simp only [h1, cond_false, Bool.false_eq_true, if_false]; exact mk_int h2
      · obtain ⟨h1, h2⟩ := rd_int (hu rfl); simp only [h1, cond_true, if_true]; exact mk_int h2
    · cases h
  · cases cb with
    | true => simp at h; subst h; exact hu rfl
    | false => simp at h; subst h; exact hv rfl

theorem sl_cases {k : Nat} {xs : List (List CD)} {v : Value} (h : AVR x w S φ (.c (.sl k xs)) v) :
    ∃ A cap, v = .slice A xs.length cap ∧ xs.length ≤ cap ∧ cap ≤ maxLen := by
  cases h with
  | c h => cases h with
    | sl0 hc hA => exact ⟨_, _, rfl, Nat.zero_le _, hc⟩
    | sl vs hn hc _ _ _ _ => exact ⟨_, _, rfl, hn, hc⟩

theorem arr_cases {e k : Nat} {xs : List (List CD)} {v : Value} (h : ArrR w S e k xs v) : ∃ A cap, v = .slice A xs.length cap ∧ xs.length ≤ cap ∧ cap ≤ maxLen := by
  cases h with
  | nil => exact ⟨none, 0, rfl, Nat.le_refl _, by unfold maxLen; omega⟩
  | row hg hn hc => exact ⟨_, _, rfl, hn, hc⟩

theorem addr_add (g o n : Nat) : (⟨g, o, none⟩ : Addr).add n = ⟨g, o + n, none⟩ := by unfold Addr.add; split <;> simp_all

/-- the address of an element of a slice that reads as data -/
theorem iad_data {k t e : Nat} {xs : List (List CD)} {v : Value} {kk : IntKind} {n : Int} (ht : P.underlying t = some (.slice e)) (hk : cellsNum P e = some k) (h : AVR x w S φ (.c (.sl k xs)) v) (h0 : 0 ≤ n) (hn : n < xs.length) :
    YieldsN P x S φ w (.dptr (xs.getD n.toNat [])) (Instr.indexAt t v (.int kk n)) := by
  cases h with
  | c h => cases h with
    | sl0 hc hA => simp at hn; omega
    | @sl _ _ ad cap vs hl hc hS hxk hcell hrd =>
      have hnn : n.toNat < xs.length := by omega
      have hx : xs[n.toNat]? = some xs[n.toNat] := List.getElem?_eq_getElem hnn
      have hgd : xs.getD n.toNat [] = xs[n.toNat] := by simp [List.getD, hnn]
      have hxl : xs[n.toNat].length = k := hxk _ (List.getElem_mem hnn)
      refine ⟨.pointer (some (ad.add (n.toNat * k))), ?_, fun w' => ?_⟩
      · rw [hgd]
        refine .dptr (fun j => vs n.toNat j) (by rw [block_add]; exact hS) (fun j hj => ?_) (fun j d hd => hrd _ j _ d hx hd)
        rw [add_add']
        exact hcell _ j hnn (by omega)
      · unfold cellsNum at hk
        simp only [Option.map_eq_some_iff] at hk
        obtain ⟨i, hi, rfl⟩ := hk
        simp [Instr.indexAt, asIntOf, run_underlying ht, h0, hn, run_sizeOf hi]

theorem iad_rows {k t e e' ek k' : Nat} {xss : List (List (List CD))} {hole who : Option Nat} {id : Nat} {kk : IntKind} {n : Int} (ht : P.underlying t = some (.slice e)) (hk : cellsNum P e = some k) (h : ObR x w S φ (.rows e' ek k' xss hole who) (φ id)) (h0 : 0 ≤ n) (hn : n < xss.length) :
    YieldsN P x S φ w (.eptr id k n.toNat 0) (Instr.indexAt t (φ id) (.int kk n)) := by
  generalize hv : φ id = v at h
  cases h with
  | rows0 => simp at hn; omega
  | @rows _ _ _ _ _ _ g o cap cur hg hl hc hs h1 hr hd hw =>
    refine ⟨.pointer (some ⟨g, o + n.toNat * k + 0, none⟩), .eptr hv, fun w' => ?_⟩
    unfold cellsNum at hk
    simp only [Option.map_eq_some_iff] at hk
    obtain ⟨i, hi, rfl⟩ := hk
    simp [Instr.indexAt, asIntOf, run_underlying ht, h0, hn, run_sizeOf hi, addr_add]
theorem memAt_rows {e ek k g o n cap h d : Nat} {xss : List (List (List CD))} {v : Value} (hr : ObR x w S φ (.rows e ek k xss (some h) (some d)) v) (hv : v = .slice (some ⟨g, o, none⟩) n cap) (hi : h < xss.length) :
    MemAt x w S φ ⟨g, o + h * 1 + 0, none⟩ [.own d] := by
  subst hv
  cases hr with
  | @rows _ _ _ _ _ _ g o cap cur hg hn hc hs h1 hr hd hw =>
    have hc1 := hw h d rfl rfl hi
    have hone : (φ d).oneCell' = true := h1 _ (by simpa using Array.mem_of_getElem? hc1)
    refine ⟨[φ d], rfl, fun j v hj => ?_, fun v hv => by simp at hv; subst hv; exact hone, fun j a v ha hv => ?_⟩
    · cases j with
      | zero =>
        simp at hj; subst hj
        simp only [Nat.mul_one, Nat.add_zero]
        rw [show (⟨g, o + h, none⟩ : Addr).add 0 = ⟨g, o + h, none⟩ by simp [Addr.add], cell_of_row w g _ cur e (0, 0) hg]
        exact hc1
      | succ j => simp at hj
    · cases j with
      | zero => simp at ha hv; subst ha; subst hv; exact .own hone
      | succ j => simp at ha
/-- a row of rows, its length -/
theorem rows_cases {x : Ctx} {w : World} {S : Nat → Prop} {φ : Nat → Value} {e ek k : Nat} {xss : List (List (List CD))} {hole who : Option Nat} {v : Value} (h : ObR x w S φ (.rows e ek k xss hole who) v) : ∃ A cap, v = .slice A xss.length cap ∧ xss.length ≤ cap ∧ cap ≤ maxLen := by
  cases h with
  | rows0 => exact ⟨none, 0, rfl, by simp, by unfold maxLen; omega⟩
  | rows hg hl hc hs h1 hr hd hw => exact ⟨_, _, rfl, hl, hc⟩
theorem iad_own {k t e e' : Nat} {xs : List (List CD)} {id : Nat} {kk : IntKind} {n : Int} (ht : P.underlying t = some (.slice e)) (hk : cellsNum P e = some k) (h : ArrR w S e' k xs (φ id)) (h0 : 0 ≤ n) (hn : n < xs.length) :
    YieldsN P x S φ w (.eptr id k n.toNat 0) (Instr.indexAt t (φ id) (.int kk n)) := by
  generalize hv : φ id = v at h
  cases h with
  | nil => simp at hn; omega
  | @row _ g o cap cur hg hl hc hs hxk h1 hrd =>
    refine ⟨.pointer (some ⟨g, o + n.toNat * k + 0, none⟩), .eptr hv, fun w' => ?_⟩
    unfold cellsNum at hk
    simp only [Option.map_eq_some_iff] at hk
    obtain ⟨i, hi, rfl⟩ := hk
    simp [Instr.indexAt, asIntOf, run_underlying ht, h0, hn, run_sizeOf hi, addr_add]

theorem run_fieldAt {s f m : Nat} {fs : Array Field} {g : Field} (hs : P.underlying s = some (.struct fs)) (hf : fs[f]? = some g) (hm : cellsNum P g.type = some (m + 1)) (ad : Addr) (w' : World) :
    (Instr.fieldAt s (.pointer (some ad)) f).run P w' = .ok (.pointer (some (ad.add g.offset))) w' := by
  unfold cellsNum at hm
  simp only [Option.map_eq_some_iff] at hm
  obtain ⟨i, hi, hm⟩ := hm
  have : i.size ≠ 0 := by omega
  simp [Instr.fieldAt, run_underlying hs, hf, Instr.sureAddr, fieldPlace, run_sizeOf hi, this]

theorem run_indexArr {t e len k : Nat} (ht : P.underlying t = some (.array len e)) (hk : cellsNum P e = some k) {kk : IntKind} {n : Int} (h0 : 0 ≤ n) (hn : n < len) (ad : Addr) (w' : World) :
    (Instr.indexAt t (.pointer (some ad)) (.int kk n)).run P w' = .ok (.pointer (some (ad.add (n.toNat * k)))) w' := by
  unfold cellsNum at hk
  simp only [Option.map_eq_some_iff] at hk
  obtain ⟨i, hi, rfl⟩ := hk
  simp [Instr.indexAt, asIntOf, run_underlying ht, Instr.sureAddr, h0, hn, run_sizeOf hi]

theorem drop_dptr {cs : List CD} {off : Nat} {ad : Addr} (h : AVR x w S φ (.dptr cs) (.pointer (some ad))) : AVR x w S φ (.dptr (cs.drop off)) (.pointer (some (ad.add off))) := by
  cases h with
  | @dptr _ _ vs hS hcell hr =>
    refine .dptr (fun j => vs (off + j)) (by rw [block_add]; exact hS) (fun j hj => ?_) (fun j d hd => ?_)
    · rw [add_add']; simp at hj; exact hcell _ (by omega)
    · rw [List.getElem?_drop] at hd; exact hr _ _ hd

theorem dptr_form {cs : List CD} {v : Value} (h : AVR x w S φ (.dptr cs) v) : ∃ ad, v = .pointer (some ad) := by
  cases h with
  | dptr => exact ⟨_, rfl⟩

theorem fad_sound {s f m : Nat} {fs : Array Field} {g : Field} (hs : P.underlying s = some (.struct fs)) (hf : fs[f]? = some g) (hm : cellsNum P g.type = some (m + 1)) {u r : AV} {v : Value}
    (hu : AVR x w S φ u v) (hr : fadV g.offset u = some r) : YieldsN P x S φ w r (Instr.fieldAt s v f) := by
  unfold fadV at hr
  cases u with
  | dptr cs =>
    simp at hr; subst hr
    obtain ⟨ad, rfl⟩ := dptr_form hu
    exact ⟨_, drop_dptr hu, fun w' => run_fieldAt hs hf hm ad w'⟩
  | ptr id o =>
    simp at hr; subst hr
    cases hu with
    | ptr h => exact ⟨_, .ptr h, fun w' => by rw [run_fieldAt hs hf hm, addr_add]⟩
  | eptr id k i o =>
    simp at hr; subst hr
    cases hu with
    | eptr h => exact ⟨_, .eptr h, fun w' => by rw [run_fieldAt hs hf hm, addr_add, Nat.add_assoc]⟩
  | _ => cases hr

theorem iadA_sound {t e len k : Nat} (ht : P.underlying t = some (.array len e)) (hk : cellsNum P e = some k) {kk : IntKind} {n : Int} (h0 : 0 ≤ n) (hn : n < len) {u r : AV} {v : Value}
    (hu : AVR x w S φ u v) (hr : fadV (n.toNat * k) u = some r) : YieldsN P x S φ w r (Instr.indexAt t v (.int kk n)) := by
  unfold fadV at hr
  cases u with
  | dptr cs =>
    simp at hr; subst hr
    obtain ⟨ad, rfl⟩ := dptr_form hu
    exact ⟨_, drop_dptr hu, fun w' => run_indexArr ht hk h0 hn ad w'⟩
  | ptr id o =>
    simp at hr; subst hr
    cases hu with
    | ptr h => exact ⟨_, .ptr h, fun w' => by rw [run_indexArr ht hk h0 hn, addr_add]⟩
  | eptr id k i o =>
    simp at hr; subst hr
    cases hu with
    | eptr h => exact ⟨_, .eptr h, fun w' => by rw [run_indexArr ht hk h0 hn, addr_add, Nat.add_assoc]⟩
  | _ => cases hr

theorem run_len_slice {t e : Nat} (ht : P.underlying t = some (.slice e)) (ty : TypeId) (A : Option Addr) (n cap : Nat) (w' : World) :
    (Builtin.len_ #[t] ty #[.slice A n cap]).run P w' = .ok (.int .i64 n) w' := by
  simp [Builtin.len_, run_underlying ht, goInt]

theorem maxLen_i64 {n : Nat} (h : n ≤ maxLen) : inK .i64 n := by
  unfold maxLen at h
  unfold inK
  simp [IntKind.min, IntKind.max, IntKind.signed, IntKind.bits]
  omega

theorem one_oneCell {u : AV} {v : Value} (h : AVR x w S φ u v) (ho : u.one = true) : v.oneCell' = true := by
  cases h <;> simp [AV.one] at ho <;> first | rfl | assumption | skip
  case c h => exact h.oneCell

theorem cells_one {v : Value} (h : v.oneCell' = true) : v.cells = #[v] := by
  cases v <;> first | rfl | (simp [Value.oneCell'] at h)

theorem foldl_set : ∀ (vs : List Value) (k off : Nat) (zs : List Value), off + k + vs.length ≤ zs.length →
    (vs.zipIdx k).foldl (fun (cs : Array Value) (p : Value × Nat) => cs.setIfInBounds (off + p.2) p.1) zs.toArray = (zs.take (off + k) ++ vs ++ zs.drop (off + k + vs.length)).toArray
  | [], k, off, zs, _ => by simp
  | v :: vs, k, off, zs, h => by
    simp only [List.length_cons] at h
    simp only [List.zipIdx_cons, List.foldl_cons, List.setIfInBounds_toArray]
    rw [foldl_set vs (k + 1) off (zs.set (off + k) v) (by simp; omega)]
    congr 1
    simp only [List.length_cons]
    rw [show off + (k + 1) = off + k + 1 by omega, show off + k + 1 + vs.length = off + k + (vs.length + 1) by omega]
    have h1 : (zs.set (off + k) v).take (off + k + 1) = zs.take (off + k) ++ [v] := by
      rw [List.take_succ_eq_append_getElem (by simp; omega)]
      simp [List.take_set_of_le]
    have h2 : (zs.set (off + k) v).drop (off + k + (vs.length + 1)) = zs.drop (off + k + (vs.length + 1)) := by
      rw [List.drop_set_of_lt (by omega)]
    rw [h1, h2]
    simp

theorem setParts_sound : ∀ {parts : List (Nat × Nat × AV)} {zero cs : List AV} (zs : List Value) (ps : List (Nat × Value)) (place : Nat → Option (Nat × Nat)), setParts zero parts = some cs →
    zs.length = zero.length → (∀ (j : Nat) (a : AV) (v : Value), zero[j]? = some a → zs[j]? = some v → AVR x w S φ a v) → (∀ v ∈ zs, v.oneCell' = true) →
    ps.length = parts.length → (∀ (j : Nat) (p : Nat × Nat × AV) (q : Nat × Value), parts[j]? = some p → ps[j]? = some q → place q.1 = some (p.1, p.2.1) ∧ AVR x w S φ p.2.2 q.2) →
    ∃ vs : List Value, Instr.fill place zs.toArray ps = some vs.toArray ∧ vs.length = cs.length ∧ (∀ (j : Nat) (a : AV) (v : Value), cs[j]? = some a → vs[j]? = some v → AVR x w S φ a v) ∧ ∀ v ∈ vs, v.oneCell' = true := by
  intro parts
  induction parts with
  | nil =>
    intro zero cs zs ps place h hl hr h1 hpl hp
    cases ps with
    | nil => simp [setParts] at h; subst h; exact ⟨zs, rfl, hl, hr, h1⟩
    | cons => simp at hpl
  | cons p parts ih =>
    intro zero cs zs ps place h hl hr h1 hpl hp
    obtain ⟨off, n, a⟩ := p
    cases ps with
    | nil => simp at hpl
    | cons q ps =>
      obtain ⟨j, v⟩ := q
      obtain ⟨hpj, hav⟩ := hp 0 _ _ rfl rfl
      simp only at hpj hav
      have hps : ps.length = parts.length := by simpa using hpl
      have hp' : ∀ (j : Nat) (p : Nat × Nat × AV) (q : Nat × Value), parts[j]? = some p → ps[j]? = some q → place q.1 = some (p.1, p.2.1) ∧ AVR x w S φ p.2.2 q.2 := fun j p q h1 h2 => hp (j + 1) p q (by simpa using h1) (by simpa using h2)
      -- the part's cells, whatever their shape
      have key : ∀ (us : List Value) (bs : List AV), v.cells = us.toArray → us.length = bs.length → bs.length = n → off + n ≤ zero.length → (∀ (j : Nat) (a : AV) (v : Value), bs[j]? = some a → us[j]? = some v → AVR x w S φ a v) → (∀ v ∈ us, v.oneCell' = true) →
          setParts (zero.take off ++ bs ++ zero.drop (off + n)) parts = some cs →
          ∃ vs : List Value, Instr.fill place zs.toArray ((j, v) :: ps) = some vs.toArray ∧ vs.length = cs.length ∧ (∀ (j : Nat) (a : AV) (v : Value), cs[j]? = some a → vs[j]? = some v → AVR x w S φ a v) ∧ ∀ v ∈ vs, v.oneCell' = true := by
        intro us bs hc hub hbn hle hbr hb1 hset
        obtain ⟨vs, h2, h3, h4, h5⟩ := ih (zs.take off ++ us ++ zs.drop (off + n)) ps place hset (by simp; omega) (fun i a u ha hu => by
          rcases Nat.lt_or_ge i off with hi | hi
          · rw [List.append_assoc, List.getElem?_append_left (by simp; omega), List.getElem?_take, if_pos hi] at ha hu
            exact hr i a u ha hu
          · rcases Nat.lt_or_ge i (off + n) with hi2 | hi2
            · rw [List.append_assoc, List.getElem?_append_right (by simp; omega), List.getElem?_append_left (by simp; omega)] at ha hu
              have e1 : (zero.take off).length = off := by simp; omega
              have e2 : (zs.take off).length = off := by simp; omega
              rw [e1] at ha; rw [e2] at hu
              exact hbr _ a u ha hu
            · have e1 : (zero.take off ++ bs).length = off + n := by simp; omega
              have e2 : (zs.take off ++ us).length = off + n := by simp; omega
              rw [List.getElem?_append_right (by omega), e1, List.getElem?_drop] at ha
              rw [List.getElem?_append_right (by omega), e2, List.getElem?_drop] at hu
              exact hr _ a u ha hu) (fun u hu => by
          simp only [List.mem_append] at hu
          rcases hu with (hu | hu) | hu
          · exact h1 u (List.mem_of_mem_take hu)
          · exact hb1 u hu
          · exact h1 u (List.mem_of_mem_drop hu)) hps hp'
        refine ⟨vs, ?_, h3, h4, h5⟩
        unfold Instr.fill
        simp only [hpj, hc]
        have hsz : us.toArray.size = n := by simp; omega
        rw [if_neg (by simp only [hsz, ne_eq, not_true, decide_false, Bool.false_or, decide_eq_true_eq, List.size_toArray]; simp; omega)]
        have hfold := foldl_set us 0 off zs (by omega)
        rw [← h2]
        congr 1
        rw [← Array.foldl_toList, Array.toList_zipIdx]

        have e : us.length = n := by omega
        rw [Nat.add_zero, e] at hfold
        exact hfold
      have one : ∀ a0 : AV, AVR x w S φ a0 v → (a0.one && Nat.beq n 1 && Nat.ble (off + 1) zero.length) = true → setParts (zero.set off a0) parts = some cs →
          ∃ vs : List Value, Instr.fill place zs.toArray ((j, v) :: ps) = some vs.toArray ∧ vs.length = cs.length ∧ (∀ (j : Nat) (a : AV) (v : Value), cs[j]? = some a → vs[j]? = some v → AVR x w S φ a v) ∧ ∀ v ∈ vs, v.oneCell' = true := by
        intro a0 ha0 hb hset
        simp only [Bool.and_eq_true] at hb
        obtain ⟨⟨ho, hn⟩, hle⟩ := hb
        have hn := Nat.eq_of_beq_eq_true hn
        have hle := Nat.le_of_ble_eq_true hle
        subst hn
        have hv1 := one_oneCell ha0 ho
        refine key [v] [a0] (cells_one hv1) rfl rfl hle (fun j a u ha hu => ?_) (fun u hu => by simp at hu; subst hu; exact hv1) ?_
        · cases j with
          | zero => simp at ha hu; subst ha; subst hu; exact ha0
          | succ j => simp at ha
        · rw [← hset, List.set_eq_take_append_cons_drop, if_pos (by omega)]
          simp
      unfold setParts at h
      cases a with
      | agg bs =>
        simp only at h
        cases hc : Nat.beq bs.length n && Nat.ble (off + n) zero.length with
        | false => rw [hc] at h; simp at h
        | true =>
          rw [hc] at h
          simp only [Bool.and_eq_true] at hc
          cases hav with
          | @agg _ us hul hur hu1 =>
            exact key us bs rfl hul (Nat.eq_of_beq_eq_true hc.1) (Nat.le_of_ble_eq_true hc.2) hur hu1 h
      | _ =>
        simp only at h
        refine one _ hav ?_ ?_
        · refine Bool.of_not_eq_false fun hc => ?_
          rw [hc] at h; cases h
        · revert h
          cases hc : (AV.one _ && Nat.beq n 1 && Nat.ble (off + 1) zero.length) with
          | false => intro h; cases h
          | true => exact id

end
end Go.AL

namespace Go.AL
open Go Go.RowKit

section
variable {x : Ctx} {S : Nat → Prop} {φ : Nat → Value} {σ : St} {a : Act} {w : World} {P : Program}

/-- the operation gives a value and leaves the world: in each world that has grown out of w -/
def OpYields (P : Program) (x : Ctx) (S : Nat → Prop) (φ : Nat → Value) (w : World) (a : Act) (o : Oper) (r : AV) (k : AK) : Prop :=
  ∃ v, AVR x w S φ r v ∧ ∀ w', (k.isN = true ∨ Ext All w w') → (execOp a.eval o).run P w' = .ok (.value v) w'

theorem OpYields.ofN {o : Oper} {r : AV} {k : AK} {s : Sem Value} (h : YieldsN P x S φ w r s) (he : ∀ w', (execOp a.eval o).run P w' = (s.run P w').andThen fun v w'' => .ok (.value v) w'') : OpYields P x S φ w a o r k := by
  obtain ⟨v, hv, hr⟩ := h
  exact ⟨v, hv, fun w' hw => by rw [he, hr w']; rfl⟩
theorem OpYields.of {o : Oper} {r : AV} {k : AK} {s : Sem Value} (hk : k.isN = false) (h : Yields P x S φ w r s) (he : ∀ w', (execOp a.eval o).run P w' = (s.run P w').andThen fun v w'' => .ok (.value v) w'') : OpYields P x S φ w a o r k := by
  obtain ⟨v, hv, hr⟩ := h
  exact ⟨v, hv, fun w' hw => by rw [he, hr w' (hw.resolve_left (by simp [hk]))]; rfl⟩

theorem Yields.const {r : AV} {v : Value} (h : AVR x w S φ r v) : Yields P x S φ w r (pure v) := ⟨v, h, fun _ _ => rfl⟩

theorem optX_some {o : Option Operand} {y : Option AX} (h : optX o = some y) : (o = none ∧ y = none) ∨ ∃ p z, o = some p ∧ y = some z ∧ compX p = some z := by
  unfold optX at h
  split at h
  · simp at h; exact .inl ⟨rfl, h.symm⟩
  · simp only [Option.map_eq_some_iff] at h
    obtain ⟨z, hz, rfl⟩ := h
    exact .inr ⟨_, z, rfl, rfl, hz⟩

theorem slice_data {k e t : Nat} {xs : List (List CD)} {v : Value} (ht : P.underlying t = some (.slice e)) (hk : cellsNum P e = some k) (h : AVR x w S φ (.c (.sl k xs)) v) {l u : Int} (h0 : 0 ≤ l) (hlu : l ≤ u) (hu : u ≤ xs.length)
    {lo hi : Option Value} (hlo : lo = none ∧ l = 0 ∨ ∃ kk, lo = some (.int kk l)) (hhi : hi = none ∧ u = xs.length ∨ ∃ kk, hi = some (.int kk u)) :
    YieldsN P x S φ w (.c (.sl k ((xs.take u.toNat).drop l.toNat))) (Instr.sliceAt t v lo hi none) := by
  unfold cellsNum at hk
  simp only [Option.map_eq_some_iff] at hk
  obtain ⟨inf, hinf, hsz⟩ := hk
  have hlen : ((xs.take u.toNat).drop l.toNat).length = u.toNat - l.toNat := by simp; omega
  obtain ⟨A, cap, rfl, hn, hcm⟩ := sl_cases h
  -- the run
  have hrun : ∀ w', (Instr.sliceAt t (.slice A xs.length cap) lo hi none).run P w' = .ok (.slice (if cap = l.toNat then A else A.map (·.add (l.toNat * k))) (u.toNat - l.toNat) (cap - l.toNat)) w' := by
    intro w'
    have hu' : u ≤ (cap : Int) := by omega
    have h0u : 0 ≤ u := by omega
    have hlu' : l ≤ ((u.toNat : Nat) : Int) := by omega
    have hll : l ≤ (xs.length : Int) := by omega
    rcases hlo with ⟨rfl, rfl⟩ | ⟨k1, rfl⟩ <;> rcases hhi with ⟨rfl, rfl⟩ | ⟨k2, rfl⟩ <;>
      simp [Instr.sliceAt, Instr.slice, run_underlying ht, Instr.sliceBounds, Instr.sliceBound, asIntOf, run_sizeOf hinf, hsz, h0, hu', h0u, hll]
    intro hbad; omega
  refine ⟨_, ?_, fun w' => hrun w'⟩
  rcases Nat.eq_zero_or_pos (u.toNat - l.toNat) with hz | hz
  · have hnil : (xs.take u.toNat).drop l.toNat = [] := List.eq_nil_of_length_eq_zero (by omega)
    rw [hnil, hz]
    refine .c (.sl0 (by omega) fun hA => ?_)
    cases h with
    | c h => cases h with
      | sl0 hc hA' =>
        have : A = none := by
          revert hA; split
          · exact id
          · cases A <;> simp
        have := hA' this; omega
      | sl => revert hA; split <;> simp
  · cases h with
    | c h => cases h with
      | sl0 hc hA' => simp at hu; omega
      | @sl _ _ ad _ vs hl hc hS hxk hcell hrd =>
        have hne : ¬ cap = l.toNat := by omega
        rw [if_neg hne, ← hlen]
        refine .c (.sl (fun i j => vs (l.toNat + i) j) (by omega) (by omega) (by rw [block_add]; exact hS) (fun y hy => hxk y (List.mem_of_mem_take (List.mem_of_mem_drop hy))) (fun i j hi hj => ?_) fun i j y d hy hd => ?_)
        · rw [add_add', show l.toNat * k + (i * k + j) = (l.toNat + i) * k + j by rw [Nat.add_mul]; omega]
          exact hcell _ j (by omega) hj
        · rw [List.getElem?_drop, List.getElem?_take] at hy
          split at hy
          · exact hrd _ j y d hy hd
          · cases hy

theorem buildParts_sound (hs : Sim x S φ σ a w) {place : Nat → Option (Nat × Nat)} : ∀ {ps : List (Nat × Operand)} {qs : List (Nat × Nat × AX)}, buildParts P place ps = some qs → partObs true σ qs →
    ps.length = qs.length ∧ ∀ (j : Nat) (p : Nat × Nat × AV) (q : Nat × Value), (qs.map fun p => (p.1, p.2.1, ((σ.ev p.2.2).val true).1))[j]? = some p → (ps.map fun q => (q.1, a.eval q.2))[j]? = some q → place q.1 = some (p.1, p.2.1) ∧ AVR x w S φ p.2.2 q.2
  | [], qs, h, _ => by simp [buildParts] at h; subst h; simp
  | (j, y) :: r, qs, h, hob => by
    simp only [buildParts] at h
    split at h
    · rename_i off n y' qs' hpl hy hqs
      simp at h; subst h
      obtain ⟨h1, h2⟩ := buildParts_sound hs hqs hob.2
      refine ⟨by simp [h1], fun i p q hp hq => ?_⟩
      cases i with
      | zero => simp at hp hq; subst hp; subst hq; exact ⟨hpl, arg_sound hs rfl hy hob.1⟩
      | succ i => exact h2 i p q (by simpa using hp) (by simpa using hq)
    · cases h

theorem run_places (fs : Array Field) (h : (fs.toList.all fun f => (cellsNum P f.type).isSome) = true) (w' : World) :
    (fs.mapM fun f => do pure (f.offset, ← sizeOf f.type) : Sem (Array (Nat × Nat))).run P w' = .ok (fs.map fun f => (f.offset, (cellsNum P f.type).getD 0)) w' := by
  rw [Array.mapM_eq_mapM_toList]
  have key : ∀ l : List Field, (l.all fun f => (cellsNum P f.type).isSome) = true → (l.mapM fun f => do pure (f.offset, ← sizeOf f.type) : Sem (List (Nat × Nat))).run P w' = .ok (l.map fun f => (f.offset, (cellsNum P f.type).getD 0)) w' := by
    intro l
    induction l with
    | nil => intro _; simp
    | cons f l ih =>
      intro h
      simp only [List.all_cons, Bool.and_eq_true] at h
      have hf : (sizeOf f.type).run P w' = .ok ((cellsNum P f.type).getD 0) w' := by
        have := h.1
        unfold cellsNum at this ⊢
        cases hi : P.info? f.type with
        | none => rw [hi] at this; simp at this
        | some i => simp [run_sizeOf hi]
      simp only [List.mapM_cons, Sem.run_bind, hf, Result.andThen_ok, Sem.run_pure, ih h.2, List.map_cons]
  simp only [Sem.run_map, key _ h, Result.andThen_ok]
  congr 1
  apply Array.ext'
  simp

theorem argR_av {d : Sum CD (List CD)} {v : Value} (h : ArgR w S d v) : AVR x w S φ (argAV d) v := by
  cases h with
  | one h => exact .c h
  | agg hl h => exact aggC hl h

theorem zeroArg_sound {t : TypeId} {z : Sum CD (List CD)} (h : zeroArg P t = some z) (w : World) (S : Nat → Prop) : ∃ v, ArgR w S z v ∧ ∀ w', (zeroValue t).run P w' = .ok v w' := by
  unfold zeroArg at h
  have hrun : ∀ v, (P.info? t).bind (·.zero) = some v → ∀ w', (zeroValue t).run P w' = .ok v w' := fun v hv w' => by
    simp only [Option.bind_eq_some_iff] at hv
    obtain ⟨i, hi, hv⟩ := hv
    simp [zeroValue, typeInfo, hi, hv, Result.andThen]
  split at h
  · rename_i cs hz
    simp only [Option.map_eq_some_iff] at h
    obtain ⟨ds, hds, rfl⟩ := h
    obtain ⟨h1, h2⟩ := constCDs_sound hds w S
    refine ⟨.agg cs, ?_, hrun _ hz⟩
    have : cs = cs.toList.toArray := by simp
    rw [this]
    exact .agg h1 fun j d v hd hv => h2 j d v hd hv
  · rename_i v hz hne
    simp only [Option.map_eq_some_iff] at h
    obtain ⟨d, hd, rfl⟩ := h
    exact ⟨v, .one (constCD_sound hd w S), hrun _ hne⟩
  · cases h

theorem run_checkInt {kt : TypeId} {kk kq : IntKind} {n : Int} (hd : P.underlying kt = some (.int kq)) (e : Bool) (m : Nat) (w : World) : (Instr.checkKey e (m + 1) kt (.int kk n)).run P w = .ok () w := by
  unfold Instr.checkKey
  simp [run_underlying hd, Result.andThen]

theorem modify_toList {α : Type} (es : Array α) (i : Nat) (f : α → α) : (es.modify i f).toList = es.toList.modify i f := by
  apply List.ext_getElem?
  intro j
  simp [Array.getElem?_modify, List.getElem?_modify]

/-- finding a key in the list: its place, and its value -/
def mfindV : List (List Int × Sum CD (List CD)) → List MapEntry → List Int → Nat → Option (Nat × Value)
  | (m, _) :: r, e :: l, n, i => if n = m then some (i, e.val) else mfindV r l n (i + 1)
  | _, _, _, _ => none

theorem keyV_one {k : IntKind} {n m : List Int} (hn : keyOk (.one k) n) (hm : keyOk (.one k) m) : n.headD 0 = m.headD 0 ↔ n = m := by
  obtain ⟨h1, _⟩ := hn
  obtain ⟨h2, _⟩ := hm
  match n, m, h1, h2 with
  | [a], [b], _, _ => simp

theorem findNow_one {k : IntKind} {n : List Int} (hn : keyOk (.one k) n) : ∀ {es : List (List Int × Sum CD (List CD))} {l : List MapEntry} (i : Nat), MapR w S (.one k) es l → Instr.findNow (.int k) (keyV (.one k) n) l i = some (mfindV es l n i)
  | [], l, i, h => by cases h; rfl
  | (m, d) :: r, l, i, h => by
    cases h with
    | @cons _ _ e _ l hk hw hv h =>
      have ih := findNow_one hn (i + 1) h
      have he := keyV_one hn hw
      simp only [keyV] at hk ih ⊢
      by_cases hnm : n = m
      · subst hnm
        simp [Instr.findNow, hk, Instr.sameNow, mfindV]
      · have : ¬ n.headD 0 = m.headD 0 := fun e => hnm (he.1 e)
        simp only [Instr.findNow, hk, Instr.sameNow, if_true, beq_eq_false_iff_ne.2 this, mfindV, hnm, if_false]
        exact ih

/-! keys that are structs of integers -/
theorem intFields_plain : ∀ {L : List Field} {j : Nat} {ks : List IntKind}, intFields P j L = some ks → plainFields P j L = some (ks.map fun _ => false)
  | [], j, ks, h => by simp [intFields] at h; subst h; rfl
  | f :: L, j, ks, h => by
    simp only [intFields] at h
    cases hc : Nat.beq f.offset j && (f.name != "_") with
    | false => rw [hc] at h; simp at h
    | true =>
      rw [hc] at h
      simp only [cond_true] at h
      split at h
      · rename_i k ks' hu hks
        simp at h; subst h
        simp only [plainFields, hc, cond_true, hu, intFields_plain hks, List.map_cons]
      · cases h
theorem aggEq_ints : ∀ (ks : List IntKind) (ns ms : List Int), ns.length = ks.length → ms.length = ks.length →
    aggEq (ks.map fun _ => false) ((ks.zip ns).map fun p => AV.c (.sc (.int p.1 p.2))) ((ks.zip ms).map fun p => AV.c (.sc (.int p.1 p.2))) = some (decide (ns = ms))
  | [], [], [], _, _ => rfl
  | k :: ks, n :: ns, m :: ms, h1, h2 => by
    have ih := aggEq_ints ks ns ms (by simpa using h1) (by simpa using h2)
    simp only [List.map_cons, List.zip_cons_cons, aggEq, scEq, if_true, ih, List.cons.injEq]
    congr 1
    by_cases hnm : n = m <;> simp [hnm]
theorem intsR {ks : List IntKind} {ns : List Int} (hn : keyOk (.agg ks) ns) : ∀ (i : Nat) (a : AV) (v : Value), ((ks.zip ns).map fun p => AV.c (.sc (.int p.1 p.2)))[i]? = some a → ((ks.zip ns).map fun p => Value.int p.1 p.2)[i]? = some v → AVR x w S φ a v := fun i a v ha hv => by
  simp only [List.getElem?_map, Option.map_eq_some_iff] at ha hv
  obtain ⟨p, hp, rfl⟩ := ha
  obtain ⟨q, hq, rfl⟩ := hv
  rw [hp] at hq; cases hq
  rw [List.getElem?_zip_eq_some] at hp
  exact mk_int (hn.2 i _ _ hp.1 hp.2)
theorem run_equal_ints (S : Nat → Prop) {kt : TypeId} {fs : Array Field} {ks : List IntKind} (hq : P.underlying kt = some (.struct fs)) (hz : P.stoodInHeld kt = false) (hf : intFields P 0 fs.toList = some ks) {n m : List Int} (hn : keyOk (.agg ks) n) (hm : keyOk (.agg ks) m) (w' : World) :
    (Op.equal kt (keyV (.agg ks) n) (keyV (.agg ks) m)).run P w' = .ok (decide (n = m)) w' := by
  have hfl : P.fieldsOf kt = fs := by simp [Program.fieldsOf, hq]
  have h3 := run_equalIn_struct (P := P) w' 9999 kt ((ks.zip n).map fun p => Value.int p.1 p.2).toArray ((ks.zip m).map fun p => Value.int p.1 p.2).toArray (by rw [hfl]; exact hq) hz
  rw [hfl] at h3
  have h4 := eqFields_sound (P := P) (x := ⟨P, w', S, fun _ => False, fun _ => undef⟩) (w := w') (S := S) (φ := fun _ => undef) (n := 9998) (j := 0) (intFields_plain hf) (by simpa using aggEq_ints ks n m hn.1 hm.1) (by simp) (by simp) (intsR hn) (intsR hm) w'
  rw [h4] at h3
  exact h3
theorem run_findInts {kt : TypeId} {fs : Array Field} {ks : List IntKind} (hq : P.underlying kt = some (.struct fs)) (hz : P.stoodInHeld kt = false) (hf : intFields P 0 fs.toList = some ks) {n : List Int} (hn : keyOk (.agg ks) n) (w' : World) : ∀ {es : List (List Int × Sum CD (List CD))} {l : List MapEntry} (i : Nat), MapR w S (.agg ks) es l →
    (Instr.findAsking kt (keyV (.agg ks) n) l i).run P w' = .ok (mfindV es l n i) w'
  | [], l, i, h => by cases h; simp [Instr.findAsking, mfindV]
  | (m, d) :: r, l, i, h => by
    cases h with
    | @cons _ _ e _ l hk hw hv h =>
      have ih := run_findInts hq hz hf hn w' (i + 1) h
      have he := run_equal_ints (P := P) S hq hz hf hn hw w'
      by_cases hnm : n = m
      · subst hnm
        simp [Instr.findAsking, hk, he, mfindV]
      · simp only [Instr.findAsking, hk, Sem.run_bind, he, Result.andThen_ok, hnm, decide_false, Bool.false_eq_true, if_false, ih, mfindV]
theorem sameBits_ints (n : Nat) : ∀ (l : List (IntKind × Int)), (((l.map fun p => Value.int p.1 p.2).zip (l.map fun p => Value.int p.1 p.2)).all fun p => Instr.sameBits n p.1 p.2) = true
  | [] => rfl
  | p :: l => by
    have ih := sameBits_ints n l
    simp only [List.map_cons, List.zip_cons_cons, List.all_cons, ih, Bool.and_true]
    cases n <;> simp [Instr.sameBits]
/-- what the model does with a key -/
theorem key_run {kt : TypeId} {kk : KK} (hk : keyKind P kt = some kk) {n : List Int} (hn : keyOk kk n) : (∀ (e : Bool) (w' : World), (Instr.checkKey e 10000 kt (keyV kk n)).run P w' = .ok () w') ∧
    (∀ (w' : World), (Instr.keyThatStays (keyV kk n) (keyV kk n)).run P w' = .ok (keyV kk n) w') ∧
    (∀ {es : List (List Int × Sum CD (List CD))} {l : List MapEntry}, MapR w S kk es l → ∀ w', (Instr.findKey kt (keyV kk n) l).run P w' = .ok (mfindV es l n 0) w') := by
  unfold keyKind at hk
  split at hk
  · rename_i k hq
    simp at hk; subst hk
    refine ⟨fun e w' => run_checkInt hq e 9999 w', fun w' => MapKept.run_keyThatStays (d := .int k) (k := .int k (n.headD 0)) rfl, fun hm w' => MapKept.run_findKey hq (findNow_one hn 0 hm)⟩
  · rename_i fs hq
    cases hz : P.stoodInHeld kt with
    | true => rw [hz] at hk; simp at hk
    | false =>
      rw [hz] at hk
      simp only [cond_false, Option.map_eq_some_iff] at hk
      obtain ⟨ks, hf, rfl⟩ := hk
      refine ⟨fun e w' => ?_, fun w' => ?_, fun {es l} hm w' => ?_⟩
      · rw [show (10000 : Nat) = 9998 + 1 + 1 from rfl, Instr.checkKey]
        simp only [Sem.run_bind, run_underlying hq, Result.andThen_ok, keyV]
        rw [← Array.forIn_toList]
        have hl : ks.length = fs.toList.length := by
          have key : ∀ {L : List Field} {j : Nat} {ks : List IntKind}, intFields P j L = some ks → ks.length = L.length := by
            intro L
            induction L with
            | nil => intro j ks h; simp [intFields] at h; subst h; rfl
            | cons f L ih =>
              intro j ks h
              simp only [intFields] at h
              cases hc : Nat.beq f.offset j && (f.name != "_") with
              | false => rw [hc] at h; simp at h
              | true =>
                rw [hc] at h
                simp only [cond_true] at h
                split at h
                · rename_i h1 h2
                  simp at h; subst h
                  simp [ih h2]
                · cases h
          exact key hf
        have hc : ∀ i, i < fs.toList.length → ∃ k m, ((ks.zip n).map fun p => Value.int p.1 p.2).toArray[0 + i]? = some (.int k m) := fun i hi => by
          have hil : i < (ks.zip n).length := by rw [List.length_zip, hn.1]; omega
          exact ⟨(ks.zip n)[i].1, (ks.zip n)[i].2, by simp only [Nat.zero_add, List.getElem?_toArray, List.getElem?_map, List.getElem?_eq_getElem hil, Option.map_some]⟩
        clear hl
        generalize ((ks.zip n).map fun p => Value.int p.1 p.2).toArray = cs at hc
        generalize fs.toList = L at hf hc
        generalize (0 : Nat) = j at hf hc
        clear hn
        induction L generalizing j ks with
        | nil => simp
        | cons f L ih =>
          simp only [intFields] at hf
          cases hcc : Nat.beq f.offset j && (f.name != "_") with
          | false => rw [hcc] at hf; simp at hf
          | true =>
            rw [hcc] at hf
            simp only [cond_true] at hf
            simp only [Bool.and_eq_true] at hcc
            have hoff := Nat.eq_of_beq_eq_true hcc.1
            have hname : f.name ≠ "_" := by simpa using hcc.2
            split at hf
            · rename_i k ks' hu hks
              obtain ⟨k1, n1, hk1⟩ := hc 0 (by simp)
              have hp := run_part_one (P := P) hu rfl (cs := cs) (off := f.offset) (v := .int k1 n1) (by rw [hoff]; simpa using hk1) w'
              have hch := run_checkInt (P := P) hu (kk := k1) (n := n1) e 9998 w'
              have ih := ih _ (j + 1) hks (fun i hi => by
                obtain ⟨a, b, hab⟩ := hc (i + 1) (by simpa using hi)
                exact ⟨a, b, by rw [show j + 1 + i = j + (i + 1) by omega]; exact hab⟩)
              simp only [List.forIn_cons, Sem.run_bind, hname, ne_eq, not_false_eq_true, if_true, hp, Result.andThen_ok, hch, Sem.run_pure]
              exact ih
            · cases hf
      · have := sameBits_ints 9999 (ks.zip n)
        have hsb : Instr.sameBits 10000 (keyV (.agg ks) n) (keyV (.agg ks) n) = true := by
          simp only [keyV]
          rw [show (10000 : Nat) = 9999 + 1 from rfl]
          simp only [Instr.sameBits, beq_self_eq_true, Bool.true_and]
          exact this
        simp [Instr.keyThatStays, hsb]
      · rw [run_findKey_eq w' (by simp [hq])]
        exact run_findInts hq hz hf hn w' 0 hm
  · cases hk

theorem keyAV_sound {kk : KK} {r : AV} {v : Value} {n : List Int} (h : AVR x w S φ r v) (hk : keyAV kk r = some n) : v = keyV kk n ∧ keyOk kk n := by
  unfold keyAV at hk
  split at hk
  · split at hk
    · rename_i k k' m e
      simp at hk; subst hk; subst e
      obtain ⟨rfl, h2⟩ := rd_int h
      exact ⟨rfl, rfl, h2⟩
    · cases hk
  · rename_i ks cs
    have key : ∀ {ks : List IntKind} {cs : List AV} {ns : List Int} {vs : List Value}, aggInts ks cs = some ns → vs.length = cs.length → (∀ (j : Nat) (a : AV) (v : Value), cs[j]? = some a → vs[j]? = some v → AVR x w S φ a v) →
        vs = (ks.zip ns).map (fun p => Value.int p.1 p.2) ∧ ns.length = ks.length ∧ ∀ (i : Nat) (k : IntKind) (n : Int), ks[i]? = some k → ns[i]? = some n → k.min ≤ n ∧ n ≤ k.max := by
      intro ks
      induction ks with
      | nil =>
        intro cs ns vs hc hl h
        cases cs with
        | nil =>
          simp [aggInts] at hc; subst hc
          obtain rfl := List.eq_nil_of_length_eq_zero hl
          exact ⟨rfl, rfl, fun i k n h => by simp at h⟩
        | cons c cs => simp [aggInts] at hc
      | cons k ks ih =>
        intro cs ns vs hc hl h
        match cs, vs, hl with
        | c :: cs, v :: vs, hl =>
          have hcc : ∃ k' m, c = .c (.sc (.int k' m)) := by
            cases c with
            | c cd => cases cd with
              | sc sv => cases sv with
                | int k' m => exact ⟨k', m, rfl⟩
                | _ => simp [aggInts] at hc
              | _ => simp [aggInts] at hc
            | _ => simp [aggInts] at hc
          obtain ⟨k', m, rfl⟩ := hcc
          simp only [aggInts] at hc
          split at hc
          · rename_i ns hns
            split at hc
            · rename_i e
              simp at hc; subst hc; subst e
              obtain ⟨h1, h2, h3⟩ := ih hns (by simpa using hl) (fun j a v ha hv => h (j + 1) a v (by simpa using ha) (by simpa using hv))
              obtain ⟨hv, hin⟩ := rd_int (h 0 _ v rfl rfl)
              refine ⟨by rw [hv, h1]; rfl, by simp [h2], fun i q z hq hz => ?_⟩
              cases i with
              | zero => simp at hq hz; subst hq; subst hz; exact hin
              | succ i => exact h3 i q z (by simpa using hq) (by simpa using hz)
            · cases hc
          · cases hc
    cases h with
    | @agg _ vs hl hr _ =>
      obtain ⟨h1, h2, h3⟩ := key hk hl hr
      exact ⟨by rw [h1]; rfl, h2, h3⟩
  · cases hk

/-- the list and the entries, around a key -/
theorem find_list {kk : KK} {n : List Int} (hn : keyOk kk n) : ∀ {es : List (List Int × Sum CD (List CD))} {l : List MapEntry} (i : Nat), MapR w S kk es l →
    (mfindV es l n i = none ∧ mlook es n = none ∧ mdel es n = es ∧ ∀ (T : Nat → Prop) (w' : World) (d : Sum CD (List CD)) (u : Value) (b : Nat), MapR w' T kk es l → ArgR w' T d u → MapR w' T kk (mset es n d) (l ++ [{ key := keyV kk n, val := u, born := b }])) ∨
    ∃ j e d, mfindV es l n i = some (i + j, e.val) ∧ l[j]? = some e ∧ e.key = keyV kk n ∧ mlook es n = some d ∧ ArgR w S d e.val ∧
      (∀ (T : Nat → Prop) (w' : World) (d : Sum CD (List CD)) (u : Value), MapR w' T kk es l → ArgR w' T d u → MapR w' T kk (mset es n d) (l.modify j fun e => { e with key := keyV kk n, val := u })) ∧
      (∀ (T : Nat → Prop) (w' : World), MapR w' T kk es l → MapR w' T kk (mdel es n) (l.eraseIdx j))
  | [], l, i, h => by
    cases h
    exact .inl ⟨rfl, rfl, rfl, fun T w' d u b _ hu => .cons rfl hn hu .nil⟩
  | (m, d) :: r, l, i, h => by
    cases h with
    | @cons _ _ e _ l hk hw hv h =>
      by_cases hnm : n = m
      · subst hnm
        refine .inr ⟨0, e, d, by simp [mfindV], rfl, hk, by simp [mlook], hv, fun T w' d u hm hu => ?_, fun T w' hm => ?_⟩
        · cases hm with
          | cons _ _ _ hm => simp only [mset, if_true, List.modify_zero_cons]; exact .cons rfl hw hu hm
        · cases hm with
          | cons _ _ _ hm => simpa [mdel] using hm
      · rcases find_list hn (i + 1) h with ⟨h1, h2, h2', h3⟩ | ⟨j, e', d', h1, h2, h3, h4, h5, h6, h7⟩
        · refine .inl ⟨by simp [mfindV, hnm, h1], by simp [mlook, hnm, h2], by simp [mdel, hnm, h2'], fun T w' d u b hm hu => ?_⟩
          cases hm with
          | cons hk' hw' hv' hm => simp only [mset, hnm, if_false, List.cons_append]; exact .cons hk' hw' hv' (h3 T w' d u b hm hu)
        · refine .inr ⟨j + 1, e', d', by simp [mfindV, hnm, h1]; omega, by simpa using h2, h3, by simp [mlook, hnm, h4], h5, fun T w' d u hm hu => ?_, fun T w' hm => ?_⟩
          · cases hm with
            | cons hk' hw' hv' hm => simp only [mset, hnm, if_false, List.modify_succ_cons]; exact .cons hk' hw' hv' (h6 T w' d u hm hu)
          · cases hm with
            | cons hk' hw' hv' hm => simp only [mdel, hnm, if_false, List.eraseIdx_cons_succ]; exact .cons hk' hw' hv' (h7 T w' hm)

theorem mview_sound (hs : Sim x S φ σ a w) {r : AV} {v : Value} {kq : Option KK} {es : List (List Int × Sum CD (List CD))} (h : AVR x w S φ r v) (hm : σ.mview r = some (kq, es)) :
    (kq = none ∧ es = [] ∧ v = .map none) ∨ ∃ kk b ents clock, kq = some kk ∧ v = .map (some b) ∧ w.heap[b]? = some (.map ents clock) ∧ stampsOk ents clock ∧ MapR w S kk es ents.toList := by
  unfold St.mview at hm
  split at hm
  · rename_i id
    split at hm
    · rename_i kk es' ho
      simp at hm; obtain ⟨rfl, rfl⟩ := hm
      have e3 := hs.obs id _ ho
      cases h
      generalize φ id = q at e3
      cases e3 with
      | map hb hst hmr => exact .inr ⟨kk, _, _, _, rfl, rfl, hb, hst, hmr⟩
    · cases hm
  · simp at hm; obtain ⟨rfl, rfl⟩ := hm
    cases h with
    | c h =>
      obtain ⟨b, ents, clock, rfl, hb, _, hst, hmr⟩ := h.map_inv
      exact .inr ⟨_, b, ents, clock, rfl, rfl, hb, hst, hmr⟩
  · simp at hm; obtain ⟨rfl, rfl⟩ := hm
    cases h with
    | c h => cases h; exact .inl ⟨rfl, rfl, rfl⟩
  · cases hm

theorem look_fin {ok : Bool} (d : Sum CD (List CD)) (v : Value) (found : Bool) (hr : ArgR w S d v) : AVR x w S φ (match ok with | false => argAV d | true => .tup [argAV d, .B found]) (if ok then .tuple #[v, .bool found] else v) := by
  cases ok with
  | false => exact argR_av hr
  | true =>
    refine .tup (vs := [v, .bool found]) rfl fun j r u hj hu => ?_
    match j with
    | 0 => simp at hj hu; subst hj; subst hu; exact argR_av hr
    | 1 => simp at hj hu; subst hj; subst hu; exact mk_bool _
    | j + 2 => simp at hj

theorem look_sound {t key e : TypeId} {kk : KK} {ok : Bool} {n : List Int} {b clock : Nat} {ents : Array MapEntry} {es : List (List Int × Sum CD (List CD))} {z : Sum CD (List CD)} (ht : P.underlying t = some (.map key e)) (hq : keyKind P key = some kk) (hn : keyOk kk n) (hz : zeroArg P e = some z)
    (hb : w.heap[b]? = some (.map ents clock)) (hm : MapR w S kk es ents.toList) : Yields P x S φ w (lookAV ok z (mlook es n)) (Instr.lookup t (.map (some b)) (keyV kk n) ok) := by
  obtain ⟨zv, hzr, hzrun⟩ := zeroArg_sound hz w S
  have hlt := (Array.getElem?_eq_some_iff.1 hb).1
  have hb' : ∀ w', Ext All w w' → w'.heap[b]? = some (.map ents clock) := fun w' he => (he.block b trivial hlt).trans hb
  obtain ⟨hc, _, hf⟩ := key_run (P := P) (w := w) (S := S) hq hn
  have hf := hf hm
  rcases find_list hn 0 hm with ⟨h1, h2, _⟩ | ⟨j, e', d, h1, h2, h3, h4, h5, _⟩
  · refine ⟨if ok then .tuple #[zv, .bool false] else zv, ?_, fun w' he => ?_⟩
    · have := look_fin (x := x) (φ := φ) (ok := ok) z zv false hzr
      rw [h2]
      cases ok <;> exact this
    · have hg := MapKept.run_getObj_map (P := P) (hb' w' he)
      simp only [Instr.lookup, Sem.run_bind, run_underlying ht, hg, Result.andThen_ok, Sem.run_pure, hc, hf, h1, hzrun]
  · refine ⟨if ok then .tuple #[e'.val, .bool true] else e'.val, ?_, fun w' he => ?_⟩
    · have := look_fin (x := x) (φ := φ) (ok := ok) d e'.val true h5
      rw [h4]
      cases ok <;> exact this
    · have hg := MapKept.run_getObj_map (P := P) (hb' w' he)
      simp only [Instr.lookup, Sem.run_bind, run_underlying ht, hg, Result.andThen_ok, Sem.run_pure, hc, hf, h1]
theorem look_soundN {t key e : TypeId} {kk : KK} {ok : Bool} {n : List Int} {z : Sum CD (List CD)} (ht : P.underlying t = some (.map key e)) (hq : keyKind P key = some kk) (hn : keyOk kk n) (hz : zeroArg P e = some z) :
    Yields P x S φ w (lookAV ok z none) (Instr.lookup t (.map none) (keyV kk n) ok) := by
  obtain ⟨zv, hzr, hzrun⟩ := zeroArg_sound hz w S
  obtain ⟨hc, _, hf⟩ := key_run (P := P) (w := w) (S := S) hq hn
  have hf := hf (es := []) .nil
  refine ⟨if ok then .tuple #[zv, .bool false] else zv, ?_, fun w' he => ?_⟩
  · have := look_fin (x := x) (φ := φ) (ok := ok) z zv false hzr
    cases ok <;> exact this
  · simp only [Instr.lookup, Sem.run_bind, run_underlying ht, Result.andThen_ok, Sem.run_pure, hc, hf, mfindV, hzrun]

theorem pop0_sound (hs : Sim x S φ σ a w) {o : Oper} {k : AK} (hc : compOp P o = some k) {r : AV} {ob : Prop} (hp : pop0 true σ k = some (r, ob)) (hob : ob) : OpYields P x S φ w a o r k := by
  obtain ⟨dst, op, type, pos, after, guard⟩ := o
  cases op <;> simp only [compOp, reduceCtorEq] at hc
  case move y =>
    simp only [Option.map_eq_some_iff] at hc
    obtain ⟨y', hy, rfl⟩ := hc
    simp only [pop0, Option.some.injEq, Prod.mk.injEq] at hp
    obtain ⟨rfl, -⟩ := hp
    exact ⟨_, ev_sound hs hy, fun w' _ => by simp [execOp]⟩
  case assign y =>
    simp only [Option.map_eq_some_iff] at hc
    obtain ⟨y', hy, rfl⟩ := hc
    simp only [pop0, Option.some.injEq, Prod.mk.injEq] at hp
    obtain ⟨rfl, -⟩ := hp
    exact ⟨_, ev_sound hs hy, fun w' _ => by simp [execOp]⟩
  case pick c y z =>
    split at hc
    · rename_i c' y' z' hc' hy hz
      simp at hc; subst hc
      simp only [pop0] at hp
      split at hp
      · rename_i cb hcb
        split at hp
        · rename_i r' hr
          simp only [Option.some.injEq, Prod.mk.injEq] at hp
          obtain ⟨rfl, rfl⟩ := hp
          have h1 := arg_sound hs rfl hc' hob.1
          rw [hcb] at h1
          have h1 := rd_bool h1
          refine ⟨_, pick_sound hr (fun e => val_sound e (ev_sound hs hy) hob.2.1) (fun e => val_sound (by simp [e]) (ev_sound hs hz) hob.2.2), fun w' _ => ?_⟩
          simp [execOp, h1, asBool]
        · cases hp
      · cases hp
    · cases hc
  case binOp op t y z t2 =>
    split at hc
    · rename_i y' z' hy hz
      split at hc
      · simp at hc; subst hc
        simp only [pop0] at hp
        split at hp
        · rename_i r' ob' hb
          simp only [Option.some.injEq, Prod.mk.injEq] at hp
          obtain ⟨rfl, rfl⟩ := hp
          obtain ⟨q, hq, hrun⟩ := bin_sound (P := P) hb hob.2.2 (arg_sound hs rfl hy hob.1) (arg_sound hs rfl hz hob.2.1) t y z
          exact ⟨q, hq, fun w' _ => by have := hrun w'; simp only [execOp, Sem.run_bind] at this ⊢; rw [this]; rfl⟩
        · cases hp
      · rename_i hni
        split at hc
        · rename_i hbt
          have key : ∀ neg, pop0 true σ (.beq neg y' z') = some (r, ob) → OpYields P x S φ w a ⟨dst, .binOp (bif neg then .neq else .eql) t y z t2, type, pos, after, guard⟩ r (.beq neg y' z') := by
            intro neg hp
            simp only [pop0] at hp
            split at hp
            · rename_i b1 b2 h1 h2
              simp only [Option.some.injEq, Prod.mk.injEq] at hp
              obtain ⟨rfl, rfl⟩ := hp
              have e1 := arg_sound hs rfl hy hob.1
              have e2 := arg_sound hs rfl hz hob.2
              rw [h1] at e1
              rw [h2] at e2
              have := beq_sound (P := P) (neg := neg) e1 e2 hbt y z
              exact ⟨_, mk_bool _, fun w' _ => by have := this w'; simp only [execOp, Sem.run_bind] at this ⊢; rw [this]; rfl⟩
            · cases hp
          split at hc <;> simp at hc <;> subst hc
          · exact key false hp
          · exact key true hp
        · split at hc
          · split at hc <;> first | (simp at hc; subst hc; simp [pop0] at hp; done) | (cases hc; done)
          · have key : ∀ neg sh, plainStruct P t = some sh → pop0 true σ (.eqs neg sh y' z') = some (r, ob) → OpYields P x S φ w a ⟨dst, .binOp (bif neg then .neq else .eql) t y z t2, type, pos, after, guard⟩ r (.eqs neg sh y' z') := by
              intro neg sh hsh hp
              simp only [pop0] at hp
              split at hp
              · rename_i cs ds h1 h2
                split at hp
                · rename_i b hb
                  simp only [Option.some.injEq, Prod.mk.injEq] at hp
                  obtain ⟨rfl, rfl⟩ := hp
                  have e1 := arg_sound hs rfl hy hob.1
                  have e2 := arg_sound hs rfl hz hob.2
                  rw [h1] at e1
                  rw [h2] at e2
                  have := eqs_sound (P := P) (neg := neg) hsh hb e1 e2 y z
                  exact ⟨_, mk_bool _, fun w' _ => by have := this w'; simp only [execOp, Sem.run_bind] at this ⊢; rw [this]; rfl⟩
                · cases hp
              · cases hp
            split at hc
            · rename_i hsh; simp at hc; subst hc; exact key false _ hsh hp
            · rename_i hsh; simp at hc; subst hc; exact key true _ hsh hp
            · cases hc
    · cases hc
  case unOp op t y =>
    cases op <;> simp only [Option.map_eq_some_iff, reduceCtorEq] at hc
    case neg =>
      obtain ⟨y', hy, rfl⟩ := hc
      simp only [pop0] at hp
      split at hp
      · rename_i k n h1
        simp only [Option.some.injEq, Prod.mk.injEq] at hp
        obtain ⟨rfl, rfl⟩ := hp
        have e1 := arg_sound hs rfl hy hob.1
        rw [h1] at e1
        obtain ⟨e1, _⟩ := rd_int e1
        exact ⟨_, mk_int hob.2, fun w' _ => by simp only [execOp, e1, Op.unary, Op.intArith]; rw [wrap_inK hob.2]; rfl⟩
      · cases hp
    case not =>
      obtain ⟨y', hy, rfl⟩ := hc
      simp only [pop0] at hp
      split at hp
      · rename_i b h1
        simp only [Option.some.injEq, Prod.mk.injEq] at hp
        obtain ⟨rfl, rfl⟩ := hp
        have e1 := arg_sound hs rfl hy hob
        rw [h1] at e1
        have e1 := rd_bool e1
        exact ⟨_, mk_bool _, fun w' _ => by simp [execOp, e1, Op.unary]⟩
      · cases hp
  case extract y i =>
    simp only [Option.map_eq_some_iff] at hc
    obtain ⟨y', hy, rfl⟩ := hc
    simp only [pop0] at hp
    split at hp
    · rename_i vs h1
      split at hp
      · rename_i v hv
        simp only [Option.some.injEq, Prod.mk.injEq] at hp
        obtain ⟨rfl, rfl⟩ := hp
        have e1 := arg_sound hs rfl hy hob
        rw [h1] at e1
        generalize hz : a.eval y = p at e1
        cases e1 with
        | @tup _ us hl hr =>
          have hlt : i < us.length := by rw [hl]; exact (List.getElem?_eq_some_iff.1 hv).1
          exact ⟨us[i], hr i v _ hv (List.getElem?_eq_getElem hlt), fun w' _ => by simp [execOp, hz, Instr.extract, hlt]⟩
      · cases hp
    · cases hp
  case fieldAddr s y f =>
    split at hc
    · rename_i fs y' hfs hy
      split at hc
      · rename_i g hg
        split at hc
        · rename_i m hm
          simp at hc; subst hc
          simp only [pop0] at hp
          split at hp
          · rename_i r' hr
            simp only [Option.some.injEq, Prod.mk.injEq] at hp
            obtain ⟨rfl, rfl⟩ := hp
            exact .ofN (fad_sound (P := P) hfs hg hm (arg_sound hs rfl hy hob) hr) (fun w' => by simp [execOp])
          · cases hp
        · cases hc
      · cases hc
    · cases hc
  case indexAddr t y i =>
    split at hc
    · rename_i e y' i' ht hy hi
      simp only [Option.map_eq_some_iff] at hc
      obtain ⟨kk, hkk, rfl⟩ := hc
      simp only [pop0] at hp
      split at hp
      · rename_i k' xs n h1 h2
        cases hb : Nat.beq kk k' with
        | false => rw [hb] at hp; cases hp
        | true =>
          have := Nat.eq_of_beq_eq_true hb; subst this
          rw [hb] at hp
          simp only [cond_true, Option.some.injEq, Prod.mk.injEq] at hp
          obtain ⟨rfl, rfl⟩ := hp
          have e1 := arg_sound hs rfl hy hob.1
          rw [h1] at e1
          obtain ⟨q, e2, _⟩ := int_of (arg_sound hs rfl hi hob.2.1) h2
          exact .ofN (iad_data (P := P) (kk := q) ht hkk e1 hob.2.2.1 hob.2.2.2) (fun w' => by simp [execOp, e2])
      · rename_i id n h1 h2
        split at hp
        · rename_i e' k' xs ho
          cases hb : Nat.beq kk k' with
          | false => rw [hb] at hp; cases hp
          | true =>
            have := Nat.eq_of_beq_eq_true hb; subst this
            rw [hb] at hp
            simp only [cond_true, Option.some.injEq, Prod.mk.injEq] at hp
            obtain ⟨rfl, rfl⟩ := hp
            have e1 := arg_sound hs rfl hy hob.1
            rw [h1] at e1
            obtain ⟨q, e2, _⟩ := int_of (arg_sound hs rfl hi hob.2.1) h2
            have e3 := hs.obs id _ ho
            generalize hv : a.eval y = p at e1
            cases e1
            cases e3 with
            | arr e3 => exact .ofN (iad_own (P := P) (kk := q) ht hkk e3 hob.2.2.1 hob.2.2.2) (fun w' => by simp [execOp, e2, hv])
        · rename_i e' ek k' xss hole who ho
          cases hb : Nat.beq kk 1 with
          | false => rw [hb] at hp; cases hp
          | true =>
            rw [hb] at hp
            simp only [cond_true, Option.some.injEq, Prod.mk.injEq] at hp
            obtain ⟨rfl, rfl⟩ := hp
            have e1 := arg_sound hs rfl hy hob.1
            rw [h1] at e1
            obtain ⟨q, e2, _⟩ := int_of (arg_sound hs rfl hi hob.2.1) h2
            have e3 := hs.obs id _ ho
            generalize hv : a.eval y = p at e1
            cases e1
            exact .ofN (iad_rows (P := P) (kk := q) ht hkk e3 hob.2.2.1 hob.2.2.2) (fun w' => by simp [execOp, e2, hv])
        · cases hp
      · cases hp
    · rename_i len e y' i' ht hy hi
      simp only [Option.map_eq_some_iff] at hc
      obtain ⟨kk, hkk, rfl⟩ := hc
      simp only [pop0] at hp
      split at hp
      · rename_i n h2
        split at hp
        · rename_i r' h1
          simp only [Option.some.injEq, Prod.mk.injEq] at hp
          obtain ⟨rfl, rfl⟩ := hp
          have e1 := arg_sound hs rfl hy hob.1
          obtain ⟨q, e2, _⟩ := int_of (arg_sound hs rfl hi hob.2.1) h2
          exact .ofN (iadA_sound (P := P) (kk := q) ht hkk hob.2.2.1 hob.2.2.2 e1 h1) (fun w' => by simp [execOp, e2])
        · cases hp
      · cases hp
    · cases hc
  case load t y =>
    split at hc
    · rename_i n y' ht hy
      simp at hc; subst hc
      simp only [pop0] at hp
      split at hp
      · rename_i cs h1
        simp only [Option.some.injEq, Prod.mk.injEq] at hp
        obtain ⟨rfl, rfl⟩ := hp
        have e1 := arg_sound hs rfl hy hob.1
        rw [h1] at e1
        obtain ⟨ad, hv, hm⟩ := memAt_dptr e1
        exact .of rfl (ld_sound (P := P) ht hm hob.2) (fun w' => by simp [execOp, hv])
      · rename_i id off h1
        split at hp
        · rename_i t' cs ho
          simp only [Option.some.injEq, Prod.mk.injEq] at hp
          obtain ⟨rfl, rfl⟩ := hp
          have e1 := arg_sound hs rfl hy hob.1
          rw [h1] at e1
          generalize hv : a.eval y = p at e1
          cases e1 with
          | ptr hb => exact .of rfl (ld_sound (P := P) ht (memAt_box (hs.obs id _ ho) hb) hob.2) (fun w' => by simp [execOp, hv])
        · cases hp
      · rename_i id k i off h1
        split at hp
        · rename_i e' k' xs ho
          cases hb : Nat.beq k k' with
          | false => rw [hb] at hp; cases hp
          | true =>
            have := Nat.eq_of_beq_eq_true hb; subst this
            rw [hb] at hp
            simp only [cond_true, Option.some.injEq, Prod.mk.injEq] at hp
            obtain ⟨rfl, rfl⟩ := hp
            have e1 := arg_sound hs rfl hy hob.1
            rw [h1] at e1
            have e3 := hs.obs id _ ho
            generalize hv : a.eval y = p at e1
            cases e1 with
            | eptr hb => cases e3 with
              | arr e3 => exact .of rfl (ld_sound (P := P) ht (memAt_arr e3 hb hob.2.1) hob.2.2) (fun w' => by simp [execOp, hv])
        · rename_i e' ek k' xss h d ho
          simp only [Option.some.injEq, Prod.mk.injEq] at hp
          obtain ⟨rfl, rfl⟩ := hp
          obtain ⟨o1, ⟨rfl, rfl, rfl, o2⟩, o3⟩ := hob
          have e1 := arg_sound hs rfl hy o1
          rw [h1] at e1
          have e3 := hs.obs id _ ho
          generalize hv : a.eval y = p at e1
          cases e1 with
          | eptr hb => exact .of rfl (ld_sound (P := P) ht (memAt_rows e3 hb o2) o3) (fun w' => by simp [execOp, hv])
        · cases hp
      · cases hp
    · cases hc
  case index t y i =>
    split at hc
    · rename_i len e y' i' ht hy hi
      split at hc
      · rename_i n kk hn hkk
        simp at hc; subst hc
        simp only [pop0] at hp
        split at hp
        · rename_i cs m h1 h2
          simp only [Option.some.injEq, Prod.mk.injEq] at hp
          obtain ⟨rfl, rfl⟩ := hp
          have e1 := arg_sound hs rfl hy hob.1
          rw [h1] at e1
          obtain ⟨q, e2, _⟩ := int_of (arg_sound hs rfl hi hob.2.1) h2
          generalize hv : a.eval y = p at e1
          cases e1 with
          | @agg _ vs hl hr h1 =>
            have hn2 : (bif n.isSome then some kk else none) = n := by
              cases n with
              | none => rfl
              | some m =>
                obtain ⟨_, i, _, _, hi, hsz⟩ := shapeOf_some hn
                unfold cellsNum at hkk
                rw [hi] at hkk
                simp at hkk
                simp; omega
            rw [hn2] at hob ⊢
            obtain ⟨z, hz, hrun⟩ := part_sound (P := P) hn hl hr h1 hob.2.2.2.2
            refine ⟨z, hz, fun w' _ => ?_⟩
            have hkk' := hkk
            unfold cellsNum at hkk'
            simp only [Option.map_eq_some_iff] at hkk'
            obtain ⟨inf, hinf, hsz⟩ := hkk'
            simp [execOp, hv, e2, Instr.index, asIntOf, run_underlying ht, hob.2.2.1, hob.2.2.2.1, run_sizeOf hinf, hsz, hrun]
        · cases hp
      · cases hc
    · cases hc
  case field t y f =>
    split at hc
    · rename_i fs y' hfs hy
      split at hc
      · rename_i g hg
        split at hc
        · rename_i n hn
          simp at hc; subst hc
          simp only [pop0] at hp
          split at hp
          · rename_i cs h1
            simp only [Option.some.injEq, Prod.mk.injEq] at hp
            obtain ⟨rfl, rfl⟩ := hp
            have e1 := arg_sound hs rfl hy hob.1
            rw [h1] at e1
            generalize hv : a.eval y = p at e1
            cases e1 with
            | @agg _ vs hl hr h1 =>
              obtain ⟨z, hz, hrun⟩ := part_sound (P := P) hn hl hr h1 hob.2
              exact ⟨z, hz, fun w' _ => by simp [execOp, hv, Instr.field, run_underlying hfs, hg, asAgg, hrun]⟩
          · cases hp
        · cases hc
      · cases hc
    · cases hc
  case nilCheck y =>
    simp only [Option.map_eq_some_iff] at hc
    obtain ⟨y', hy, rfl⟩ := hc
    simp only [pop0] at hp
    split at hp <;> simp only [Option.some.injEq, Prod.mk.injEq, reduceCtorEq] at hp <;> obtain ⟨rfl, rfl⟩ := hp <;>
      (rename_i h1; have e1 := arg_sound hs rfl hy hob; rw [h1] at e1; generalize hv : a.eval y = p at e1; refine ⟨p, e1, fun w' _ => ?_⟩; cases e1 <;> simp [execOp, hv])
  case convert s t y =>
    split at hc
    · rename_i k0 k y' hs0 ht hy
      simp at hc; subst hc
      simp only [pop0] at hp
      split at hp
      · rename_i k2 n h1
        simp only [Option.some.injEq, Prod.mk.injEq] at hp
        obtain ⟨rfl, rfl⟩ := hp
        have e1 := arg_sound hs rfl hy hob.1
        rw [h1] at e1
        obtain ⟨e1, _⟩ := rd_int e1
        refine ⟨_, mk_int hob.2, fun w' _ => ?_⟩
        simp [execOp, e1, convert, run_underlying hs0, run_underlying ht, Conv.intToInt, wrap_inK hob.2]
      · cases hp
    · cases hc
  case build t parts =>
    have key : ∀ (z : List CD) (place : Nat → Option (Nat × Nat)) (qs : List (Nat × Nat × AX)) (zv : Value), constCDs zv.cells.toList = some z → buildParts P place parts.toList = some qs → pop0 true σ (.build (z.map AV.c) qs) = some (r, ob) →
        ∃ vs : List Value, AVR x w S φ r (.agg vs.toArray) ∧ Instr.fill place zv.cells (parts.map fun p => (p.1, a.eval p.2)).toList = some vs.toArray := by
      intro z place qs zv hz hq hp
      obtain ⟨h1, h2⟩ := constCDs_sound hz w S
      simp only [pop0] at hp
      split at hp
      · rename_i cs hset
        simp only [Option.some.injEq, Prod.mk.injEq] at hp
        obtain ⟨rfl, rfl⟩ := hp
        obtain ⟨h3, h4⟩ := buildParts_sound hs hq hob
        obtain ⟨vs, e1, e2, e3, e4⟩ := setParts_sound (x := x) (w := w) (S := S) (φ := φ) zv.cells.toList (parts.toList.map fun q => (q.1, a.eval q.2)) place hset (by simpa using h1) (fun j u v hu hv => by
          simp only [List.getElem?_map, Option.map_eq_some_iff] at hu
          obtain ⟨d, hd, rfl⟩ := hu
          exact .c (h2 j d v hd hv)) (fun v hv => by
          obtain ⟨j, hj⟩ := List.getElem?_of_mem hv
          have hjl : j < z.length := by rw [← h1]; exact (List.getElem?_eq_some_iff.1 hj).1
          exact (h2 j _ v (List.getElem?_eq_getElem hjl) hj).oneCell) (by simp; simpa using h3) h4
        refine ⟨vs, .agg e2 e3 e4, ?_⟩
        simpa using e1
      · cases hp
    split at hc
    · rename_i z fs hz hfs
      cases hall : !(fs.toList.all fun f => (cellsNum P f.type).isSome) with
      | true => rw [hall] at hc; cases hc
      | false =>
        rw [hall] at hc
        simp only [cond_false, Option.map_eq_some_iff] at hc
        obtain ⟨qs, hq, rfl⟩ := hc
        unfold zeroOf at hz
        split at hz
        · rename_i zv hzv
          obtain ⟨vs, hr, hf⟩ := key z _ qs zv hz hq hp
          simp only [Option.bind_eq_some_iff] at hzv
          obtain ⟨inf, hinf, hzv⟩ := hzv
          refine ⟨_, hr, fun w' _ => ?_⟩
          have hpl := run_places (P := P) fs (by simpa only [Bool.not_eq_false'] using hall) w'
          have hfe : (fun j : Nat => (fs.map fun f : Field => (f.offset, (cellsNum P f.type).getD 0))[j]?) = fun j : Nat => (fs[j]?).bind fun f => (cellsNum P f.type).map fun n => (f.offset, n) := by
            funext j
            cases hj : fs[j]? with
            | none => simp [hj]
            | some f =>
              have hfm : f ∈ fs.toList := by simpa using Array.mem_of_getElem? hj
              have := (List.all_eq_true.1 (by simpa only [Bool.not_eq_false'] using hall)) f hfm
              cases hcn : cellsNum P f.type with
              | none => rw [hcn] at this; simp at this
              | some n => simp [hj, hcn]
          simp only [execOp, Instr.build, Sem.run_bind, zeroValue, typeInfo, run_program, hinf, Result.andThen_ok, hzv, Sem.run_pure, run_underlying hfs, hpl]
          rw [hfe]
          rw [hf]
          rfl
        · cases hz
    · rename_i z n e hz hue
      split at hc
      · rename_i k hk
        simp only [Option.map_eq_some_iff] at hc
        obtain ⟨qs, hq, rfl⟩ := hc
        unfold zeroOf at hz
        split at hz
        · rename_i zv hzv
          obtain ⟨vs, hr, hf⟩ := key z _ qs zv hz hq hp
          simp only [Option.bind_eq_some_iff] at hzv
          obtain ⟨inf, hinf, hzv⟩ := hzv
          unfold cellsNum at hk
          simp only [Option.map_eq_some_iff] at hk
          obtain ⟨inf2, hinf2, hsz⟩ := hk
          refine ⟨_, hr, fun w' _ => ?_⟩
          simp only [execOp, Instr.build, Sem.run_bind, zeroValue, typeInfo, run_program, hinf, Result.andThen_ok, hzv, Sem.run_pure, run_underlying hue, run_sizeOf hinf2, hsz]
          rw [hf]
          rfl
        · cases hz
      · cases hc
    · cases hc
  case makeFunc fn first caps =>
    cases fn <;> simp only [reduceCtorEq] at hc
    case func f =>
      cases hb : Nat.beq first.size 0 with
      | false => rw [hb] at hc; cases hc
      | true =>
        rw [hb] at hc
        have h0 : first = #[] := by
          have := Nat.eq_of_beq_eq_true hb
          exact Array.eq_empty_of_size_eq_zero this
        subst h0
        simp only [cond_true, Option.map_eq_some_iff] at hc
        obtain ⟨ys, hys, rfl⟩ := hc
        simp only [pop0, Option.some.injEq, Prod.mk.injEq] at hp
        obtain ⟨rfl, -⟩ := hp
        obtain ⟨hl, hh⟩ := compXs_sound hys
        refine ⟨.func (.func f) #[] (caps.toList.map a.eval).toArray, .fn (by simpa using hl) (fun j u v hu hv => ?_), fun w' _ => by simp only [execOp, Instr.makeFunc, Array.map_empty, Sem.run_bind, Sem.run_pure, Result.andThen_ok]; rw [show caps.map a.eval = (caps.toList.map a.eval).toArray by apply Array.ext'; simp]⟩
        simp only [List.getElem?_map, Option.map_eq_some_iff] at hu hv
        obtain ⟨z, hz, rfl⟩ := hu
        obtain ⟨p, hp, rfl⟩ := hv
        exact ev_sound hs (hh j p z hp hz)
  case makeMap t rsv =>
    cases rsv <;> simp only [reduceCtorEq] at hc
    split at hc
    · split at hc <;> simp at hc; subst hc; simp [pop0] at hp
    · cases hc
  case insert t m k v =>
    split at hc
    · split at hc
      · simp at hc; subst hc; simp [pop0] at hp
      · cases hc
    · cases hc
  case mapUpdate t m k v =>
    split at hc
    · split at hc <;> simp at hc; subst hc; simp [pop0] at hp
    · cases hc
  case lookup t m k ok =>
    split at hc
    · rename_i key e m' k' ht hm hk
      split at hc
      · rename_i kk z hq hz
        simp at hc; subst hc
        simp only [pop0] at hp
        split at hp
        · rename_i kq es n h1 h2
          simp only [Option.some.injEq, Prod.mk.injEq] at hp
          obtain ⟨rfl, rfl⟩ := hp
          obtain ⟨o1, o2, o3⟩ := hob
          have e1 := arg_sound hs rfl hm o1
          obtain ⟨e2, hn⟩ := keyAV_sound (arg_sound hs rfl hk o2) h2
          rcases mview_sound hs e1 h1 with ⟨rfl, rfl, hz'⟩ | ⟨kk', b, ents, clock, rfl, hz', hb, hst, hmr⟩
          · exact .of rfl (look_soundN (P := P) (w := w) (S := S) (x := x) (φ := φ) (ok := ok) ht hq hn hz) (fun w' => by simp [execOp, hz', e2])
          · simp only [kkIs] at o3; subst o3
            exact .of rfl (look_sound (P := P) (ok := ok) ht hq hn hz hb hmr) (fun w' => by simp [execOp, hz', e2])
        · cases hp
      · cases hc
    · cases hc
  case slice t y lo hi mx =>
    cases mx <;> simp only [reduceCtorEq] at hc
    split at hc
    · rename_i e y' lo' hi' ht hy hlo hhi
      simp only [Option.map_eq_some_iff] at hc
      obtain ⟨k, hk, rfl⟩ := hc
      simp only [pop0] at hp
      split at hp
      · rename_i k' xs h1
        split at hp
        · rename_i l u hl hu
          cases hb : Nat.beq k k' with
          | false => rw [hb] at hp; cases hp
          | true =>
            have := Nat.eq_of_beq_eq_true hb; subst this
            rw [hb] at hp
            simp only [cond_true, Option.some.injEq, Prod.mk.injEq] at hp
            obtain ⟨rfl, rfl⟩ := hp
            obtain ⟨o1, o2, o3, o4, o5, o6⟩ := hob
            have e1 := arg_sound hs rfl hy o1
            rw [h1] at e1
            refine .ofN (slice_data (P := P) ht hk e1 o4 o5 o6 (lo := lo.map a.eval) (hi := hi.map a.eval) ?_ ?_) (fun w' => by simp [execOp])
            · rcases optX_some hlo with ⟨rfl, rfl⟩ | ⟨p, z, rfl, rfl, hz⟩
              · simp at hl; exact .inl ⟨rfl, hl.symm⟩
              · obtain ⟨q, e2, _⟩ := int_of (arg_sound hs rfl hz o2) hl
                exact .inr ⟨q, by simp [e2]⟩
            · rcases optX_some hhi with ⟨rfl, rfl⟩ | ⟨p, z, rfl, rfl, hz⟩
              · simp at hu; exact .inl ⟨rfl, hu.symm⟩
              · obtain ⟨q, e2, _⟩ := int_of (arg_sound hs rfl hz o3) hu
                exact .inr ⟨q, by simp [e2]⟩
        · cases hp
      · cases hp
    · cases hc
  case call c =>
    obtain ⟨callee, args, ts⟩ := c
    cases callee with
    | value f =>
      cases f <;> simp only [Option.map_eq_some_iff] at hc
      case func f => obtain ⟨ys, _, rfl⟩ := hc; simp [pop0] at hp
      all_goals (split at hc <;> simp at hc <;> subst hc <;> simp [pop0] at hp)
    | invoke => simp at hc
    | builtin b =>
      cases b <;> simp only [reduceCtorEq] at hc
      case len =>
        split at hc
        · rename_i y t hargs hts
          split at hc
          rotate_left
          · rename_i k e y' ht hy
            simp at hc; subst hc
            have ha : args = #[y] := by rw [← Array.toArray_toList (xs := args), hargs]
            have ht' : ts = #[t] := by rw [← Array.toArray_toList (xs := ts), hts]
            subst ha; subst ht'
            simp only [pop0] at hp
            split at hp
            · rename_i kq es h1
              simp only [Option.some.injEq, Prod.mk.injEq] at hp
              obtain ⟨rfl, rfl⟩ := hp
              obtain ⟨o1, o2⟩ := hob
              rcases mview_sound hs (arg_sound hs rfl hy o1) h1 with ⟨rfl, rfl, hz'⟩ | ⟨kk', b, ents, clock, rfl, hz', hb, hst, hmr⟩
              · refine ⟨.int .i64 0, mk_int (by unfold inK; decide), fun w' _ => ?_⟩
                simp [execOp, resolve, invoke, builtin, hz', Builtin.len_, run_underlying ht, Result.andThen, goInt]
              · have hlt := (Array.getElem?_eq_some_iff.1 hb).1
                have hsz : ents.size = es.length := by have := hmr.get.1; simpa using this
                refine ⟨.int .i64 es.length, mk_int (maxLen_i64 o2), fun w' hw => ?_⟩
                have he := hw.resolve_left (by simp [AK.isN])
                have hb' := (he.block b trivial hlt).trans hb
                simp [execOp, resolve, invoke, builtin, hz', Builtin.len_, run_underlying ht, MapKept.run_getObj_map hb', Result.andThen, goInt, hsz]
            · cases hp
          · cases hc
          · rename_i e y' ht hy
            simp at hc; subst hc
            have ha : args = #[y] := by rw [← Array.toArray_toList (xs := args), hargs]
            have ht' : ts = #[t] := by rw [← Array.toArray_toList (xs := ts), hts]
            subst ha; subst ht'
            have fin : ∀ A n cap, a.eval y = .slice A n cap → n ≤ maxLen → OpYields P x S φ w a ⟨dst, .call { callee := .builtin .len, args := #[y], argTypes := #[t] }, type, pos, after, guard⟩ (.I n) (.len y') := by
              intro A n cap h1 h2
              refine ⟨.int .i64 n, mk_int (maxLen_i64 h2), fun w' _ => ?_⟩
              have := run_len_slice (P := P) ht type A n cap w'
              simp [execOp, resolve, invoke, builtin, h1, this]
            simp only [pop0] at hp
            split at hp
            · rename_i k xs h1
              simp only [Option.some.injEq, Prod.mk.injEq] at hp
              obtain ⟨rfl, rfl⟩ := hp
              have e1 := arg_sound hs rfl hy hob
              rw [h1] at e1
              obtain ⟨A, cap, hv, hn, hcm⟩ := sl_cases e1
              exact fin A _ cap hv (by omega)
            · rename_i h1
              simp only [Option.some.injEq, Prod.mk.injEq] at hp
              obtain ⟨rfl, rfl⟩ := hp
              have e1 := arg_sound hs rfl hy hob
              rw [h1] at e1
              have hv : a.eval y = .slice none 0 0 := by
                generalize a.eval y = p at e1
                cases e1 with
                | c h => cases h; rfl
              exact fin none 0 0 hv (by unfold maxLen; omega)
            · rename_i id h1
              split at hp
              · rename_i e' k xs ho
                simp only [Option.some.injEq, Prod.mk.injEq] at hp
                obtain ⟨rfl, rfl⟩ := hp
                have e1 := arg_sound hs rfl hy hob
                rw [h1] at e1
                have e3 := hs.obs id _ ho
                generalize hz : a.eval y = p at e1
                cases e1
                cases e3 with
                | arr e3 =>
                  obtain ⟨A, cap, hv, hn, hcm⟩ := arr_cases e3
                  exact fin A _ cap (hz.trans hv) (by omega)
              · rename_i e' ek k xss hole who ho
                simp only [Option.some.injEq, Prod.mk.injEq] at hp
                obtain ⟨rfl, rfl⟩ := hp
                have e1 := arg_sound hs rfl hy hob
                rw [h1] at e1
                have e3 := hs.obs id _ ho
                generalize hz : a.eval y = p at e1
                cases e1
                obtain ⟨A, cap, hv, hn, hcm⟩ := rows_cases e3
                exact fin A _ cap (hz.trans hv) (by omega)
              · cases hp
            · cases hp
        · cases hc
      case delete =>
        split at hc
        · split at hc
          · split at hc
            · simp at hc; subst hc; simp [pop0] at hp
            · cases hc
          · cases hc
        · cases hc
      case append =>
        split at hc
        · split at hc
          · split at hc
            · rename_i k i _ _
              revert hc
              generalize (Nat.beq _ _ && _) = bb
              cases bb
              · intro hc; cases hc
              · intro hc; simp at hc; subst hc; simp [pop0] at hp
            · cases hc
          · cases hc
        · cases hc
      case max =>
        split at hc
        · rename_i y z hargs
          split at hc
          · rename_i y' z' hy hz
            simp at hc; subst hc
            have ha : args = #[y, z] := by rw [← Array.toArray_toList (xs := args), hargs]
            subst ha
            simp only [pop0] at hp
            split at hp
            · rename_i k m k' n h1 h2
              split at hp
              · rename_i hk; subst hk
                simp only [Option.some.injEq, Prod.mk.injEq] at hp
                obtain ⟨rfl, rfl⟩ := hp
                have e1 := arg_sound hs rfl hy hob.1
                have e2 := arg_sound hs rfl hz hob.2
                rw [h1] at e1; rw [h2] at e2
                obtain ⟨e1, b1⟩ := rd_int e1
                obtain ⟨e2, b2⟩ := rd_int e2
                refine ⟨_, mk_int (by unfold inK at *; simp only [cond_true]; omega), fun w' _ => ?_⟩
                have : (if m < n then n else m) = max m n := by omega
                simp [execOp, resolve, invoke, builtin, e1, e2, Builtin.max_, Builtin.max2, this]
              · cases hp
            · cases hp
          · cases hc
        · cases hc
      case min =>
        split at hc
        · rename_i y z hargs
          split at hc
          · rename_i y' z' hy hz
            simp at hc; subst hc
            have ha : args = #[y, z] := by rw [← Array.toArray_toList (xs := args), hargs]
            subst ha
            simp only [pop0] at hp
            split at hp
            · rename_i k m k' n h1 h2
              split at hp
              · rename_i hk; subst hk
                simp only [Option.some.injEq, Prod.mk.injEq] at hp
                obtain ⟨rfl, rfl⟩ := hp
                have e1 := arg_sound hs rfl hy hob.1
                have e2 := arg_sound hs rfl hz hob.2
                rw [h1] at e1; rw [h2] at e2
                obtain ⟨e1, b1⟩ := rd_int e1
                obtain ⟨e2, b2⟩ := rd_int e2
                refine ⟨_, mk_int (by unfold inK at *; simp only [cond_false]; omega), fun w' _ => ?_⟩
                have : (if n < m then n else m) = min m n := by omega
                simp [execOp, resolve, invoke, builtin, e1, e2, Builtin.min_, Builtin.min2, this]
              · cases hp
            · cases hp
          · cases hc
        · cases hc
  case alloc t => split at hc <;> simp at hc; subst hc; simp [pop0] at hp
  case box t y => split at hc <;> simp at hc; subst hc; simp [pop0] at hp
  case buildSlice t len parts =>
    split at hc
    · split at hc
      · revert hc
        generalize ((Nat.beq _ _ && _) && _) = bb
        cases bb
        · intro hc; cases hc
        · intro hc; simp at hc; subst hc; simp [pop0] at hp
      · cases hc
    · cases hc
  case store t y z => split at hc <;> simp at hc; subst hc; simp [pop0] at hp
  case range t m => split at hc <;> simp at hc; subst hc; simp [pop0] at hp
  case next y b =>
    cases b with
    | true => simp at hc
    | false => simp only [Option.map_eq_some_iff] at hc; obtain ⟨y', _, rfl⟩ := hc; simp [pop0] at hp
  case entry y => simp only [Option.map_eq_some_iff] at hc; obtain ⟨y', _, rfl⟩ := hc; simp [pop0] at hp
  case makeSlice t l c =>
    split at hc
    · split at hc <;> simp at hc; subst hc; simp [pop0] at hp
    · cases hc

theorem pop_sound (hs : Sim x S φ σ a w) {o : Oper} {k : AK} (hc : compOp P o = some k) {r : AV} {ob : Prop} (hp : pop true σ k = some (r, ob)) (hob : ob) : OpYields P x S φ w a o r k := by
  refine pop0_sound hs hc ?_ hob
  unfold pop orAny at hp
  split at hp
  · rename_i r' h; rw [h]; exact hp
  · cases hp
end
end Go.AL

namespace Go.AL
open Go Go.RowKit

/-! ### objects made and changed -/

def purgeTm (id : Nat) : List (Nat × AV) → List (Nat × AV)
  | [] => []
  | (t, a) :: r => (t, bif a.noId id then a else .any) :: purgeTm id r

def purgeCs (id : Nat) : List AV → List AV
  | [] => []
  | a :: r => (bif a.noId id then a else .any) :: purgeCs id r

/-- the name of what stands in the hole, if it is still good -/
def whoPurge (id : Nat) : Option Nat → Option Nat
  | some d => bif Nat.beq d id then none else some d
  | none => none
theorem whoPurge_some {id d : Nat} : ∀ {w : Option Nat}, whoPurge id w = some d → w = some d ∧ d ≠ id
  | none, h => by cases h
  | some c, h => by
    simp only [whoPurge] at h
    cases hb : Nat.beq c id with
    | true => rw [hb] at h; cases h
    | false =>
      rw [hb] at h
      simp only [cond_false, Option.some.injEq] at h
      subst h
      exact ⟨rfl, fun e => by subst e; rw [Nat.beq_refl] at hb; cases hb⟩
def AO.purge (id : Nat) : AO → AO
  | .box t cs => .box t (purgeCs id cs)
  | .rows e ek k xss hole who => .rows e ek k xss hole (whoPurge id who)
  | o => o

def purgeOb (id : Nat) : List (Nat × AO) → List (Nat × AO)
  | [] => []
  | (i, o) :: r => bif Nat.beq i id then purgeOb id r else (i, o.purge id) :: purgeOb id r

/-- a new object, or an object placed anew (whatever mentions the elder one of that name is forgotten) -/
def St.new (σ : St) (id : Nat) (o : AO) : St := { σ with tm := purgeTm id σ.tm, ob := (id, o) :: purgeOb id σ.ob }

def setOb (id : Nat) (o : AO) : List (Nat × AO) → List (Nat × AO)
  | [] => []
  | (i, p) :: r => bif Nat.beq i id then (i, o) :: r else (i, p) :: setOb id o r

/-- an object's contents change in place (handles stay good) -/
def St.upd (σ : St) (id : Nat) (o : AO) : St := { σ with ob := setOb id o σ.ob }

theorem beq_false {i j : Nat} (h : i ≠ j) : Nat.beq i j = false := by
  cases hb : Nat.beq i j with
  | false => rfl
  | true => exact absurd (Nat.eq_of_beq_eq_true hb) h

theorem get_purge (id t : Nat) : ∀ l : List (Nat × AV), St.get.go t (purgeTm id l) = .any ∨ (St.get.go t (purgeTm id l) = St.get.go t l ∧ (St.get.go t l).noId id = true)
  | [] => .inl rfl
  | (s, a) :: r => by
    simp only [purgeTm, St.get.go]
    cases hb : Nat.beq t s with
    | true =>
      cases hn : a.noId id with
      | true => exact .inr ⟨rfl, by simpa using hn⟩
      | false => exact .inl rfl
    | false => exact get_purge id t r

theorem purgeCs_len (id : Nat) : ∀ l : List AV, (purgeCs id l).length = l.length
  | [] => rfl
  | a :: r => by simp [purgeCs, purgeCs_len id r]
theorem purgeCs_get (id : Nat) : ∀ (l : List AV) (j : Nat) (a : AV), (purgeCs id l)[j]? = some a → a = .any ∨ (l[j]? = some a ∧ a.noId id = true)
  | [], j, a, h => by simp [purgeCs] at h
  | b :: r, 0, a, h => by
    simp only [purgeCs, List.getElem?_cons_zero, Option.some.injEq] at h
    cases hn : b.noId id with
    | true => rw [hn] at h; simp at h; subst h; exact .inr ⟨rfl, hn⟩
    | false => rw [hn] at h; simp at h; exact .inl h.symm
  | b :: r, j + 1, a, h => by
    simp only [purgeCs, List.getElem?_cons_succ] at h
    rcases purgeCs_get id r j a h with h1 | h1
    · exact .inl h1
    · exact .inr (by simpa using h1)

theorem obGet_purge (id : Nat) : ∀ (l : List (Nat × AO)) (i : Nat) (o : AO), i ≠ id → obGet i (purgeOb id l) = some o → ∃ p, obGet i l = some p ∧ o = p.purge id
  | [], i, o, _, h => by simp [purgeOb, obGet] at h
  | (j, p) :: r, i, o, hi, h => by
    simp only [purgeOb] at h
    cases hj : Nat.beq j id with
    | true =>
      rw [hj] at h
      have := Nat.eq_of_beq_eq_true hj; subst this
      obtain ⟨q, h1, h2⟩ := obGet_purge _ r i o hi h
      exact ⟨q, by simp only [obGet, beq_false hi]; exact h1, h2⟩
    | false =>
      rw [hj] at h
      simp only [cond_false, obGet] at h ⊢
      cases hij : Nat.beq i j with
      | true => rw [hij] at h; simp at h; exact ⟨p, rfl, h.symm⟩
      | false => rw [hij] at h; exact obGet_purge id r i o hi h

theorem obGet_setOb (id : Nat) (o : AO) : ∀ (l : List (Nat × AO)) (i : Nat) (p : AO), obGet i (setOb id o l) = some p → (i = id ∧ p = o ∧ ∃ q, obGet i l = some q) ∨ (i ≠ id ∧ obGet i l = some p)
  | [], i, p, h => by simp [setOb, obGet] at h
  | (j, q) :: r, i, p, h => by
    simp only [setOb] at h
    cases hj : Nat.beq j id with
    | true =>
      rw [hj] at h
      have := Nat.eq_of_beq_eq_true hj; subst this
      simp only [cond_true, obGet] at h ⊢
      cases hij : Nat.beq i j with
      | true => rw [hij] at h; simp at h; exact .inl ⟨Nat.eq_of_beq_eq_true hij, h.symm, q, rfl⟩
      | false => rw [hij] at h; exact .inr ⟨(fun e => (by subst e; rw [Nat.beq_refl] at hij; cases hij)), h⟩
    | false =>
      rw [hj] at h
      simp only [cond_false, obGet] at h ⊢
      cases hij : Nat.beq i j with
      | true =>
        rw [hij] at h; simp at h
        refine .inr ⟨fun e => ?_, by simpa using h⟩
        subst e
        have := Nat.eq_of_beq_eq_true hij; subst this
        rw [Nat.beq_refl] at hj; cases hj
      | false => rw [hij] at h; exact obGet_setOb id o r i p h

section
variable {x : Ctx} {S : Nat → Prop} {φ : Nat → Value} {σ : St} {a : Act} {w : World}

def setφ (φ : Nat → Value) (id : Nat) (v : Value) : Nat → Value := fun i => if i = id then v else φ i

theorem setφ_same (φ : Nat → Value) (id : Nat) (v : Value) : setφ φ id v id = v := by simp [setφ]
theorem setφ_ne {φ : Nat → Value} {id i : Nat} {v : Value} (h : i ≠ id) : setφ φ id v i = φ i := by simp [setφ, h]

theorem innerB_purge {w : World} {o : AO} {id : Nat} {v : Value} {b : Nat} : innerB w (o.purge id) v b = innerB w o v b := by
  cases o with
  | rows => exact innerB_who
  | _ => rfl

theorem Sim.renewR (hs : Sim x S φ σ a w) (id : Nat) (hid : id < 1000000) (o : AO) (v : Value) (w' : World)
    (he : Ext (fun b => (∃ p, obGet id σ.ob = some p) → Value.blk (φ id) ≠ some b) w w')
    (hob : ObR x w' S (setφ φ id v) o v)
    (hb : ∀ b, Value.blk v = some b → ¬ S b ∧ b < w'.heap.size ∧ (x.w0.heap.size ≤ b ∨ x.InO b) ∧ ∀ i p, i ≠ id → obGet i σ.ob = some p → Value.blk (φ i) ≠ some b ∧ ¬ innerB w p (φ i) b)
    (hbi : ∀ b, innerB w' o v b → Value.blk v ≠ some b ∧ ¬ S b ∧ b < w'.heap.size ∧ (x.w0.heap.size ≤ b ∨ x.InO b) ∧ ∀ i p, i ≠ id → obGet i σ.ob = some p → Value.blk (φ i) ≠ some b ∧ ¬ innerB w p (φ i) b) :
    Sim x S (setφ φ id v) (σ.new id o) a w' where
  tms := fun t => by
    have heS : Ext S w w' := he.mono fun b hSb ⟨p, hp⟩ hbk => (hs.own id p b hp hbk).1 hSb
    show AVR x w' S _ (St.get.go t (purgeTm id σ.tm)) _
    rcases get_purge id t σ.tm with h | ⟨h, hn⟩
    · rw [h]; exact .any
    · rw [h]; exact ((hs.tms t).ext heS).place (fun i hi => setφ_ne hi) hn
  size := hs.size
  obs := fun i p hp => by
    have heS : Ext S w w' := he.mono fun b hSb ⟨p, hp⟩ hbk => (hs.own id p b hp hbk).1 hSb
    simp only [St.new, obGet] at hp
    by_cases hi : i = id
    · subst hi
      rw [Nat.beq_refl] at hp
      simp at hp; subst hp
      rw [setφ_same]; exact hob
    · rw [beq_false hi] at hp
      obtain ⟨q, hq, rfl⟩ := obGet_purge id σ.ob i p hi hp
      rw [setφ_ne hi]
      have hkeep : ∀ b, Value.blk (φ i) = some b → w'.heap[b]? = w.heap[b]? := fun b hbk => by
        refine he.block b (fun ⟨r, hr⟩ hbk' => hi (hs.inj i id q r b hq hr hbk hbk')) (hs.own i q b hq hbk).2.1
      have h1 := (hs.obs i q hq).ext heS hkeep fun b hib => he.block b (fun ⟨r, hr⟩ hbk' => ((hs.inr i q b hq hib).2 id r hr).1 hbk') (hs.inr i q b hq hib).1.2.1
      generalize φ i = vi at h1
      cases h1 with
      | arr h => exact .arr h
      | box hg hz h h1 =>
        refine .box hg (by simp [purgeCs_len, hz]) (fun j u z hu hz' => ?_) h1
        rcases purgeCs_get id _ j u hu with rfl | ⟨h2, h3⟩
        · exact .any
        · exact (h j u z h2 hz').place (fun i hi => setφ_ne hi) h3
      | map hg hst h => exact .map hg hst h
      | iter hr hS hg hst hsc h hc => exact .iter hr hS hg hst hsc h hc
      | rows0 => exact .rows0
      | rows hg hn hc hs h1 hr hd hw =>
        refine .rows hg hn hc hs h1 hr hd fun h d h2 h3 hl => ?_
        obtain ⟨h4, h5⟩ := whoPurge_some h3
        rw [setφ_ne h5]; exact hw h d h2 h4 hl
  own := fun i p b hp hbk => by
    simp only [St.new, obGet] at hp
    by_cases hi : i = id
    · subst hi
      rw [setφ_same] at hbk
      obtain ⟨h1, h2, h3, _⟩ := hb b hbk
      exact ⟨h1, h2, h3⟩
    · rw [beq_false hi] at hp
      obtain ⟨q, hq, rfl⟩ := obGet_purge id σ.ob i p hi hp
      rw [setφ_ne hi] at hbk
      obtain ⟨h1, h2, h3⟩ := hs.own i q b hq hbk
      exact ⟨h1, Nat.lt_of_lt_of_le h2 he.size, h3⟩
  inj := fun i i' p p' b hp hp' hbk hbk' => by
    simp only [St.new, obGet] at hp hp'
    by_cases hi : i = id <;> by_cases hi' : i' = id
    · rw [hi, hi']
    · subst hi
      rw [setφ_same] at hbk
      rw [beq_false hi'] at hp'
      obtain ⟨q, hq, rfl⟩ := obGet_purge i σ.ob i' p' hi' hp'
      rw [setφ_ne hi'] at hbk'
      exact absurd hbk' ((hb b hbk).2.2.2 i' q hi' hq).1
    · subst hi'
      rw [setφ_same] at hbk'
      rw [beq_false hi] at hp
      obtain ⟨q, hq, rfl⟩ := obGet_purge i' σ.ob i p hi hp
      rw [setφ_ne hi] at hbk
      exact absurd hbk ((hb b hbk').2.2.2 i q hi hq).1
    · rw [beq_false hi] at hp
      rw [beq_false hi'] at hp'
      obtain ⟨q, hq, rfl⟩ := obGet_purge id σ.ob i p hi hp
      obtain ⟨q', hq', rfl⟩ := obGet_purge id σ.ob i' p' hi' hp'
      rw [setφ_ne hi] at hbk
      rw [setφ_ne hi'] at hbk'
      exact hs.inj i i' q q' b hq hq' hbk hbk'
  inr := fun i p b hp hbk => by
    have get : ∀ i p, i ≠ id → obGet i (σ.new id o).ob = some p → ∃ q, obGet i σ.ob = some q ∧ ∀ b, innerB w' p (setφ φ id v i) b → innerB w q (φ i) b := fun i p hi hp => by
      simp only [St.new, obGet] at hp
      rw [beq_false hi] at hp
      obtain ⟨q, hq, rfl⟩ := obGet_purge id σ.ob i p hi hp
      refine ⟨q, hq, fun b h => ?_⟩
      rw [setφ_ne hi, innerB_purge] at h
      exact innerB_ext (fun b hbk => he.block b (fun ⟨r, hr⟩ hbk' => hi (hs.inj i id q r b hq hr hbk hbk')) (hs.own i q b hq hbk).2.1) h
    have same : ∀ p, obGet id (σ.new id o).ob = some p → p = o := fun p hp => by
      simp only [St.new, obGet, Nat.beq_refl, cond_true, Option.some.injEq] at hp
      exact hp.symm
    by_cases hi : i = id
    · subst hi
      obtain rfl := same p hp
      rw [setφ_same] at hbk
      obtain ⟨h0, h1, h2, h3, h4⟩ := hbi b hbk
      refine ⟨⟨h1, h2, h3⟩, fun i' p' hp' => ?_⟩
      by_cases hi' : i' = i
      · subst hi'
        rw [setφ_same]
        exact ⟨h0, fun _ => rfl⟩
      · obtain ⟨q, hq, hin⟩ := get i' p' hi' hp'
        obtain ⟨g1, g2⟩ := h4 i' q hi' hq
        exact ⟨by rw [setφ_ne hi']; exact g1, fun h => absurd (hin b h) g2⟩
    · obtain ⟨q, hq, hin⟩ := get i p hi hp
      have hq1 := hin b hbk
      obtain ⟨⟨h1, h2, h3⟩, h4⟩ := hs.inr i q b hq hq1
      refine ⟨⟨h1, Nat.lt_of_lt_of_le h2 he.size, h3⟩, fun i' p' hp' => ?_⟩
      by_cases hi' : i' = id
      · subst hi'
        obtain rfl := same p' hp'
        rw [setφ_same]
        exact ⟨fun h => ((hb b h).2.2.2 i q hi hq).2 hq1, fun h => absurd hq1 ((hbi b h).2.2.2.2 i q hi hq).2⟩
      · obtain ⟨q', hq', hin'⟩ := get i' p' hi' hp'
        obtain ⟨g1, g2⟩ := h4 i' q' hq'
        exact ⟨by rw [setφ_ne hi']; exact g1, fun h => g2 (hin' b h)⟩
  dat := fun b hb => ⟨Nat.lt_of_lt_of_le (hs.dat b hb).1 he.size, (hs.dat b hb).2⟩
  ext := ⟨he.os.trans hs.ext.os, he.tape.trans hs.ext.tape, he.output.trans hs.ext.output, Nat.le_trans hs.ext.size he.size, fun b hb hl => by
    rw [he.block b (fun ⟨p, hp⟩ hbk => ?_) (Nat.lt_of_lt_of_le hl hs.ext.size)]
    · exact hs.ext.block b hb hl
    · rcases (hs.own id p b hp hbk).2.2 with h | h
      · omega
      · exact hb h⟩
  defers := hs.defers
  small := hs.small
  pins := fun i hi => by rw [setφ_ne (by omega)]; exact hs.pins i hi


/-- not a row of rows -/
def AO.plainB : AO → Bool
  | .rows .. => false
  | _ => true
theorem innerB_plain {w : World} {o : AO} (h : o.plainB = true) (v : Value) (b : Nat) : ¬ innerB w o v b := by
  cases o with
  | rows => cases h
  | _ => exact fun h => h
theorem Sim.renew (hs : Sim x S φ σ a w) (id : Nat) (hid : id < 1000000) (o : AO) (v : Value) (w' : World)
    (he : Ext (fun b => (∃ p, obGet id σ.ob = some p) → Value.blk (φ id) ≠ some b) w w')
    (hob : ObR x w' S (setφ φ id v) o v)
    (hb : ∀ b, Value.blk v = some b → ¬ S b ∧ b < w'.heap.size ∧ (x.w0.heap.size ≤ b ∨ x.InO b) ∧ ∀ i p, i ≠ id → obGet i σ.ob = some p → Value.blk (φ i) ≠ some b ∧ ¬ innerB w p (φ i) b) (ho : o.plainB = true := by rfl) :
    Sim x S (setφ φ id v) (σ.new id o) a w' := hs.renewR id hid o v w' he hob hb fun b h => absurd h (innerB_plain ho v b)

end
end Go.AL

namespace Go.AL
open Go Go.RowKit

section
variable {x : Ctx} {S : Nat → Prop} {φ : Nat → Value} {σ : St} {a : Act} {w : World}

/-- an object's own block is written: its contents change in place -/
theorem Sim.updR (hs : Sim x S φ σ a w) (id : Nat) (o p : AO) (w' : World) (hp : obGet id σ.ob = some p)
    (he : Ext (fun b => Value.blk (φ id) ≠ some b) w w') (hob : ObR x w' S φ o (φ id))
    (hbi : ∀ b, innerB w' o (φ id) b → Value.blk (φ id) ≠ some b ∧ ¬ S b ∧ b < w'.heap.size ∧ (x.w0.heap.size ≤ b ∨ x.InO b) ∧ ∀ i p, i ≠ id → obGet i σ.ob = some p → Value.blk (φ i) ≠ some b ∧ ¬ innerB w p (φ i) b) : Sim x S φ (σ.upd id o) a w' where
  tms := fun t => (hs.tms t).ext (he.mono fun b hSb hbk => (hs.own id p b hp hbk).1 hSb)
  size := hs.size
  obs := fun i q hq => by
    have heS : Ext S w w' := he.mono fun b hSb hbk => (hs.own id p b hp hbk).1 hSb
    rcases obGet_setOb id o σ.ob i q hq with ⟨rfl, rfl, _⟩ | ⟨hi, hq⟩
    · exact hob
    · exact (hs.obs i q hq).ext heS (fun b hbk => he.block b (fun hbk' => hi (hs.inj i id q p b hq hp hbk hbk')) (hs.own i q b hq hbk).2.1) fun b hib => he.block b (fun hbk' => ((hs.inr i q b hq hib).2 id p hp).1 hbk') (hs.inr i q b hq hib).1.2.1
  own := fun i q b hq hbk => by
    have : ∃ q', obGet i σ.ob = some q' := by
      rcases obGet_setOb id o σ.ob i q hq with ⟨rfl, rfl, h⟩ | ⟨hi, hq⟩
      · exact h
      · exact ⟨q, hq⟩
    obtain ⟨q', hq'⟩ := this
    obtain ⟨h1, h2, h3⟩ := hs.own i q' b hq' hbk
    exact ⟨h1, Nat.lt_of_lt_of_le h2 he.size, h3⟩
  inj := fun i i' q q' b hq hq' hbk hbk' => by
    have key : ∀ i q, obGet i (setOb id o σ.ob) = some q → ∃ q', obGet i σ.ob = some q' := fun i q hq => by
      rcases obGet_setOb id o σ.ob i q hq with ⟨rfl, rfl, h⟩ | ⟨hi, hq⟩
      · exact h
      · exact ⟨q, hq⟩
    obtain ⟨r, hr⟩ := key i q hq
    obtain ⟨r', hr'⟩ := key i' q' hq'
    exact hs.inj i i' r r' b hr hr' hbk hbk'
  inr := fun i q b hq hbk => by
    have inn : ∀ i q, i ≠ id → obGet i σ.ob = some q → ∀ b, innerB w' q (φ i) b → innerB w q (φ i) b := fun i q hi hq b h =>
      innerB_ext (fun b hbk => he.block b (fun hbk' => hi (hs.inj i id q p b hq hp hbk hbk')) (hs.own i q b hq hbk).2.1) h
    rcases obGet_setOb id o σ.ob i q hq with ⟨rfl, rfl, _⟩ | ⟨hi, hq⟩
    · obtain ⟨h0, h1, h2, h3, h4⟩ := hbi b hbk
      refine ⟨⟨h1, h2, h3⟩, fun i' p' hp' => ?_⟩
      rcases obGet_setOb i q σ.ob i' p' hp' with ⟨rfl, rfl, _⟩ | ⟨hi', hq'⟩
      · exact ⟨h0, fun _ => rfl⟩
      · obtain ⟨g1, g2⟩ := h4 i' p' hi' hq'
        exact ⟨g1, fun h => absurd (inn i' p' hi' hq' b h) g2⟩
    · have hq' := hq
      have hq1 := inn i q hi hq' b hbk
      obtain ⟨⟨h1, h2, h3⟩, h4⟩ := hs.inr i q b hq' hq1
      refine ⟨⟨h1, Nat.lt_of_lt_of_le h2 he.size, h3⟩, fun i' p' hp' => ?_⟩
      rcases obGet_setOb id o σ.ob i' p' hp' with ⟨e1, e2, _⟩ | ⟨hi', hq2⟩
      · rw [e1, e2]
        exact ⟨(h4 id p hp).1, fun h => absurd hq1 ((hbi b h).2.2.2.2 i q hi hq').2⟩
      · obtain ⟨g1, g2⟩ := h4 i' p' hq2
        exact ⟨g1, fun h => g2 (inn i' p' hi' hq2 b h)⟩
  dat := fun b hb => ⟨Nat.lt_of_lt_of_le (hs.dat b hb).1 he.size, (hs.dat b hb).2⟩
  ext := ⟨he.os.trans hs.ext.os, he.tape.trans hs.ext.tape, he.output.trans hs.ext.output, Nat.le_trans hs.ext.size he.size, fun b hb hl => by
    rw [he.block b (fun hbk => ?_) (Nat.lt_of_lt_of_le hl hs.ext.size)]
    · exact hs.ext.block b hb hl
    · rcases (hs.own id p b hp hbk).2.2 with h | h
      · omega
      · exact hb h⟩
  defers := hs.defers
  small := hs.small
  pins := hs.pins

theorem Sim.upd (hs : Sim x S φ σ a w) (id : Nat) (o p : AO) (w' : World) (hp : obGet id σ.ob = some p)
    (he : Ext (fun b => Value.blk (φ id) ≠ some b) w w') (hob : ObR x w' S φ o (φ id)) (ho : o.plainB = true := by rfl) : Sim x S φ (σ.upd id o) a w' := hs.updR id o p w' hp he hob fun b h => absurd h (innerB_plain ho _ b)

end

/-! ### calls -/

/-- a result -/
inductive RV where
  | c (d : CD)
  | own (e k : Nat) (xs : List (List CD))
  | agg (cs : List CD)

def RV.flatP : RV → Prop
  | .c d => d.flatP
  | .own _ _ xs => ∀ x ∈ xs, ∀ d ∈ x, CD.flatP d
  | .agg cs => ∀ d ∈ cs, CD.flatP d

def RV1 (w : World) (S : Nat → Prop) : RV → Value → Prop
  | .c d, v => Rd w S d v
  | .own e k xs, v => ArrR w S e k xs v
  | .agg cs, v => ∃ vs : List Value, v = .agg vs.toArray ∧ vs.length = cs.length ∧ ∀ (j : Nat) (d : CD) (u : Value), cs[j]? = some d → vs[j]? = some u → Rd w S d u

structure ResR (w : World) (S : Nat → Prop) (w' : World) (rs : List RV) (vs : List Value) (S' : Nat → Prop) : Prop where
  inc : ∀ b, S b → S' b
  new : ∀ b, S' b → S b ∨ w.heap.size ≤ b
  lt : ∀ b, S' b → b < w'.heap.size
  len : vs.length = rs.length
  rel : ∀ (i : Nat) (r : RV) (v : Value), rs[i]? = some r → vs[i]? = some v → RV1 w' S' r v
  own : ∀ (i : Nat) (e k : Nat) (xs : List (List CD)) (v : Value) (b : Nat), rs[i]? = some (.own e k xs) → vs[i]? = some v → Value.blk v = some b → ¬ S' b ∧ w.heap.size ≤ b ∧ b < w'.heap.size
  inj : ∀ (i j : Nat) (e k : Nat) (xs : List (List CD)) (e' k' : Nat) (xs' : List (List CD)) (v u : Value) (b : Nat), rs[i]? = some (.own e k xs) → rs[j]? = some (.own e' k' xs') → vs[i]? = some v → vs[j]? = some u →
    Value.blk v = some b → Value.blk u = some b → i = j

def retValue : List Value → Value
  | [v] => v
  | vs => .tuple vs.toArray

/-- WHAT A FUNCTION DOES: called with arguments that read so, it returns, what was there before stays, and the results read so. -/
def FnR (P : Program) (f : Nat) (as : List AV) (rs : List RV) : Prop :=
  callB P f = true ∧ ∀ (w : World) (S : Nat → Prop) (φ : Nat → Value) (vs : List Value), (∀ b, S b → b < w.heap.size) → vs.length = as.length →
    (∀ (j : Nat) (r : AV) (v : Value), as[j]? = some r → vs[j]? = some v → AVR ⟨P, w, S, fun _ => False, φ⟩ w S φ r v) →
    Calls P f vs.toArray w fun e w' => ∃ us S', e = .returned (retValue us) ∧ ResR w S w' rs us S' ∧ Below w.heap.size w w'

/-- an argument as the callee sees it: an owned row, a variable, is lent for reading -/
def St.arg0 (σ : St) : AV → AV
  | .own id => match obGet id σ.ob with
    | some (.arr _ k xs) => .c (.sl k xs)
    | some (.map kk es) => .c (.mp kk es)
    | _ => .any
  | .ptr id off => match obGet id σ.ob with
    | some (.box _ cs) => match toCDs (cs.drop off) with
      | some ds => .dptr ds
      | none => .any
    | _ => .any
  | .c d => .c d
  | .agg cs => match toCDs cs with
    | some ds => .agg (ds.map AV.c)
    | none => .any
  | .dptr cs => .dptr cs
  | .pf p => .pf p
  | _ => .any

def AV.lends0 : AV → Bool
  | .own _ => true
  | .ptr _ _ => true
  | _ => false

/-- a function value lends what it holds -/
def St.arg (σ : St) : AV → AV
  | .fn f caps => .fn f (caps.map σ.arg0)
  | r => σ.arg0 r
def AV.lends : AV → Bool
  | .fn _ caps => caps.any AV.lends0
  | r => r.lends0

def St.res1 (σ : St) (id : Nat) : RV → St × AV
  | .c d => (σ, .c d)
  | .agg cs => (σ, .agg (cs.map AV.c))
  | .own e k xs => (σ.new id (.arr e k xs), .own id)

def St.resList (σ : St) (id : Nat) : List RV → St × List AV
  | [] => (σ, [])
  | r :: rs => (((σ.res1 id r).1.resList (id + 1000) rs).1, (σ.res1 id r).2 :: ((σ.res1 id r).1.resList (id + 1000) rs).2)

def St.putRes (σ : St) (d : Nat) (rs : List RV) : St :=
  match rs with
  | [r] => (σ.res1 d r).1.put d (σ.res1 d r).2
  | rs => (σ.resList d rs).1.put d (.tup (σ.resList d rs).2)

end Go.AL

namespace Go.AL
open Go Go.RowKit

section
variable {x : Ctx} {S : Nat → Prop} {φ : Nat → Value} {σ : St} {a : Act} {w : World} {P : Program}

theorem toCDs_get : ∀ {cs : List AV} {ds : List CD}, toCDs cs = some ds → cs.length = ds.length ∧ ∀ (j : Nat) (d : CD), ds[j]? = some d → cs[j]? = some (.c d)
  | [], ds, h => by simp [toCDs] at h; subst h; simp
  | c :: cs, ds, h => by
    cases c <;> simp only [toCDs, reduceCtorEq] at h
    case c d =>
      split at h
      · rename_i ds' hds
        simp at h; subst h
        obtain ⟨h1, h2⟩ := toCDs_get hds
        refine ⟨by simp [h1], fun j d' hj => ?_⟩
        cases j with
        | zero => simp at hj; subst hj; rfl
        | succ j => exact h2 j d' (by simpa using hj)
      · cases h

theorem res1_sound (hs : Sim x S φ σ a w) (id : Nat) (hid : id < 1000000) (r : RV) (v : Value) (hr : RV1 w S r v)
    (hown : ∀ e k xs b, r = .own e k xs → Value.blk v = some b → ¬ S b ∧ b < w.heap.size ∧ (x.w0.heap.size ≤ b ∨ x.InO b) ∧ ∀ i p, obGet i σ.ob = some p → Value.blk (φ i) ≠ some b ∧ ¬ innerB w p (φ i) b) :
    ∃ ψ, Sim x S ψ (σ.res1 id r).1 a w ∧ AVR x w S ψ (σ.res1 id r).2 v ∧ (∀ i, i ≠ id → ψ i = φ i) ∧ ((∀ e k xs, r ≠ .own e k xs) → ψ = φ) := by
  cases r with
  | c d => exact ⟨φ, hs, .c hr, fun _ _ => rfl, fun _ => rfl⟩
  | agg cs =>
    obtain ⟨vs, rfl, hl, h⟩ := hr
    exact ⟨φ, hs, aggC hl h, fun _ _ => rfl, fun _ => rfl⟩
  | own e k xs =>
    simp only [RV1] at hr
    have h1 : v.oneCell' = true := by cases hr <;> rfl
    refine ⟨setφ φ id v, hs.renew id hid _ v w (Ext.refl _ _) (.arr hr) (fun b hb => ?_), ?_, fun i hi => setφ_ne hi, fun h => absurd rfl (h e k xs)⟩
    · obtain ⟨h1, h2, h3, h4⟩ := hown e k xs b rfl hb
      exact ⟨h1, h2, h3, fun i p _ hp => h4 i p hp⟩
    · have : AVR x w S (setφ φ id v) (.own id) (setφ φ id v id) := .own (by rw [setφ_same]; exact h1)
      rw [setφ_same] at this; exact this

theorem resList_sound : ∀ (rs : List RV) (vs : List Value) (id : Nat) (σ : St) (φ : Nat → Value), Sim x S φ σ a w → id + 1000 * rs.length ≤ 1000000 → vs.length = rs.length →
    (∀ (i : Nat) (r : RV) (v : Value), rs[i]? = some r → vs[i]? = some v → RV1 w S r v) →
    (∀ (i : Nat) (e k : Nat) (xs : List (List CD)) (v : Value) (b : Nat), rs[i]? = some (.own e k xs) → vs[i]? = some v → Value.blk v = some b → ¬ S b ∧ b < w.heap.size ∧ (x.w0.heap.size ≤ b ∨ x.InO b) ∧ ∀ i p, obGet i σ.ob = some p → Value.blk (φ i) ≠ some b ∧ ¬ innerB w p (φ i) b) →
    (∀ (i j : Nat) (e k : Nat) (xs : List (List CD)) (e' k' : Nat) (xs' : List (List CD)) (v u : Value) (b : Nat), rs[i]? = some (.own e k xs) → rs[j]? = some (.own e' k' xs') → vs[i]? = some v → vs[j]? = some u → Value.blk v = some b → Value.blk u = some b → i = j) →
    ∃ ψ, Sim x S ψ (σ.resList id rs).1 a w ∧ (σ.resList id rs).2.length = vs.length ∧ (∀ (j : Nat) (r : AV) (v : Value), (σ.resList id rs).2[j]? = some r → vs[j]? = some v → AVR x w S ψ r v) ∧ ∀ i, i < id → ψ i = φ i
  | [], vs, id, σ, φ, hs, _, hl, _, _, _ => by
    have : vs = [] := List.eq_nil_of_length_eq_zero (by simpa using hl)
    subst this
    exact ⟨φ, hs, rfl, fun j r v h => by simp [St.resList] at h, fun _ _ => rfl⟩
  | r :: rs, vs, id, σ, φ, hs, hid, hl, hrel, hown, hinj => by
    simp only [List.length_cons] at hid
    cases vs with
    | nil => simp at hl
    | cons v vs =>
      obtain ⟨ψ1, h1, h2, h3, h3'⟩ := res1_sound hs id (by omega) r v (hrel 0 r v rfl rfl) (fun e k xs b he hb => hown 0 e k xs v b (by rw [he]; rfl) rfl hb)
      have hψv : ∀ e k xs, r = .own e k xs → ψ1 id = v := by
        intro e k xs he; subst he
        simp only [St.res1] at h2
        generalize hz : v = z at h2
        cases h2; rfl
      obtain ⟨ψ2, g1, g2, g3, g4⟩ := resList_sound rs vs (id + 1000) (σ.res1 id r).1 ψ1 h1 (by omega) (by simpa using hl) (fun i r v hr hv => hrel (i + 1) r v (by simpa using hr) (by simpa using hv))
        (fun i e k xs u b hr hu hb => by
          obtain ⟨q1, q2, q3, q4⟩ := hown (i + 1) e k xs u b (by simpa using hr) (by simpa using hu) hb
          refine ⟨q1, q2, q3, fun j p hp => ?_⟩
          by_cases hj : j = id ∧ ∃ e k xs, r = .own e k xs
          · obtain ⟨rfl, e', k', xs', he⟩ := hj
            refine ⟨fun hbk => ?_, by
              subst he
              simp only [St.res1, St.new, obGet, Nat.beq_refl, cond_true, Option.some.injEq] at hp
              subst hp
              exact innerB_plain rfl _ _⟩
            rw [hψv _ _ _ he] at hbk
            have := hinj 0 (i + 1) e' k' xs' e k xs v u b (by rw [he]; rfl) (by simpa using hr) rfl (by simpa using hu) hbk hb
            omega
          · cases r with
            | c d => have := h3' (by simp); subst this; exact q4 j p hp
            | agg cs => have := h3' (by simp); subst this; exact q4 j p hp
            | own e' k' xs' =>
              have hji : j ≠ id := fun e => hj ⟨e, _, _, _, rfl⟩
              simp only [St.res1, St.new, obGet] at hp
              rw [beq_false hji] at hp
              obtain ⟨q, hq, rfl⟩ := obGet_purge id σ.ob j p hji hp
              rw [h3 j hji, innerB_purge]
              exact q4 j q hq)
        (fun i j e k xs e' k' xs' v u b h1 h2 h3 h4 h5 h6 => by
          have := hinj (i + 1) (j + 1) e k xs e' k' xs' v u b (by simpa using h1) (by simpa using h2) (by simpa using h3) (by simpa using h4) h5 h6
          omega)
      refine ⟨ψ2, g1, by simp [St.resList, g2], fun j q u hq hu => ?_, fun i hi => (g4 i (by omega)).trans (h3 i (by omega))⟩
      cases j with
      | zero =>
        simp only [St.resList, List.getElem?_cons_zero, Option.some.injEq] at hq hu
        subst hq; subst hu
        cases r with
        | c d => exact .c (hrel 0 _ _ rfl rfl)
        | agg cs =>
          obtain ⟨us, rfl, hl, h⟩ := hrel 0 _ _ rfl rfl
          exact aggC hl h
        | own e k xs =>
          have e1 := hψv e k xs rfl
          have e2 : ψ2 id = v := (g4 id (by omega)).trans e1
          have e3 : v.oneCell' = true := by
            have := hrel 0 _ _ rfl rfl
            simp only [RV1] at this
            cases this <;> rfl
          simp only [St.res1]
          rw [← e2]
          exact .own (by rw [e2]; exact e3)
      | succ j => exact g3 j q u (by simpa [St.resList] using hq) (by simpa using hu)

end
end Go.AL

namespace Go.AL
open Go Go.RowKit

section
variable {x : Ctx} {S : Nat → Prop} {φ : Nat → Value} {σ : St} {a : Act} {w : World} {P : Program}

def lentS (S : Nat → Prop) (φ : Nat → Value) (σ : St) : Nat → Prop := fun b => S b ∨ ∃ id o, obGet id σ.ob = some o ∧ Value.blk (φ id) = some b

theorem arg0_rel (hs : Sim x S φ σ a w) (hx : x.P = P) {r : AV} {v : Value} (h : AVR x w S φ r v) {T : Nat → Prop} (hST : ∀ b, S b → T b) (hT : r.lends0 = true → ∀ b, lentS S φ σ b → T b) (ψ : Nat → Value) :
    AVR ⟨P, w, T, fun _ => False, ψ⟩ w T ψ (σ.arg0 r) v := by
  cases r with
  | c d =>
    cases h with
    | c h => exact .c (h.mono hST)
  | agg cs =>
    simp only [St.arg0]
    split
    · rename_i ds hds
      obtain ⟨h1, h2⟩ := toCDs_get hds
      cases h with
      | @agg _ vs hl hr _ =>
        refine aggC (hl.trans h1) fun j d u hd hu => ?_
        have := hr j _ u (h2 j d hd) hu
        cases this with
        | c h => exact h.mono hST
    · exact .any
  | own id =>
    simp only [St.arg0]
    split
    · rename_i e k xs ho
      have h3 := hs.obs id _ ho
      cases h
      cases h3 with
      | arr h3 => exact .c ((h3.mono hST).data fun b hb => hT rfl b (.inr ⟨id, _, ho, hb⟩))
    · rename_i kk es ho
      have h3 := hs.obs id _ ho
      have hbk : ∀ b, Value.blk (φ id) = some b → T b := fun b hb => hT rfl b (.inr ⟨id, _, ho, hb⟩)
      cases h
      generalize φ id = q at h3 hbk
      cases h3 with
      | map hb hst hm => exact .c (MapR.data hb (hbk _ rfl) hst (hm.mono hST))
    · exact .any
  | ptr id off =>
    simp only [St.arg0]
    split
    · rename_i t cs ho
      split
      · rename_i ds hds
        obtain ⟨h1, h2⟩ := toCDs_get hds
        cases h with
        | @ptr _ b _ hb =>
          obtain ⟨vs, g1, g2, g3, g4⟩ := memAt_box (off := off) (hs.obs id _ ho) hb
          refine .dptr (fun j => vs.getD j default) (hT rfl b (.inr ⟨id, _, ho, by rw [hb]; rfl⟩)) (fun j hj => ?_) (fun j d hd => ?_)
          · have hjl : j < vs.length := by omega
            rw [g2 j vs[j] (List.getElem?_eq_getElem hjl)]
            simp [List.getD, hjl]
          · have hjl : j < vs.length := by have := (List.getElem?_eq_some_iff.1 hd).1; omega
            have := g4 j _ _ (h2 j d hd) (List.getElem?_eq_getElem hjl)
            have e : vs.getD j default = vs[j] := by simp [List.getD, hjl]
            rw [e]
            cases this with
            | c h => exact h.mono hST
      · exact .any
    · exact .any
  | dptr cs =>
    cases h with
    | dptr vs hS hcell hr => exact .dptr vs (hST _ hS) hcell (fun j d hd => (hr j d hd).mono hST)
  | pf p =>
    cases h with
    | pf h =>
      obtain ⟨hc, h⟩ := h
      refine .pf ⟨by rw [← hx]; exact hc, fun w' S' as vs r he hS' hp hl hr => ?_⟩
      rw [← hx]
      exact h w' S' as vs r ⟨he.os.trans hs.ext.os, he.tape.trans hs.ext.tape, he.output.trans hs.ext.output, Nat.le_trans hs.ext.size he.size, fun b hb hl => by
        rw [he.block b (fun h => h) (Nat.lt_of_lt_of_le hl hs.ext.size)]; exact hs.ext.block b hb hl⟩ hS' hp hl hr
  | _ => exact .any

theorem arg_rel (hs : Sim x S φ σ a w) (hx : x.P = P) {r : AV} {v : Value} (h : AVR x w S φ r v) {T : Nat → Prop} (hST : ∀ b, S b → T b) (hT : r.lends = true → ∀ b, lentS S φ σ b → T b) (ψ : Nat → Value) :
    AVR ⟨P, w, T, fun _ => False, ψ⟩ w T ψ (σ.arg r) v := by
  cases r with
  | fn f caps =>
    cases h with
    | fn hl hr =>
      refine .fn (by simpa using hl) fun j u v hu hv => ?_
      simp only [List.getElem?_map, Option.map_eq_some_iff] at hu
      obtain ⟨r0, hr0, rfl⟩ := hu
      exact arg0_rel hs hx (hr j r0 v hr0 hv) hST (fun hle => hT (List.any_eq_true.2 ⟨r0, List.mem_of_getElem? hr0, hle⟩)) ψ
  | _ => exact arg0_rel hs hx h hST hT ψ

theorem RV1.flat {w' : World} {S' T : Nat → Prop} {r : RV} {v : Value} (hf : r.flatP) (h : RV1 w' S' r v) : RV1 w' T r v := by
  cases r with
  | c d => exact Rd.flat hf h
  | own e k xs => exact ArrR.flat hf h
  | agg cs =>
    obtain ⟨vs, rfl, hl, hr⟩ := h
    exact ⟨vs, rfl, hl, fun j d u hd hu => (hr j d u hd hu).flat (hf d (List.mem_of_getElem? hd))⟩

/-- THE CALL: the callee by its contract -/
theorem call_sound (hs : Sim x S φ σ a w) (hx : x.P = P) {f : Nat} {as : List AV} {rs : List RV} (hrs : rs.length ≤ 100) (hF : FnR P f (as.map σ.arg) rs) {vs : List Value} (hl : vs.length = as.length)
    (hargs : ∀ (j : Nat) (r : AV) (v : Value), as[j]? = some r → vs[j]? = some v → AVR x w S φ r v) (hfl : as.any AV.lends = true → ∀ r ∈ rs, r.flatP) :
    Calls P f vs.toArray w fun e w' => ∃ v, e = .returned v ∧ ∀ d, d < σ.n → ∃ S' ψ, Sim x S' ψ (σ.putRes d rs) (a.put (some d) v) w' := by
  have hlt : ∀ b, lentS S φ σ b → b < w.heap.size := fun b hb => by
    rcases hb with hb | ⟨id, o, ho, hb⟩
    · exact (hs.dat b hb).1
    · exact (hs.own id o b ho hb).2.1
  -- whichever blocks are lent
  have key : ∀ T : Nat → Prop, (∀ b, S b → T b) → (∀ b, T b → b < w.heap.size) → (as.any AV.lends = true → ∀ b, lentS S φ σ b → T b) → (as.any AV.lends = true ∨ T = S) →
      Calls P f vs.toArray w fun e w' => ∃ v, e = .returned v ∧ ∀ d, d < σ.n → ∃ S' ψ, Sim x S' ψ (σ.putRes d rs) (a.put (some d) v) w' := by
    intro T hST hTlt hlend hor
    refine (hF.2 w T φ vs hTlt (by simpa using hl) fun j r v hr hv => ?_).mono ?_
    · simp only [List.getElem?_map, Option.map_eq_some_iff] at hr
      obtain ⟨r0, hr0, rfl⟩ := hr
      refine arg_rel hs hx (hargs j r0 v hr0 hv) hST (fun hle => hlend ?_) φ
      exact List.any_eq_true.2 ⟨r0, List.mem_of_getElem? hr0, hle⟩
    · rintro e w' ⟨us, S', rfl, hres, hbel⟩
      refine ⟨_, rfl, fun d hd => ?_⟩
      have hsw := hs.world (Ext.of_below hbel All)
      -- the data blocks behind the call
      have hfin : ∃ S2 : Nat → Prop, Sim x S2 φ σ a w' ∧ (∀ (i : Nat) (r : RV) (v : Value), rs[i]? = some r → us[i]? = some v → RV1 w' S2 r v) ∧ (∀ b, S2 b → S' b) := by
        rcases hor with hle | hTS
        · exact ⟨S, hsw, fun i r v hr hv => RV1.flat (hfl hle r (List.mem_of_getElem? hr)) (hres.rel i r v hr hv), fun b hb => hres.inc b (hST b hb)⟩
        · subst hTS
          refine ⟨S', hsw.more hres.inc fun b hb hnb => ?_, hres.rel, fun _ h => h⟩
          have hn := (hres.new b hb).resolve_left hnb
          refine ⟨hres.lt b hb, .inr (.inl (Nat.le_trans hs.ext.size hn)), fun id o ho => hs.free (Ext.of_below hbel All) hn ho⟩
      obtain ⟨S2, h1, h2, h3⟩ := hfin
      have hown : ∀ (i : Nat) (e k : Nat) (xs : List (List CD)) (v : Value) (b : Nat), rs[i]? = some (.own e k xs) → us[i]? = some v → Value.blk v = some b → ¬ S2 b ∧ b < w'.heap.size ∧ (x.w0.heap.size ≤ b ∨ x.InO b) ∧ ∀ i p, obGet i σ.ob = some p → Value.blk (φ i) ≠ some b ∧ ¬ innerB w' p (φ i) b := by
        intro i e k xs v b hr hv hb
        obtain ⟨q1, q2, q3⟩ := hres.own i e k xs v b hr hv hb
        exact ⟨fun h => q1 (h3 b h), q3, .inl (Nat.le_trans hs.ext.size q2), fun j p hp => hs.free (Ext.of_below hbel All) q2 hp⟩
      unfold St.putRes
      split
      · rename_i r
        have hl1 := hres.len
        obtain ⟨v, rfl⟩ : ∃ v, us = [v] := by
          cases us with
          | nil => simp at hl1
          | cons v us => cases us with
            | nil => exact ⟨v, rfl⟩
            | cons => simp at hl1
        obtain ⟨ψ, g1, g2, _, _⟩ := res1_sound h1 d (by have := hs.small; omega) r v (h2 0 r v rfl rfl) (fun e k xs b he hb => hown 0 e k xs v b (by rw [he]; rfl) rfl hb)
        exact ⟨S2, ψ, g1.put (by cases r <;> exact hd) g2⟩
      · rename_i hne
        obtain ⟨ψ, g1, g2, g3, _⟩ := resList_sound rs us d σ φ h1 (by have := hs.small; omega) hres.len h2 hown hres.inj
        have hn : ∀ (rs : List RV) (id : Nat) (σ : St), (σ.resList id rs).1.n = σ.n := by
          intro rs
          induction rs with
          | nil => intro id σ; rfl
          | cons r rs ih => intro id σ; simp only [St.resList]; rw [ih]; cases r <;> rfl
        have hrv : retValue us = .tuple us.toArray := by
          unfold retValue
          split
          · rename_i v
            have hl1 := hres.len
            cases rs with
            | nil => simp at hl1
            | cons r rs => cases rs with
              | nil => exact absurd rfl (hne r)
              | cons => simp at hl1
          · rfl
        rw [hrv]
        exact ⟨S2, ψ, g1.put (by rw [hn]; exact hd) (.tup g2.symm g3)⟩
  by_cases hle : as.any AV.lends = true
  · exact key (lentS S φ σ) (fun b hb => .inl hb) hlt (fun _ _ h => h) (.inl hle)
  · exact key S (fun _ h => h) (fun b hb => (hs.dat b hb).1) (fun h => absurd h hle) (.inr rfl)

end
/-! ### calls that are handed objects -/

def hasKey {α : Type} (t : Nat) : List (Nat × α) → Bool
  | [] => false
  | (s, _) :: r => Nat.beq t s || hasKey t r
def inL (t : Nat) : List Nat → Bool
  | [] => false
  | s :: r => Nat.beq t s || inL t r
theorem hasKey_of {t : Nat} {o : AO} : ∀ {l : List (Nat × AO)}, obGet t l = some o → hasKey t l = true
  | [], h => by simp [obGet] at h
  | (s, p) :: r, h => by
    simp only [obGet] at h
    simp only [hasKey]
    cases hb : Nat.beq t s with
    | true => rfl
    | false => rw [hb] at h; simpa using hasKey_of (l := r) h
/-- the blocks of the objects handed in -/
def blkIO (φ : Nat → Value) (ob : List (Nat × AO)) : Nat → Prop := fun b => ∃ id o, obGet id ob = some o ∧ Value.blk (φ id) = some b

structure ResW (w : World) (S InO : Nat → Prop) (w' : World) (rs : List RV) (vs : List Value) (S' : Nat → Prop) : Prop where
  inc : ∀ b, S b → S' b
  new : ∀ b, S' b → S b ∨ w.heap.size ≤ b ∨ InO b
  lt : ∀ b, S' b → b < w'.heap.size
  len : vs.length = rs.length
  rel : ∀ (i : Nat) (r : RV) (v : Value), rs[i]? = some r → vs[i]? = some v → RV1 w' S' r v
  own : ∀ (i : Nat) (e k : Nat) (xs : List (List CD)) (v : Value) (b : Nat), rs[i]? = some (.own e k xs) → vs[i]? = some v → Value.blk v = some b → ¬ S' b ∧ (w.heap.size ≤ b ∨ InO b) ∧ b < w'.heap.size
  inj : ∀ (i j : Nat) (e k : Nat) (xs : List (List CD)) (e' k' : Nat) (xs' : List (List CD)) (v u : Value) (b : Nat), rs[i]? = some (.own e k xs) → rs[j]? = some (.own e' k' xs') → vs[i]? = some v → vs[j]? = some u →
    Value.blk v = some b → Value.blk u = some b → i = j

/-- objects in a world -/
structure ObsR (x : Ctx) (w : World) (S : Nat → Prop) (φ : Nat → Value) (ob : List (Nat × AO)) : Prop where
  obs : ∀ id o, obGet id ob = some o → ObR x w S φ o (φ id)
  own : ∀ id o b, obGet id ob = some o → Value.blk (φ id) = some b → ¬ S b ∧ b < w.heap.size ∧ (x.w0.heap.size ≤ b ∨ x.InO b)
  inj : ∀ id id' o o' b, obGet id ob = some o → obGet id' ob = some o' → Value.blk (φ id) = some b → Value.blk (φ id') = some b → id = id'

/-- WHAT A FUNCTION DOES WITH OBJECTS THAT IT IS HANDED: ob before, ob' behind; of those in kp the handles are as they were. -/
def FnW (P : Program) (f : Nat) (as : List AV) (ob : List (Nat × AO)) (rs : List RV) (ob' : List (Nat × AO)) (kp : List Nat) : Prop :=
  callB P f = true ∧ ∀ (w : World) (S : Nat → Prop) (φ : Nat → Value) (vs : List Value), (∀ b, S b → b < w.heap.size) → vs.length = as.length →
    (∀ (j : Nat) (r : AV) (v : Value), as[j]? = some r → vs[j]? = some v → AVR ⟨P, w, S, blkIO φ ob, φ⟩ w S φ r v) → ObsR ⟨P, w, S, blkIO φ ob, φ⟩ w S φ ob →
    Calls P f vs.toArray w fun e w' => ∃ us S' φ', e = .returned (retValue us) ∧ ResW w S (blkIO φ ob) w' rs us S' ∧ Ext (fun b => ¬ blkIO φ ob b) w w' ∧ ObsR ⟨P, w, S, blkIO φ ob, φ⟩ w' S' φ' ob' ∧
      (∀ (i : Nat) (e k : Nat) (xs : List (List CD)) (v : Value) (b id : Nat) (o : AO), rs[i]? = some (.own e k xs) → us[i]? = some v → Value.blk v = some b → obGet id ob' = some o → Value.blk (φ' id) ≠ some b) ∧
      (∀ id, inL id kp = true → φ' id = φ id) ∧ ∀ id, hasKey id ob' = false → φ' id = φ id

/-! an argument, what is handed over by its name -/
def St.argW0 (σ : St) (ob : List (Nat × AO)) : AV → AV
  | .own id => bif hasKey id ob then .own id else σ.arg0 (.own id)
  | .ptr id off => bif hasKey id ob then .ptr id off else σ.arg0 (.ptr id off)
  | a => σ.arg0 a
def St.argW (σ : St) (ob : List (Nat × AO)) : AV → AV
  | .fn f caps => .fn f (caps.map (σ.argW0 ob))
  | a => σ.argW0 ob a
def AV.lendsW0 (ob : List (Nat × AO)) : AV → Bool
  | .own id => !hasKey id ob
  | .ptr id _ => !hasKey id ob
  | _ => false
def AV.lendsW (ob : List (Nat × AO)) : AV → Bool
  | .fn _ caps => caps.any (AV.lendsW0 ob)
  | a => a.lendsW0 ob

/-! what a list of names is struck from -/
def AV.okIds (L : List Nat) (a : AV) : Bool := L.all fun id => a.noId id
def strikeTm (L : List Nat) : List (Nat × AV) → List (Nat × AV)
  | [] => []
  | (t, a) :: r => (t, bif a.okIds L then a else .any) :: strikeTm L r
def strikeCs (L : List Nat) : List AV → List AV
  | [] => []
  | a :: r => (bif a.okIds L then a else .any) :: strikeCs L r
def whoStrike (L : List Nat) : Option Nat → Option Nat
  | some d => bif L.all (fun i => !Nat.beq d i) then some d else none
  | none => none
theorem whoStrike_some {L : List Nat} {d : Nat} : ∀ {w : Option Nat}, whoStrike L w = some d → w = some d ∧ d ∉ L
  | none, h => by cases h
  | some c, h => by
    simp only [whoStrike] at h
    cases hb : L.all (fun i => !Nat.beq c i) with
    | false => rw [hb] at h; cases h
    | true =>
      rw [hb] at h
      simp only [cond_true, Option.some.injEq] at h
      subst h
      refine ⟨rfl, fun e => ?_⟩
      have := List.all_eq_true.1 hb c e
      rw [Nat.beq_refl] at this; cases this
def AO.strike (L : List Nat) : AO → AO
  | .box t cs => .box t (strikeCs L cs)
  | .rows e ek k xss hole who => .rows e ek k xss hole (whoStrike L who)
  | o => o
/-- the other objects behind a call -/
def restOb (L : List Nat) (ob ob' : List (Nat × AO)) : List (Nat × AO) → List (Nat × AO)
  | [] => []
  | (i, o) :: r => bif hasKey i ob || hasKey i ob' then restOb L ob ob' r else (i, o.strike L) :: restOb L ob ob' r
def movedIds (kp : List Nat) : List (Nat × AO) → List Nat
  | [] => []
  | (i, _) :: r => bif inL i kp then movedIds kp r else i :: movedIds kp r
def St.after (σ : St) (ob ob' : List (Nat × AO)) (kp : List Nat) : St := ⟨σ.n, strikeTm (movedIds kp ob') σ.tm, ob' ++ restOb (movedIds kp ob') ob ob' σ.ob⟩
def pinOk (kp : List Nat) : List (Nat × AO) → Bool
  | [] => true
  | (i, _) :: r => (Nat.ble i 999999 || inL i kp) && pinOk kp r
def AO.flatP : AO → Prop
  | .arr _ _ xs => ∀ x ∈ xs, ∀ d ∈ x, CD.flatP d
  | .box _ cs => ∀ a ∈ cs, match a with
    | .c d => d.flatP
    | .own _ => True
    | .ptr _ _ => True
    | _ => False
  | .map _ es => ∀ e ∈ es, match e.2 with
    | .inl d => d.flatP
    | .inr ds => ∀ d ∈ ds, CD.flatP d
  | .iter _ _ _ => False
  | .rows _ _ _ _ _ _ => False
def flatOb : List (Nat × AO) → Prop
  | [] => True
  | (_, o) :: r => o.flatP ∧ flatOb r
theorem flatOb_get {i : Nat} {o : AO} : ∀ {l : List (Nat × AO)}, flatOb l → obGet i l = some o → o.flatP
  | [], _, h => by simp [obGet] at h
  | (s, p) :: r, hf, h => by
    simp only [obGet] at h
    cases hb : Nat.beq i s with
    | true => rw [hb] at h; simp at h; subst h; exact hf.1
    | false => rw [hb] at h; exact flatOb_get hf.2 (by simpa using h)

theorem movedIds_mem {kp : List Nat} {i : Nat} : ∀ {l : List (Nat × AO)}, hasKey i l = true → inL i kp = false → i ∈ movedIds kp l
  | [], h, _ => by simp [hasKey] at h
  | (s, p) :: r, h, hk => by
    simp only [hasKey, Bool.or_eq_true] at h
    simp only [movedIds]
    rcases h with h | h
    · have := Nat.eq_of_beq_eq_true h; subst this
      rw [hk]; simp
    · have ih := movedIds_mem (l := r) h hk
      cases inL s kp with
      | true => simpa using ih
      | false => simp [ih]
theorem pinOk_get {kp : List Nat} {i : Nat} : ∀ {l : List (Nat × AO)}, pinOk kp l = true → hasKey i l = true → 1000000 ≤ i → inL i kp = true
  | [], _, h, _ => by simp [hasKey] at h
  | (s, p) :: r, hp, h, hi => by
    simp only [pinOk, Bool.and_eq_true, Bool.or_eq_true] at hp
    simp only [hasKey, Bool.or_eq_true] at h
    rcases h with h | h
    · have := Nat.eq_of_beq_eq_true h; subst this
      rcases hp.1 with h1 | h1
      · have := Nat.le_of_ble_eq_true h1; omega
      · exact h1
    · exact pinOk_get hp.2 h hi
theorem strike_get (L : List Nat) (t : Nat) : ∀ l : List (Nat × AV), St.get.go t (strikeTm L l) = .any ∨ (St.get.go t (strikeTm L l) = St.get.go t l ∧ (St.get.go t l).okIds L = true)
  | [] => .inl rfl
  | (s, a) :: r => by
    simp only [strikeTm, St.get.go]
    cases hb : Nat.beq t s with
    | true =>
      cases ho : a.okIds L with
      | true => exact .inr ⟨by simp, by simpa using ho⟩
      | false => exact .inl (by simp)
    | false => simpa using strike_get L t r
theorem strikeCs_get (L : List Nat) : ∀ (l : List AV) (j : Nat) (a : AV), (strikeCs L l)[j]? = some a → a = .any ∨ (l[j]? = some a ∧ a.okIds L = true)
  | [], j, a, h => by simp [strikeCs] at h
  | b :: r, 0, a, h => by
    simp only [strikeCs, List.getElem?_cons_zero, Option.some.injEq] at h
    cases ho : b.okIds L with
    | true => rw [ho] at h; simp at h; subst h; exact .inr ⟨rfl, ho⟩
    | false => rw [ho] at h; simp at h; exact .inl h.symm
  | b :: r, j + 1, a, h => by
    simp only [strikeCs, List.getElem?_cons_succ] at h
    simpa using strikeCs_get L r j a h
theorem strikeCs_len (L : List Nat) : ∀ l : List AV, (strikeCs L l).length = l.length
  | [] => rfl
  | _ :: r => by simp [strikeCs, strikeCs_len L r]
theorem restOb_get {L : List Nat} {ob ob' : List (Nat × AO)} {i : Nat} {o : AO} : ∀ {l : List (Nat × AO)}, obGet i (restOb L ob ob' l) = some o → ∃ q, obGet i l = some q ∧ o = q.strike L ∧ hasKey i ob = false ∧ hasKey i ob' = false
  | [], h => by simp [restOb, obGet] at h
  | (s, p) :: r, h => by
    simp only [restOb] at h
    cases hk : hasKey s ob || hasKey s ob' with
    | true =>
      rw [hk] at h
      obtain ⟨q, h1, h2, h3, h4⟩ := restOb_get (l := r) (by simpa using h)
      refine ⟨q, ?_, h2, h3, h4⟩
      simp only [obGet]
      cases hb : Nat.beq i s with
      | true =>
        have := Nat.eq_of_beq_eq_true hb; subst this
        simp [h3, h4] at hk
      | false => simpa using h1
    | false =>
      rw [hk] at h
      simp only [cond_false, obGet] at h
      simp only [obGet]
      cases hb : Nat.beq i s with
      | true =>
        have := Nat.eq_of_beq_eq_true hb; subst this
        rw [hb] at h
        simp at h; subst h
        simp only [Bool.or_eq_false_iff] at hk
        exact ⟨p, rfl, rfl, hk.1, hk.2⟩
      | false =>
        rw [hb] at h
        exact restOb_get (l := r) (by simpa using h)

/-- other placings of names that the value does not mention -/
theorem AVR.agree {x : Ctx} {w : World} {S : Nat → Prop} {φ ψ : Nat → Value} {a : AV} {v : Value} (h : AVR x w S φ a v) (hp : ∀ i, a.noId i = false → ψ i = φ i) : AVR x w S ψ a v := by
  induction h with
  | c h => exact .c h
  | agg hl _ h1 ih =>
    refine .agg hl (fun j a v ha hv => ih j a v ha hv fun i hi => hp i ?_) h1
    cases hn : AV.noId i (.agg _) with
    | false => rfl
    | true => simp only [AV.noId] at hn; rw [noIds_mem hn ha] at hi; cases hi
  | tup hl _ ih =>
    refine .tup hl (fun j a v ha hv => ih j a v ha hv fun i hi => hp i ?_)
    cases hn : AV.noId i (.tup _) with
    | false => rfl
    | true => simp only [AV.noId] at hn; rw [noIds_mem hn ha] at hi; cases hi
  | own h =>
    rename_i i
    have e := hp i (by simp [AV.noId])
    rw [← e]; exact .own (by rw [e]; exact h)
  | ptr h => rename_i i _ _; exact .ptr (by rw [hp i (by simp [AV.noId])]; exact h)
  | eptr h => rename_i i _ _ _ _ _ _ _; exact .eptr (by rw [hp i (by simp [AV.noId])]; exact h)
  | dptr vs hS hcell h => exact .dptr vs hS hcell h
  | fn hl _ ih =>
    refine .fn hl (fun j a v ha hv => ih j a v ha hv fun i hi => hp i ?_)
    cases hn : AV.noId i (.fn _ _) with
    | false => rfl
    | true => simp only [AV.noId] at hn; rw [noIds_mem hn ha] at hi; cases hi
  | pf h => exact .pf h
  | mp h =>
    rename_i i
    have e := hp i (by simp [AV.noId])
    rw [← e]; exact .mp (by rw [e]; exact h)
  | opt _ h0 ih => exact .opt (fun hg => ih hg fun i hi => hp i (by simpa [AV.noId] using hi)) h0
  | any => exact .any

theorem okIds_ne {L : List Nat} {a : AV} (h : a.okIds L = true) {i : Nat} (hi : a.noId i = false) : i ∉ L := by
  intro hm
  unfold AV.okIds at h
  rw [List.all_eq_true] at h
  have := h i hm
  rw [hi] at this; cases this

/-- another context: nothing but function values look at it -/
theorem AVR.ctx {x y : Ctx} {w : World} {S : Nat → Prop} {φ : Nat → Value} {a : AV} {v : Value} (h : AVR x w S φ a v) (hp : ∀ p f caps, PureFn x.P x.w0 x.InO p f caps → PureFn y.P y.w0 y.InO p f caps) : AVR y w S φ a v := by
  induction h with
  | c h => exact .c h
  | agg hl _ h1 ih => exact .agg hl ih h1
  | tup hl _ ih => exact .tup hl ih
  | own h => exact .own h
  | ptr h => exact .ptr h
  | eptr h => exact .eptr h
  | dptr vs hS hcell h => exact .dptr vs hS hcell h
  | fn hl _ ih => exact .fn hl ih
  | pf h => exact .pf (hp _ _ _ h)
  | mp h => exact .mp h
  | opt _ h0 ih => exact .opt ih h0
  | any => exact .any
theorem ObR.ctx {x y : Ctx} {w : World} {S : Nat → Prop} {φ : Nat → Value} {o : AO} {v : Value} (h : ObR x w S φ o v) (hp : ∀ p f caps, PureFn x.P x.w0 x.InO p f caps → PureFn y.P y.w0 y.InO p f caps) : ObR y w S φ o v := by
  cases h with
  | arr h => exact .arr h
  | box hb hs h h1 => exact .box hb hs (fun j a v ha hv => (h j a v ha hv).ctx hp) h1
  | map hb hst h => exact .map hb hst h
  | iter hr hS hg hst hsc h hc => exact .iter hr hS hg hst hsc h hc
  | rows0 => exact .rows0
  | rows hg hn hc hs h1 hr hd hw => exact .rows hg hn hc hs h1 hr hd hw

def AV.plain : AV → Bool
  | .c _ => true
  | .own _ => true
  | .ptr _ _ => true
  | .dptr _ => true
  | .any => true
  | _ => false
def plainOb : List (Nat × AO) → Bool
  | [] => true
  | (_, .box _ cs) :: r => cs.all AV.plain && plainOb r
  | (_, .rows ..) :: _ => false
  | _ :: r => plainOb r
theorem plainOb_get {i t : Nat} {cs : List AV} : ∀ {l : List (Nat × AO)}, plainOb l = true → obGet i l = some (.box t cs) → cs.all AV.plain = true
  | [], _, h => by simp [obGet] at h
  | (s, p) :: r, hf, h => by
    simp only [obGet] at h
    have hr : plainOb r = true := by
      cases p with
      | box t cs => simp only [plainOb, Bool.and_eq_true] at hf; exact hf.2
      | arr => exact hf
      | map => exact hf
      | iter => exact hf
      | rows => cases hf
    cases hb : Nat.beq i s with
    | true =>
      rw [hb] at h; simp at h; subst h
      simp only [plainOb, Bool.and_eq_true] at hf; exact hf.1
    | false => rw [hb] at h; exact plainOb_get hr (by simpa using h)
theorem plainOb_plain {i : Nat} {o : AO} : ∀ {l : List (Nat × AO)}, plainOb l = true → obGet i l = some o → o.plainB = true
  | [], _, h => by simp [obGet] at h
  | (s, p) :: r, hf, h => by
    simp only [obGet] at h
    cases hb : Nat.beq i s with
    | true =>
      rw [hb] at h; simp at h; subst h
      cases p with
      | rows => cases hf
      | _ => rfl
    | false =>
      rw [hb] at h
      cases p with
      | box t cs => simp only [plainOb, Bool.and_eq_true] at hf; exact plainOb_plain hf.2 (by simpa using h)
      | arr => exact plainOb_plain (l := r) hf (by simpa using h)
      | map => exact plainOb_plain (l := r) hf (by simpa using h)
      | iter => exact plainOb_plain (l := r) hf (by simpa using h)
      | rows => cases hf
theorem AVR.plain {x y : Ctx} {w : World} {S : Nat → Prop} {φ : Nat → Value} {a : AV} {v : Value} (h : AVR x w S φ a v) (hp : a.plain = true) : AVR y w S φ a v := by
  cases h with
  | c h => exact .c h
  | own h => exact .own h
  | ptr h => exact .ptr h
  | dptr vs hS hcell h => exact .dptr vs hS hcell h
  | any => exact .any
  | _ => simp [AV.plain] at hp

section
variable {x : Ctx} {S : Nat → Prop} {φ : Nat → Value} {σ : St} {a : Act} {w : World} {P : Program}

theorem pf_into (hs : Sim x S φ σ a w) {T : Nat → Prop} {InO : Nat → Prop} {ψ : Nat → Value} (hIO : ∀ b, InO b → x.w0.heap.size ≤ b ∨ x.InO b) {p : List (Sum CD (List CD)) → Option Value} {f : Nat} {caps : List Value} (h : PureFn x.P x.w0 x.InO p f caps) :
    PureFn (⟨x.P, w, T, InO, ψ⟩ : Ctx).P (⟨x.P, w, T, InO, ψ⟩ : Ctx).w0 (⟨x.P, w, T, InO, ψ⟩ : Ctx).InO p f caps := by
  refine ⟨h.1, fun w' S' as vs r he hS' hp hl hr => h.2 w' S' as vs r ?_ hS' hp hl hr⟩
  refine ⟨he.os.trans hs.ext.os, he.tape.trans hs.ext.tape, he.output.trans hs.ext.output, Nat.le_trans hs.ext.size he.size, fun b hb hl => ?_⟩
  rw [he.block b (fun h => ?_) (Nat.lt_of_lt_of_le hl hs.ext.size)]
  · exact hs.ext.block b hb hl
  · rcases hIO b h with h | h
    · omega
    · exact hb h

/-- an argument lent for reading, or handed over by its name -/
theorem argW0_rel (hs : Sim x S φ σ a w) {ob : List (Nat × AO)} {r : AV} {v : Value} (h : AVR x w S φ r v) {T InO : Nat → Prop} (hIO : ∀ b, InO b → x.w0.heap.size ≤ b ∨ x.InO b) (hST : ∀ b, S b → T b)
    (hT : r.lendsW0 ob = true → ∀ id o b, obGet id σ.ob = some o → hasKey id ob = false → Value.blk (φ id) = some b → T b) : AVR ⟨x.P, w, T, InO, φ⟩ w T φ (σ.argW0 ob r) v := by
  cases r with
  | c d =>
    cases h with
    | c h => exact .c (h.mono hST)
  | agg cs =>
    simp only [St.argW0, St.arg0]
    split
    · rename_i ds hds
      obtain ⟨h1, h2⟩ := toCDs_get hds
      cases h with
      | @agg _ vs hl hr _ =>
        refine aggC (hl.trans h1) fun j d u hd hu => ?_
        have := hr j _ u (h2 j d hd) hu
        cases this with
        | c h => exact h.mono hST
    · exact .any
  | own id =>
    simp only [St.argW0]
    cases hk : hasKey id ob with
    | true => cases h with | own h => exact .own h
    | false =>
      simp only [cond_false, St.arg0]
      split
      · rename_i e k xs ho
        have h3 := hs.obs id _ ho
        cases h
        cases h3 with
        | arr h3 => exact .c ((h3.mono hST).data fun b hb => hT (by simp [AV.lendsW0, hk]) id _ b ho hk hb)
      · rename_i kk es ho
        have h3 := hs.obs id _ ho
        have hbk : ∀ b, Value.blk (φ id) = some b → T b := fun b hb => hT (by simp [AV.lendsW0, hk]) id _ b ho hk hb
        cases h
        generalize φ id = q at h3 hbk
        cases h3 with
        | map hb hst hm => exact .c (MapR.data hb (hbk _ rfl) hst (hm.mono hST))
      · exact .any
  | ptr id off =>
    simp only [St.argW0]
    cases hk : hasKey id ob with
    | true => cases h with | ptr h => exact .ptr h
    | false =>
      simp only [cond_false, St.arg0]
      split
      · rename_i t cs ho
        split
        · rename_i ds hds
          obtain ⟨h1, h2⟩ := toCDs_get hds
          cases h with
          | @ptr _ b _ hb =>
            obtain ⟨vs, g1, g2, g3, g4⟩ := memAt_box (off := off) (hs.obs id _ ho) hb
            refine .dptr (fun j => vs.getD j default) (hT (by simp [AV.lendsW0, hk]) id _ b ho hk (by rw [hb]; rfl)) (fun j hj => ?_) (fun j d hd => ?_)
            · have hjl : j < vs.length := by omega
              rw [g2 j vs[j] (List.getElem?_eq_getElem hjl)]
              simp [List.getD, hjl]
            · have hjl : j < vs.length := by have := (List.getElem?_eq_some_iff.1 hd).1; omega
              have := g4 j _ _ (h2 j d hd) (List.getElem?_eq_getElem hjl)
              have e : vs.getD j default = vs[j] := by simp [List.getD, hjl]
              rw [e]
              cases this with
              | c h => exact h.mono hST
        · exact .any
      · exact .any
  | dptr cs =>
    cases h with
    | dptr vs hS hcell hr => exact .dptr vs (hST _ hS) hcell (fun j d hd => (hr j d hd).mono hST)
  | pf p =>
    cases h with
    | pf h => exact .pf (pf_into hs hIO h)
  | _ => exact .any

theorem argW_rel (hs : Sim x S φ σ a w) {ob : List (Nat × AO)} {r : AV} {v : Value} (h : AVR x w S φ r v) {T InO : Nat → Prop} (hIO : ∀ b, InO b → x.w0.heap.size ≤ b ∨ x.InO b) (hST : ∀ b, S b → T b)
    (hT : r.lendsW ob = true → ∀ id o b, obGet id σ.ob = some o → hasKey id ob = false → Value.blk (φ id) = some b → T b) : AVR ⟨x.P, w, T, InO, φ⟩ w T φ (σ.argW ob r) v := by
  cases r with
  | fn f caps =>
    cases h with
    | fn hl hr =>
      refine .fn (by simpa using hl) fun j u v hu hv => ?_
      simp only [List.getElem?_map, Option.map_eq_some_iff] at hu
      obtain ⟨r0, hr0, rfl⟩ := hu
      exact argW0_rel hs (hr j r0 v hr0 hv) hIO hST (fun hle => hT (List.any_eq_true.2 ⟨r0, List.mem_of_getElem? hr0, hle⟩))
  | _ => exact argW0_rel hs h hIO hST hT

theorem ObR.flatW {y : Ctx} {w' : World} {S' T : Nat → Prop} {ψ : Nat → Value} {o : AO} {v : Value} (hf : o.flatP) (h : ObR y w' S' ψ o v) : ObR y w' T ψ o v := by
  cases h with
  | arr h => exact .arr (h.flat hf)
  | box hb hs h h1 =>
    refine .box hb hs (fun j a v ha hv => ?_) h1
    have hfa := hf a (List.mem_of_getElem? ha)
    have := h j a v ha hv
    cases this with
    | c h => exact .c (h.flat hfa)
    | own h => exact .own h
    | ptr h => exact .ptr h
    | _ => exact hfa.elim
  | iter => exact hf.elim
  | rows0 => exact hf.elim
  | rows => exact hf.elim
  | @map kk es b clock ents hb hst h =>
    refine .map hb hst ?_
    have key : ∀ {es : List (List Int × Sum CD (List CD))} {l : List MapEntry}, (∀ e ∈ es, match e.2 with | .inl d => d.flatP | .inr ds => ∀ d ∈ ds, CD.flatP d) → MapR w' S' kk es l → MapR w' T kk es l := by
      intro es l hf h
      induction h with
      | nil => exact .nil
      | cons hk hw hv _ ih =>
        refine .cons hk hw ?_ (ih fun e he => hf e (by simp [he]))
        have := hf _ List.mem_cons_self
        revert hv
        generalize MapEntry.val _ = z
        intro hv
        cases hv with
        | one h => exact .one (h.flat this)
        | agg hl h => exact .agg hl fun j d v hd hv => (h j d v hd hv).flat (this d (List.mem_of_getElem? hd))
    exact key hf h

theorem strike_obR {y : Ctx} {w' : World} {S' : Nat → Prop} {φ ψ : Nat → Value} {L : List Nat} (hp : ∀ i, i ∉ L → ψ i = φ i) {o : AO} {v : Value} (h : ObR y w' S' φ o v) : ObR y w' S' ψ (o.strike L) v := by
  cases h with
  | arr h => exact .arr h
  | box hb hs h h1 =>
    refine .box hb (by rw [strikeCs_len]; exact hs) (fun j a v ha hv => ?_) h1
    rcases strikeCs_get L _ j a ha with rfl | ⟨ha', hok⟩
    · exact .any
    · exact (h j a v ha' hv).agree fun i hi => hp i (okIds_ne hok hi)
  | map hb hst h => exact .map hb hst h
  | iter hr hS hg hst hsc h hc => exact .iter hr hS hg hst hsc h hc
  | rows0 => exact .rows0
  | rows hg hn hc hs h1 hr hd hw =>
    exact .rows hg hn hc hs h1 hr hd fun h d hh hw' hl => by
      obtain ⟨e1, e2⟩ := whoStrike_some hw'
      rw [hp d e2]; exact hw h d hh e1 hl
theorem innerB_strike {w : World} {o : AO} {L : List Nat} {v : Value} {b : Nat} : innerB w (o.strike L) v b = innerB w o v b := by
  cases o with
  | rows => exact innerB_who
  | _ => rfl

/-- the state behind a call that was handed objects, but for its results -/
theorem after_sound (hs : Sim x S φ σ a w) {ob ob' : List (Nat × AO)} {kp : List Nat} (hob : ∀ i o, obGet i ob = some o → obGet i σ.ob = some o) (hpin : pinOk kp ob' = true)
    {w' : World} {S' : Nat → Prop} {ψ : Nat → Value} (hinc : ∀ b, S b → S' b) (hnew : ∀ b, S' b → S b ∨ w.heap.size ≤ b ∨ blkIO φ ob b) (hlt : ∀ b, S' b → b < w'.heap.size) (hext : Ext (fun b => ¬ blkIO φ ob b) w w')
    (hobs : ∀ id o, obGet id ob' = some o → ObR x w' S' ψ o (ψ id)) (hown : ∀ id o b, obGet id ob' = some o → Value.blk (ψ id) = some b → ¬ S' b ∧ b < w'.heap.size ∧ (w.heap.size ≤ b ∨ blkIO φ ob b))
    (hinj : ∀ id id' o o' b, obGet id ob' = some o → obGet id' ob' = some o' → Value.blk (ψ id) = some b → Value.blk (ψ id') = some b → id = id') (hpl : ∀ id o, obGet id ob' = some o → o.plainB = true)
    (hkp : ∀ id, inL id kp = true → ψ id = φ id) (hrest : ∀ id, hasKey id ob' = false → ψ id = φ id) : Sim x S' ψ (σ.after ob ob' kp) a w' := by
  have hp : ∀ i, i ∉ movedIds kp ob' → ψ i = φ i := by
    intro i hi
    cases hk : hasKey i ob' with
    | false => exact hrest i hk
    | true =>
      cases hl : inL i kp with
      | true => exact hkp i hl
      | false => exact absurd (movedIds_mem hk hl) hi
  have hIOs : ∀ b, blkIO φ ob b → ¬ S b ∧ b < w.heap.size ∧ (x.w0.heap.size ≤ b ∨ x.InO b) := by
    rintro b ⟨id, o, ho, hb⟩
    exact hs.own id o b (hob id o ho) hb
  have heS : Ext S w w' := hext.mono fun b hb h => (hIOs b h).1 hb
  -- an object that was not handed over
  have old : ∀ id q, obGet id σ.ob = some q → hasKey id ob = false → hasKey id ob' = false → ψ id = φ id ∧ ∀ b, Value.blk (φ id) = some b → ¬ blkIO φ ob b := by
    intro id q hq h1 h2
    refine ⟨hrest id h2, fun b hb => ?_⟩
    rintro ⟨i, o, ho, hb'⟩
    have := hs.inj i id o q b (hob i o ho) hq hb' hb
    subst this
    rw [hasKey_of ho] at h1; cases h1
  have get : ∀ id o, obGet id (σ.after ob ob' kp).ob = some o → obGet id ob' = some o ∨ (hasKey id ob' = false ∧ hasKey id ob = false ∧ ∃ q, obGet id σ.ob = some q ∧ o = q.strike (movedIds kp ob')) := by
    intro id o ho
    have happ : ∀ (l l' : List (Nat × AO)), obGet id (l ++ l') = some o → obGet id l = some o ∨ (hasKey id l = false ∧ obGet id l' = some o) := by
      intro l l' h
      induction l with
      | nil => exact .inr ⟨rfl, h⟩
      | cons p r ih =>
        obtain ⟨s, p⟩ := p
        simp only [List.cons_append, obGet] at h
        simp only [obGet, hasKey]
        cases hb : Nat.beq id s with
        | true => rw [hb] at h; exact .inl h
        | false => rw [hb] at h; simpa using ih h
    rcases happ _ _ ho with h | ⟨h1, h2⟩
    · exact .inl h
    · obtain ⟨q, h3, h4, h5, h6⟩ := restOb_get h2
      exact .inr ⟨h1, h5, q, h3, h4⟩
  refine ⟨fun t => ?_, hs.size, fun id o ho => ?_, fun id o b ho hb => ?_, fun id id' o o' b ho ho' hb hb' => ?_, fun id o b ho hb => ?_, fun b hb => ?_, ?_, hs.defers, hs.small, fun id hid => ?_⟩
  · have h1 : AVR x w' S' φ (σ.get t) (a.tmps.getD t undef) := ((hs.tms t).ext heS).mono hinc
    rcases strike_get (movedIds kp ob') t σ.tm with h | ⟨h, hok⟩
    · show AVR x w' S' ψ (St.get.go t (strikeTm _ σ.tm)) _
      rw [h]; exact .any
    · show AVR x w' S' ψ (St.get.go t (strikeTm _ σ.tm)) _
      rw [h]
      exact h1.agree fun i hi => hp i (okIds_ne hok hi)
  · rcases get id o ho with h | ⟨h1, h2, q, hq, rfl⟩
    · exact hobs id o h
    · obtain ⟨e, hb⟩ := old id q hq h2 h1
      rw [e]
      exact strike_obR hp ((((hs.obs id q hq).ext heS fun b hbk => hext.block b (hb b hbk) (hs.own id q b hq hbk).2.1) fun b hib => hext.block b (fun ⟨i, o, ho, hbk⟩ => ((hs.inr id q b hq hib).2 i o (hob i o ho)).1 hbk) (hs.inr id q b hq hib).1.2.1).mono hinc)
  · rcases get id o ho with h | ⟨h1, h2, q, hq, rfl⟩
    · obtain ⟨g1, g2, g3⟩ := hown id o b h hb
      refine ⟨g1, g2, ?_⟩
      rcases g3 with g3 | g3
      · exact .inl (Nat.le_trans hs.ext.size g3)
      · exact (hIOs b g3).2.2
    · obtain ⟨e, hnb⟩ := old id q hq h2 h1
      rw [e] at hb
      obtain ⟨g1, g2, g3⟩ := hs.own id q b hq hb
      refine ⟨fun h => ?_, Nat.lt_of_lt_of_le g2 hext.size, g3⟩
      rcases hnew b h with h | h | h
      · exact g1 h
      · omega
      · exact hnb b hb h
  · have cross : ∀ id o id' q b, obGet id ob' = some o → obGet id' σ.ob = some q → hasKey id' ob' = false → hasKey id' ob = false → Value.blk (ψ id) = some b → Value.blk (φ id') = some b → False := by
      intro id o id' q b h1 h2 h3 h4 h5 h6
      obtain ⟨_, hnb⟩ := old id' q h2 h4 h3
      rcases (hown id o b h1 h5).2.2 with g | g
      · have := (hs.own id' q b h2 h6).2.1; omega
      · exact hnb b h6 g
    rcases get id o ho with h | ⟨h1, h2, q, hq, rfl⟩ <;> rcases get id' o' ho' with h' | ⟨h1', h2', q', hq', rfl⟩
    · exact hinj id id' o o' b h h' hb hb'
    · rw [(old id' q' hq' h2' h1').1] at hb'
      exact (cross id o id' q' b h hq' h1' h2' hb hb').elim
    · rw [(old id q hq h2 h1).1] at hb
      exact (cross id' o' id q b h' hq h1 h2 hb' hb).elim
    · rw [(old id q hq h2 h1).1] at hb
      rw [(old id' q' hq' h2' h1').1] at hb'
      exact hs.inj id id' q q' b hq hq' hb hb'
  · have inn : ∀ id q, obGet id σ.ob = some q → hasKey id ob = false → hasKey id ob' = false → ∀ b, innerB w' (q.strike (movedIds kp ob')) (ψ id) b → innerB w q (φ id) b := fun id q hq h2 h1 b h => by
      obtain ⟨e, hnb⟩ := old id q hq h2 h1
      rw [e, innerB_strike] at h
      exact innerB_ext (fun b hbk => hext.block b (hnb b hbk) (hs.own id q b hq hbk).2.1) h
    rcases get id o ho with h | ⟨h1, h2, q, hq, rfl⟩
    · exact absurd hb (innerB_plain (hpl id o h) _ _)
    · have hq1 := inn id q hq h2 h1 b hb
      obtain ⟨⟨g1, g2, g3⟩, g4⟩ := hs.inr id q b hq hq1
      have hnio : ¬ blkIO φ ob b := fun ⟨i, o, ho, hbk⟩ => (g4 i o (hob i o ho)).1 hbk
      refine ⟨⟨fun h => ?_, Nat.lt_of_lt_of_le g2 hext.size, g3⟩, fun id' o' ho' => ?_⟩
      · rcases hnew b h with h | h | h
        · exact g1 h
        · omega
        · exact hnio h
      · rcases get id' o' ho' with h' | ⟨h1', h2', q', hq', rfl⟩
        · refine ⟨fun hbk => ?_, fun h => absurd h (innerB_plain (hpl id' o' h') _ _)⟩
          rcases (hown id' o' b h' hbk).2.2 with g | g
          · omega
          · exact hnio g
        · obtain ⟨k1, k2⟩ := g4 id' q' hq'
          exact ⟨by rw [(old id' q' hq' h2' h1').1]; exact k1, fun h => k2 (inn id' q' hq' h2' h1' b h)⟩
  · refine ⟨hlt b hb, ?_⟩
    rcases hnew b hb with h | h | h
    · exact (hs.dat b h).2
    · exact .inr (.inl (Nat.le_trans hs.ext.size h))
    · exact .inr (hIOs b h).2.2
  · refine ⟨hext.os.trans hs.ext.os, hext.tape.trans hs.ext.tape, hext.output.trans hs.ext.output, Nat.le_trans hs.ext.size hext.size, fun b hb hl => ?_⟩
    rw [hext.block b (fun h => ?_) (Nat.lt_of_lt_of_le hl hs.ext.size)]
    · exact hs.ext.block b hb hl
    · rcases (hIOs b h).2.2 with h | h
      · omega
      · exact hb h
  · cases hk : hasKey id ob' with
    | false => rw [hrest id hk]; exact hs.pins id hid
    | true => rw [hkp id (pinOk_get hpin hk hid)]; exact hs.pins id hid

theorem after_blocks {ob ob' : List (Nat × AO)} {kp : List Nat} {id : Nat} {o : AO} (h : obGet id (σ.after ob ob' kp).ob = some o) : obGet id ob' = some o ∨ (hasKey id ob' = false ∧ hasKey id ob = false ∧ ∃ q, obGet id σ.ob = some q ∧ o = q.strike (movedIds kp ob')) := by
  have happ : ∀ (l l' : List (Nat × AO)), obGet id (l ++ l') = some o → obGet id l = some o ∨ (hasKey id l = false ∧ obGet id l' = some o) := by
    intro l l' h
    induction l with
    | nil => exact .inr ⟨rfl, h⟩
    | cons p r ih =>
      obtain ⟨s, p⟩ := p
      simp only [List.cons_append, obGet] at h
      simp only [obGet, hasKey]
      cases hb : Nat.beq id s with
      | true => rw [hb] at h; exact .inl h
      | false => rw [hb] at h; simpa using ih h
  rcases happ _ _ h with h | ⟨h1, h2⟩
  · exact .inl h
  · obtain ⟨q, h3, h4, h5, h6⟩ := restOb_get h2
    exact .inr ⟨h1, h5, q, h3, h4⟩

/-- THE CALL of a function that is handed objects -/
theorem call_soundW (hs : Sim x S φ σ a w) (hx : x.P = P) {f : Nat} {as : List AV} {ob ob' : List (Nat × AO)} {kp : List Nat} {rs : List RV} (hrs : rs.length ≤ 100) (hF : FnW P f (as.map (σ.argW ob)) ob rs ob' kp) {vs : List Value} (hl : vs.length = as.length)
    (hargs : ∀ (j : Nat) (r : AV) (v : Value), as[j]? = some r → vs[j]? = some v → AVR x w S φ r v) (hob : σ.le2 ob) (hpin : pinOk kp ob' = true) (hplain : plainOb ob' = true) (hfl : as.any (AV.lendsW ob) = true → (∀ r ∈ rs, r.flatP) ∧ flatOb ob') :
    Calls P f vs.toArray w fun e w' => ∃ v, e = .returned v ∧ ∀ d, d < σ.n → ∃ S' ψ, Sim x S' ψ ((σ.after ob ob' kp).putRes d rs) (a.put (some d) v) w' := by
  have hob' := fun i o h => le2_get hob i o h
  have hIOs : ∀ b, blkIO φ ob b → ¬ S b ∧ b < w.heap.size ∧ (x.w0.heap.size ≤ b ∨ x.InO b) := by
    rintro b ⟨id, o, ho, hb⟩
    exact hs.own id o b (hob' id o ho) hb
  let lent : Nat → Prop := fun b => S b ∨ ∃ id o, obGet id σ.ob = some o ∧ hasKey id ob = false ∧ Value.blk (φ id) = some b
  have hlt : ∀ b, lent b → b < w.heap.size := fun b hb => by
    rcases hb with hb | ⟨id, o, ho, _, hb⟩
    · exact (hs.dat b hb).1
    · exact (hs.own id o b ho hb).2.1
  have hlIO : ∀ b, lent b → ¬ blkIO φ ob b := fun b hb hio => by
    rcases hb with hb | ⟨id, o, ho, hk, hb⟩
    · exact (hIOs b hio).1 hb
    · obtain ⟨i, p, hp, hb'⟩ := hio
      have := hs.inj i id p o b (hob' i p hp) ho hb' hb
      subst this
      rw [hasKey_of hp] at hk; cases hk
  have key : ∀ T : Nat → Prop, (∀ b, S b → T b) → (∀ b, T b → lent b) → (as.any (AV.lendsW ob) = true → ∀ id o b, obGet id σ.ob = some o → hasKey id ob = false → Value.blk (φ id) = some b → T b) → (as.any (AV.lendsW ob) = true ∨ T = S) →
      Calls P f vs.toArray w fun e w' => ∃ v, e = .returned v ∧ ∀ d, d < σ.n → ∃ S' ψ, Sim x S' ψ ((σ.after ob ob' kp).putRes d rs) (a.put (some d) v) w' := by
    intro T hST hTl hlend hor
    have hobs : ObsR ⟨P, w, T, blkIO φ ob, φ⟩ w T φ ob := by
      refine ⟨fun id o ho => ?_, fun id o b ho hb => ?_, fun id id' o o' b h1 h2 => hs.inj id id' o o' b (hob' id o h1) (hob' id' o' h2)⟩
      · rw [← hx]
        exact ((hs.obs id o (hob' id o ho)).mono hST).ctx fun p f caps h => pf_into hs (fun b hb => (hIOs b hb).2.2) h
      · have h := hs.own id o b (hob' id o ho) hb
        exact ⟨fun hb' => hlIO b (hTl b hb') ⟨id, o, ho, hb⟩, h.2.1, .inr ⟨id, o, ho, hb⟩⟩
    refine (hF.2 w T φ vs (fun b hb => hlt b (hTl b hb)) (by simpa using hl) (fun j r v hr hv => ?_) hobs).mono ?_
    · simp only [List.getElem?_map, Option.map_eq_some_iff] at hr
      obtain ⟨r0, hr0, rfl⟩ := hr
      rw [← hx]
      refine argW_rel hs (hargs j r0 v hr0 hv) (fun b hb => (hIOs b hb).2.2) hST (fun hle => hlend ?_)
      exact List.any_eq_true.2 ⟨r0, List.mem_of_getElem? hr0, hle⟩
    · rintro e w' ⟨us, S', ψ, rfl, hres, hext, hobs', hro, hkp, hrest⟩
      refine ⟨_, rfl, fun d hd => ?_⟩
      have hfin : ∃ S2 : Nat → Prop, Sim x S2 ψ (σ.after ob ob' kp) a w' ∧ (∀ (i : Nat) (r : RV) (v : Value), rs[i]? = some r → us[i]? = some v → RV1 w' S2 r v) ∧ (∀ b, S2 b → S' b) := by
        have pl : ∀ (U : Nat → Prop) id o, obGet id ob' = some o → ObR ⟨P, w, T, blkIO φ ob, φ⟩ w' U ψ o (ψ id) → ObR x w' U ψ o (ψ id) := by
          intro U id o ho h
          generalize ψ id = z at h
          cases h with
          | arr h => exact .arr h
          | box hb hs h h1 =>
            refine .box hb hs (fun j a v ha hv => (h j a v ha hv).plain ?_) h1
            have := plainOb_get hplain ho
            rw [List.all_eq_true] at this
            exact this a (List.mem_of_getElem? ha)
          | map hb hst h => exact .map hb hst h
          | iter hr hS hg hst hsc h hc => exact .iter hr hS hg hst hsc h hc
          | rows0 => exact .rows0
          | rows hg hn hc hs h1 hr hd hw => exact .rows hg hn hc hs h1 hr hd hw
        rcases hor with hle | hTS
        · obtain ⟨hf1, hf2⟩ := hfl hle
          refine ⟨S, ?_, fun i r v hr hv => RV1.flat (hf1 r (List.mem_of_getElem? hr)) (hres.rel i r v hr hv), fun b hb => hres.inc b (hST b hb)⟩
          refine after_sound hs hob' hpin (fun _ h => h) (fun b hb => .inl hb) (fun b hb => hres.lt b (hres.inc b (hST b hb))) hext (fun id o ho => pl S id o ho ((hobs'.obs id o ho).flatW (flatOb_get hf2 ho)))
            (fun id o b ho hb => ?_) hobs'.inj (fun _ _ h => plainOb_plain hplain h) hkp hrest
          obtain ⟨g1, g2, g3⟩ := hobs'.own id o b ho hb
          exact ⟨fun h => g1 (hres.inc b (hST b h)), g2, g3⟩
        · subst hTS
          refine ⟨S', ?_, hres.rel, fun _ h => h⟩
          exact after_sound hs hob' hpin hres.inc hres.new hres.lt hext (fun id o ho => pl S' id o ho (hobs'.obs id o ho)) hobs'.own hobs'.inj (fun _ _ h => plainOb_plain hplain h) hkp hrest
      obtain ⟨S2, h1, h2, h3⟩ := hfin
      have hown : ∀ (i : Nat) (e k : Nat) (xs : List (List CD)) (v : Value) (b : Nat), rs[i]? = some (.own e k xs) → us[i]? = some v → Value.blk v = some b → ¬ S2 b ∧ b < w'.heap.size ∧ (x.w0.heap.size ≤ b ∨ x.InO b) ∧ ∀ i p, obGet i (σ.after ob ob' kp).ob = some p → Value.blk (ψ i) ≠ some b ∧ ¬ innerB w' p (ψ i) b := by
        intro i e k xs v b hr hv hb
        obtain ⟨q1, q2, q3⟩ := hres.own i e k xs v b hr hv hb
        refine ⟨fun h => q1 (h3 b h), q3, ?_, fun j p hp => ?_⟩
        · rcases q2 with q2 | q2
          · exact .inl (Nat.le_trans hs.ext.size q2)
          · exact (hIOs b q2).2.2
        · rcases after_blocks hp with hp | ⟨g1, g2, q, hq, rfl⟩
          · exact ⟨hro i e k xs v b j p hr hv hb hp, innerB_plain (plainOb_plain hplain hp) _ _⟩
          · rw [hrest j g1, innerB_strike]
            refine ⟨fun hbk => ?_, fun hin => ?_⟩
            rotate_left
            · have hin' : innerB w q (φ j) b := innerB_ext (fun c hc => hext.block c (fun ⟨i', o', ho', hb'⟩ => by
                have := hs.inj i' j o' q c (hob' i' o' ho') hq hb' hc
                subst this
                rw [hasKey_of ho'] at g2; cases g2) (hs.own j q c hq hc).2.1) hin
              obtain ⟨⟨_, h2, _⟩, h4⟩ := hs.inr j q b hq hin'
              rcases q2 with q2 | ⟨i', o', ho', hb'⟩
              · omega
              · exact (h4 i' o' (hob' i' o' ho')).1 hb'
            rcases q2 with q2 | ⟨i', o', ho', hb'⟩
            · have := (hs.own j q b hq hbk).2.1; omega
            · have := hs.inj i' j o' q b (hob' i' o' ho') hq hb' hbk
              subst this
              rw [hasKey_of ho'] at g2; cases g2
      unfold St.putRes
      split
      · rename_i r
        have hl1 := hres.len
        obtain ⟨v, rfl⟩ : ∃ v, us = [v] := by
          cases us with
          | nil => simp at hl1
          | cons v us => cases us with
            | nil => exact ⟨v, rfl⟩
            | cons => simp at hl1
        obtain ⟨ψ2, g1, g2, _, _⟩ := res1_sound h1 d (by have := hs.small; omega) r v (h2 0 r v rfl rfl) (fun e k xs b he hb => hown 0 e k xs v b (by rw [he]; rfl) rfl hb)
        exact ⟨S2, ψ2, g1.put (by cases r <;> exact hd) g2⟩
      · rename_i hne
        obtain ⟨ψ2, g1, g2, g3, _⟩ := resList_sound rs us d _ ψ h1 (by have := hs.small; omega) hres.len h2 hown hres.inj
        have hn : ∀ (rs : List RV) (id : Nat) (σ : St), (σ.resList id rs).1.n = σ.n := by
          intro rs
          induction rs with
          | nil => intro id σ; rfl
          | cons r rs ih => intro id σ; simp only [St.resList]; rw [ih]; cases r <;> rfl
        have hrv : retValue us = .tuple us.toArray := by
          unfold retValue
          split
          · rename_i v
            have hl1 := hres.len
            cases rs with
            | nil => simp at hl1
            | cons r rs => cases rs with
              | nil => exact absurd rfl (hne r)
              | cons => simp at hl1
          · rfl
        rw [hrv]
        exact ⟨S2, ψ2, g1.put (by rw [hn]; exact hd) (.tup g2.symm g3)⟩
  by_cases hle : as.any (AV.lendsW ob) = true
  · exact key lent (fun b hb => .inl hb) (fun _ h => h) (fun _ id o b h1 h2 h3 => .inr ⟨id, o, h1, h2, h3⟩) (.inl hle)
  · exact key S (fun _ h => h) (fun b hb => .inl hb) (fun h => absurd h hle) (.inr rfl)
end
/-- the handle of an object -/
def hvOf (p : Nat) : Option AO → AV
  | some (.box _ _) => .ptr p 0
  | some _ => .own p
  | none => .any
/-- a call of a function that hands back a pointer to an object p (new, or handed in) -/
def FnP (P : Program) (f : Nat) (as : List AV) (ob : List (Nat × AO)) (p : Nat) (ob' : List (Nat × AO)) (kp : List Nat) : Prop :=
  callB P f = true ∧ (∃ o, obGet p ob' = some o) ∧ ∀ (w : World) (S : Nat → Prop) (φ : Nat → Value) (vs : List Value), (∀ b, S b → b < w.heap.size) → vs.length = as.length →
    (∀ (j : Nat) (r : AV) (v : Value), as[j]? = some r → vs[j]? = some v → AVR ⟨P, w, S, blkIO φ ob, φ⟩ w S φ r v) → ObsR ⟨P, w, S, blkIO φ ob, φ⟩ w S φ ob →
    Calls P f vs.toArray w fun e w' => ∃ S' φ', e = .returned (φ' p) ∧ ResW w S (blkIO φ ob) w' [] [] S' ∧ Ext (fun b => ¬ blkIO φ ob b) w w' ∧ ObsR ⟨P, w, S, blkIO φ ob, φ⟩ w' S' φ' ob' ∧
      (∀ id, inL id kp = true → φ' id = φ id) ∧ ∀ id, hasKey id ob' = false → φ' id = φ id
section
variable {x : Ctx} {S : Nat → Prop} {φ : Nat → Value} {σ : St} {a : Act} {w : World} {P : Program}
theorem call_soundP (hs : Sim x S φ σ a w) (hx : x.P = P) {f p : Nat} {as : List AV} {ob ob' : List (Nat × AO)} {kp : List Nat} (hF : FnP P f (as.map (σ.argW ob)) ob p ob' kp) {vs : List Value} (hl : vs.length = as.length)
    (hargs : ∀ (j : Nat) (r : AV) (v : Value), as[j]? = some r → vs[j]? = some v → AVR x w S φ r v) (hob : σ.le2 ob) (hpin : pinOk kp ob' = true) (hplain : plainOb ob' = true) (hfl : as.any (AV.lendsW ob) = true → flatOb ob') :
    Calls P f vs.toArray w fun e w' => ∃ v, e = .returned v ∧ ∀ d, d < σ.n → ∃ S' ψ, Sim x S' ψ ((σ.after ob ob' kp).put d (hvOf p (obGet p ob'))) (a.put (some d) v) w' := by
  have hob' := fun i o h => le2_get hob i o h
  have hIOs : ∀ b, blkIO φ ob b → ¬ S b ∧ b < w.heap.size ∧ (x.w0.heap.size ≤ b ∨ x.InO b) := by
    rintro b ⟨id, o, ho, hb⟩
    exact hs.own id o b (hob' id o ho) hb
  let lent : Nat → Prop := fun b => S b ∨ ∃ id o, obGet id σ.ob = some o ∧ hasKey id ob = false ∧ Value.blk (φ id) = some b
  have hlt : ∀ b, lent b → b < w.heap.size := fun b hb => by
    rcases hb with hb | ⟨id, o, ho, _, hb⟩
    · exact (hs.dat b hb).1
    · exact (hs.own id o b ho hb).2.1
  have hlIO : ∀ b, lent b → ¬ blkIO φ ob b := fun b hb hio => by
    rcases hb with hb | ⟨id, o, ho, hk, hb⟩
    · exact (hIOs b hio).1 hb
    · obtain ⟨i, p, hp, hb'⟩ := hio
      have := hs.inj i id p o b (hob' i p hp) ho hb' hb
      subst this
      rw [hasKey_of hp] at hk; cases hk
  have key : ∀ T : Nat → Prop, (∀ b, S b → T b) → (∀ b, T b → lent b) → (as.any (AV.lendsW ob) = true → ∀ id o b, obGet id σ.ob = some o → hasKey id ob = false → Value.blk (φ id) = some b → T b) → (as.any (AV.lendsW ob) = true ∨ T = S) →
      Calls P f vs.toArray w fun e w' => ∃ v, e = .returned v ∧ ∀ d, d < σ.n → ∃ S' ψ, Sim x S' ψ ((σ.after ob ob' kp).put d (hvOf p (obGet p ob'))) (a.put (some d) v) w' := by
    intro T hST hTl hlend hor
    have hobs : ObsR ⟨P, w, T, blkIO φ ob, φ⟩ w T φ ob := by
      refine ⟨fun id o ho => ?_, fun id o b ho hb => ?_, fun id id' o o' b h1 h2 => hs.inj id id' o o' b (hob' id o h1) (hob' id' o' h2)⟩
      · rw [← hx]
        exact ((hs.obs id o (hob' id o ho)).mono hST).ctx fun p f caps h => pf_into hs (fun b hb => (hIOs b hb).2.2) h
      · have h := hs.own id o b (hob' id o ho) hb
        exact ⟨fun hb' => hlIO b (hTl b hb') ⟨id, o, ho, hb⟩, h.2.1, .inr ⟨id, o, ho, hb⟩⟩
    refine (hF.2.2 w T φ vs (fun b hb => hlt b (hTl b hb)) (by simpa using hl) (fun j r v hr hv => ?_) hobs).mono ?_
    · simp only [List.getElem?_map, Option.map_eq_some_iff] at hr
      obtain ⟨r0, hr0, rfl⟩ := hr
      rw [← hx]
      refine argW_rel hs (hargs j r0 v hr0 hv) (fun b hb => (hIOs b hb).2.2) hST (fun hle => hlend ?_)
      exact List.any_eq_true.2 ⟨r0, List.mem_of_getElem? hr0, hle⟩
    · rintro e w' ⟨S', ψ, rfl, hres, hext, hobs', hkp, hrest⟩
      refine ⟨_, rfl, fun d hd => ?_⟩
      have hfin : ∃ S2 : Nat → Prop, Sim x S2 ψ (σ.after ob ob' kp) a w' := by
        have pl : ∀ (U : Nat → Prop) id o, obGet id ob' = some o → ObR ⟨P, w, T, blkIO φ ob, φ⟩ w' U ψ o (ψ id) → ObR x w' U ψ o (ψ id) := by
          intro U id o ho h
          generalize ψ id = z at h
          cases h with
          | arr h => exact .arr h
          | box hb hs h h1 =>
            refine .box hb hs (fun j a v ha hv => (h j a v ha hv).plain ?_) h1
            have := plainOb_get hplain ho
            rw [List.all_eq_true] at this
            exact this a (List.mem_of_getElem? ha)
          | map hb hst h => exact .map hb hst h
          | iter hr hS hg hst hsc h hc => exact .iter hr hS hg hst hsc h hc
          | rows0 => exact .rows0
          | rows hg hn hc hs h1 hr hd hw => exact .rows hg hn hc hs h1 hr hd hw
        rcases hor with hle | hTS
        · have hf2 := hfl hle
          refine ⟨S, ?_⟩
          refine after_sound hs hob' hpin (fun _ h => h) (fun b hb => .inl hb) (fun b hb => hres.lt b (hres.inc b (hST b hb))) hext (fun id o ho => pl S id o ho ((hobs'.obs id o ho).flatW (flatOb_get hf2 ho)))
            (fun id o b ho hb => ?_) hobs'.inj (fun _ _ h => plainOb_plain hplain h) hkp hrest
          obtain ⟨g1, g2, g3⟩ := hobs'.own id o b ho hb
          exact ⟨fun h => g1 (hres.inc b (hST b h)), g2, g3⟩
        · subst hTS
          refine ⟨S', ?_⟩
          exact after_sound hs hob' hpin hres.inc hres.new hres.lt hext (fun id o ho => pl S' id o ho (hobs'.obs id o ho)) hobs'.own hobs'.inj (fun _ _ h => plainOb_plain hplain h) hkp hrest
      obtain ⟨S2, h1⟩ := hfin
      refine ⟨S2, ψ, h1.put hd ?_⟩
      obtain ⟨o, ho⟩ := hF.2.1
      have h2 := hobs'.obs p _ ho
      rw [ho]
      have hone : (ψ p).oneCell' = true := by
        generalize ψ p = z at h2
        cases h2 with
        | arr h => cases h <;> rfl
        | _ => rfl
      cases o with
      | box t cs =>
        generalize hz : ψ p = z at h2
        cases h2 with
        | box hb hs' h h1 => exact .ptr hz
      | _ => exact .own hone
  by_cases hle : as.any (AV.lendsW ob) = true
  · exact key lent (fun b hb => .inl hb) (fun _ h => h) (fun _ id o b ho hk hb => .inr ⟨id, o, ho, hk, hb⟩) (.inl hle)
  · exact key S (fun _ h => h) (fun b hb => .inl hb) (fun h => absurd h hle) (.inr rfl)
end
end Go.AL

