/-
  Lemmas for the proof: no statement of its own.
-/
import Derived.Test.YtcimlelkeppoiaaAlA
set_option linter.unusedVariables false
set_option linter.unusedSimpArgs false
namespace Go.AL
open Go Go.RowKit
def AV.elem : AV → Option (List CD)
  | .c d => some [d]
  | .agg cs => toCDs cs
  | _ => none
def elems : List AV → Option (List (List CD))
  | [] => some []
  | a :: r => match a.elem, elems r with
    | some x, some xs => some (x :: xs)
    | _, _ => none
def AV.toArg : AV → Option (Sum CD (List CD))
  | .c d => some (.inl d)
  | .agg cs => match toCDs cs with
    | some ds => some (.inr ds)
    | none => none
  | _ => none
def toArgs : List AV → Option (List (Sum CD (List CD)))
  | [] => some []
  | a :: r => match a.toArg, toArgs r with
    | some x, some xs => some (x :: xs)
    | _, _ => none
def St.view (σ : St) (k : Nat) : AV → Option (List (List CD))
  | .c (.sl k' xs) => bif Nat.beq k k' then some xs else none
  | .c .nil => some []
  | .own id => match obGet id σ.ob with
    | some (.arr _ k' xs) => bif Nat.beq k k' then some xs else none
    | _ => none
  | .vw id kv lo hi => bif Nat.beq lo 0 && Nat.beq k kv then match obGet id σ.ob with
    | some (.arr _ k' xs) => bif Nat.beq k k' then some (xs.take hi) else none
    | _ => none else none
  | _ => none
def St.into (σ : St) (k : Nat) : AV → Option (Nat × Nat)
  | .own id => some (id, 0)
  | .vw id kv lo _ => bif Nat.beq k kv then some (id, lo) else none
  | _ => none
def vwEnd (n : Nat) : AV → Prop
  | .vw _ _ _ hi => hi = n
  | _ => True
def St.mark (σ : St) : Bool := match σ.get 20000 with
  | .opt false _ => true
  | _ => false
def rowMk2 (id : Nat) : Option AO → Option (Nat × Nat × Nat)
  | some (.arr ek k _) => some (id, ek, k)
  | _ => none
def rowMk1 (σ : St) : AV → AV → Option (Nat × Nat × Nat)
  | .opt false _, .own id => rowMk2 id (obGet id σ.ob)
  | _, _ => none
def rowMk (σ : St) : Option (Nat × Bool) → List AX → Option (Nat × Nat × Nat)
  | none, [x] => rowMk1 σ (σ.get 20000) (σ.ev x)
  | _, _ => none
def guardOf (σ : St) : Option (Nat × Bool) → Option Bool
  | none => some true
  | some (s, want) => match σ.get s with
    | .c (.sc (.bool b)) => some (bif want then b else !b)
    | .opt h (.c (.sc (.bool b))) => some (h && (bif want then b else !b))
    | .opt false .any => some false
    | _ => none
def AV.under (g : Option (Nat × Bool)) (G : Bool) (a : AV) : AV := match g with
  | none => a
  | some _ => match a with
    | .opt h v => .opt (G && h) v
    | a => .opt G a
def valObs (G : Bool) (σ : St) : List AX → Prop
  | [] => True
  | x :: r => ((σ.ev x).val G).2 ∧ valObs G σ r
def lensOk (k : Nat) : List (List CD) → Prop
  | [] => True
  | x :: r => x.length = k ∧ lensOk k r
def AV.frz0 (id : Nat) (d : CD) : AV → AV
  | .own i => bif Nat.beq id i then .c d else .own i
  | .ptr i off => bif Nat.beq id i then (bif Nat.beq off 0 then .c d else .any) else .ptr i off
  | a => bif a.noId id then a else .any
def frzCs0 (id : Nat) (d : CD) : List AV → List AV
  | [] => []
  | a :: r => a.frz0 id d :: frzCs0 id d r
def AV.frz (id : Nat) (d : CD) : AV → AV
  | .agg cs => .agg (frzCs0 id d cs)
  | .own i => bif Nat.beq id i then .c d else .own i
  | .ptr i off => bif Nat.beq id i then (bif Nat.beq off 0 then .c d else .any) else .ptr i off
  | a => bif a.noId id then a else .any
def frzTm (id : Nat) (d : CD) : List (Nat × AV) → List (Nat × AV)
  | [] => []
  | (t, a) :: r => (t, a.frz id d) :: frzTm id d r
def frzCs (id : Nat) (d : CD) : List AV → List AV
  | [] => []
  | a :: r => a.frz id d :: frzCs id d r
def AO.frz (id : Nat) (d : CD) : AO → AO
  | .box t cs => .box t (frzCs id d cs)
  | o => o
def frzOb (id : Nat) (d : CD) : List (Nat × AO) → List (Nat × AO)
  | [] => []
  | (i, o) :: r => bif Nat.beq i id then frzOb id d r else (i, o.frz id d) :: frzOb id d r
def St.frzO (σ : St) (id : Nat) : Option (List CD) → St
  | some ds => { σ with tm := frzTm id (.dp ds) σ.tm, ob := frzOb id (.dp ds) σ.ob }
  | none => σ
def AV.frzO (a : AV) (id : Nat) : Option (List CD) → AV
  | some ds => a.frz id (.dp ds)
  | none => a
def St.freezeW (σ : St) (id : Nat) : Option AO → St
  | some (.arr _ k xs) => { σ with tm := frzTm id (.sl k xs) σ.tm, ob := frzOb id (.sl k xs) σ.ob }
  | some (.map kk es) => { σ with tm := frzTm id (.mp kk es) σ.tm, ob := frzOb id (.mp kk es) σ.ob }
  | some (.box _ cs) => σ.frzO id (toCDs cs)
  | _ => σ
def St.freeze (σ : St) (id : Nat) : St := σ.freezeW id (obGet id σ.ob)
def AV.frzW (a : AV) (id : Nat) : Option AO → AV
  | some (.arr _ k xs) => a.frz id (.sl k xs)
  | some (.map kk es) => a.frz id (.mp kk es)
  | some (.box _ cs) => a.frzO id (toCDs cs)
  | _ => a
def St.frzAs (σ : St) (id : Nat) (as : List AV) : List AV := as.map fun a => a.frzW id (obGet id σ.ob)
def AV.ownId : AV → Option Nat
  | .own id => some id
  | _ => none
def St.frz1 (σ : St) : Option Nat → St
  | some id => σ.freeze id
  | none => σ
def AV.ownsL : List AV → List Nat
  | [] => []
  | a :: r => match a with
    | .own id => id :: AV.ownsL r
    | .ptr id off => bif Nat.beq off 0 then id :: AV.ownsL r else AV.ownsL r
    | _ => AV.ownsL r
def AV.owns : AV → List Nat
  | .own id => [id]
  | .ptr id off => bif Nat.beq off 0 then [id] else []
  | .agg cs => AV.ownsL cs
  | _ => []
def frzSt : List Nat → St → St
  | [], σ => σ
  | id :: r, σ => frzSt r (σ.freeze id)
def St.frzL (σ : St) : List AV → St
  | [] => σ
  | a :: r => (frzSt a.owns σ).frzL r
def bsT (σ : St) (g : Option (Nat × Bool)) (parts : List AX) : St := match g with
  | none => σ.frzL (parts.map σ.ev)
  | some _ => σ
def frzAL : List Nat → St → List AV → List AV
  | [], _, as => as
  | id :: r, σ, as => frzAL r (σ.freeze id) (σ.frzAs id as)
def AV.strip : AV → AV
  | .opt true v => v
  | a => a
def stripTm : List (Nat × AV) → List (Nat × AV)
  | [] => []
  | (t, a) :: r => (t, a.strip) :: stripTm r
def St.strip (σ : St) : St := { σ with tm := stripTm σ.tm }
def AK.hardK : AK → Bool
  | .box .. | .alloc .. | .st .. | .app .. | .mks .. | .mkmap .. | .mset .. | .isnil .. | .callv .. | .cpy .. | .mdel .. | .mrange .. | .mnext .. | .mentry .. => true
  | _ => false
def skipK (K : St → Prop) (σ : St) : Option Nat → Prop
  | some d => d < σ.n ∧ K (σ.put d (.opt false .any))
  | none => K σ
def FnV (P : Program) (f : Nat) (as : List AV) (g t : Nat) (cs : List CD) : Prop :=
  callB P f = true ∧ ∀ (w : World) (S : Nat → Prop) (φ : Nat → Value) (vs : List Value), (∀ b, S b → b < w.heap.size) → vs.length = as.length →
    (∀ (j : Nat) (r : AV) (v : Value), as[j]? = some r → vs[j]? = some v → AVR ⟨P, w, S, fun _ => False, φ⟩ w S φ r v) →
    Calls P f vs.toArray w fun e w' => ∃ us : List Value, e = .returned (.func (.func g) #[] #[.pointer (some ⟨w.heap.size, 0, none⟩)]) ∧ w' = w.alloc (.cells us.toArray t) ∧ us.length = cs.length ∧
      ∀ (j : Nat) (d : CD) (u : Value), cs[j]? = some d → us[j]? = some u → Rd w S d u
inductive CallAt (P : Program) (f : Nat) (K : St → Prop) (d : Nat) : List AV → List AV → Bool → St → Prop where
  | r {as0 as : List AV} {fl : Bool} {σ : St} (rs : List RV) (hn : rs.length ≤ 100) (h : FnR P f as rs) (hf : fl = true → ∀ r ∈ rs, RV.flatP r) (hk : K (σ.putRes d rs)) : CallAt P f K d as0 as fl σ
  | w {as0 as : List AV} {fl : Bool} {σ : St} (ob : List (Nat × AO)) (rs : List RV) (ob' : List (Nat × AO)) (kp : List Nat) (hn : rs.length ≤ 100) (h : FnW P f (as0.map (σ.argW ob)) ob rs ob' kp) (ho : σ.le2 ob) (hp : pinOk kp ob' = true) (hpl : plainOb ob' = true)
    (hf : as0.any (AV.lendsW ob) = true → (∀ r ∈ rs, RV.flatP r) ∧ flatOb ob') (hk : K ((σ.after ob ob' kp).putRes d rs)) : CallAt P f K d as0 as fl σ
  | fv {as0 as : List AV} {fl : Bool} {σ : St} (g t : Nat) (cs : List CD) (h : FnV P f as g t cs) (hf : fl = false) (hk : K (σ.put d (.fn g [.dptr cs]))) : CallAt P f K d as0 as fl σ
  | fb {as0 as : List AV} {fl : Bool} {σ : St} (g t : Nat) (cs : List CD) (h : FnV P f as g t cs) (hf : fl = false) (hone : ∀ (w : World) (S : Nat → Prop) (d : CD) (v : Value), d ∈ cs → Rd w S d v → v.oneCell' = true) (hk : K ((σ.new d (.box t (cs.map AV.c))).put d (.fn g [.ptr d 0]))) : CallAt P f K d as0 as fl σ
  | p {as0 as : List AV} {fl : Bool} {σ : St} (ob : List (Nat × AO)) (q : Nat) (ob' : List (Nat × AO)) (kp : List Nat) (h : FnP P f (as0.map (σ.argW ob)) ob q ob' kp) (ho : σ.le2 ob) (hp : pinOk kp ob' = true) (hpl : plainOb ob' = true)
    (hf : as0.any (AV.lendsW ob) = true → flatOb ob') (hk : K ((σ.after ob ob' kp).put d (hvOf q (obGet q ob')))) : CallAt P f K d as0 as fl σ
  | g {as0 as : List AV} {fl : Bool} {σ : St} (ob : List (Nat × AO)) (rs : List AV) (ob' : List (Nat × AO)) (kp : List Nat) (h : FnG P f (as0.map (σ.argW ob)) ob rs ob' kp) (ho : σ.le2 ob) (hp : pinOk kp ob' = true) (hpl : plainOb ob' = true)
    (hf : as0.any (AV.lendsW ob) = false) (hrs : rs.all AV.plainG = true) (hk : K ((σ.after ob ob' kp).put d (resG rs))) : CallAt P f K d as0 as fl σ
  | frz {as0 as : List AV} {fl : Bool} {σ : St} (ids : List Nat) (h : CallAt P f K d (frzAL ids σ as0) ((frzAL ids σ as0).map (frzSt ids σ).arg) ((frzAL ids σ as0).any AV.lends) (frzSt ids σ)) : CallAt P f K d as0 as fl σ
inductive CallAtG (P : Program) (f : Nat) (args : List AX) (as : List AV) (G : Bool) (K : St → Prop) (d : Nat) (σ : St) : Prop where
  | mk0 (v : Value) (h : G = true → FnR P f as [.c (.sc v)]) (hk : K (σ.put d (.opt G (.c (.sc v)))))
  | t (hG : G = true) (h : CallAt P f K d (args.map σ.strip.ev) ((args.map σ.strip.ev).map σ.strip.arg) ((args.map σ.strip.ev).any AV.lends) σ.strip)
  | f (hG : G = false) (h : K (σ.put d (.opt false .any)))
def keyAv : KK → List Int → AV
  | .one k, ns => .c (.sc (.int k (ns.headD 0)))
  | .agg ks, ns => .agg ((ks.zip ns).map fun p => .c (.sc (.int p.1 p.2)))
inductive NextAt (K : St → Prop) (d id : Nat) (kk : KK) (left : List (List Int × Sum CD (List CD))) (σ : St) : Prop where
  | mk (h0 : left = [] → K (σ.put d (.tup [.B false]))) (h1 : ∀ pre n v post, left = pre ++ (n, v) :: post → keyOk kk n → K ((σ.upd id (.iter kk (pre ++ post) (some (n, v)))).put d (.tup [.B true, keyAv kk n, argAV v])))
def sBody (P : Program) (K : St → Prop) (σ : St) (dst : Option Nat) (op : AK) (g : Option (Nat × Bool)) (G : Bool) : Prop :=
    match op with
    | .box t n x => match dst, g with
      | some d, none => d < σ.n ∧ match n, σ.ev x with
        | none, a => a.one = true ∧ K ((σ.new d (.box t (purgeCs d [a]))).put d (.ptr d 0))
        | some m, .agg cs => cs.length = m ∧ K ((σ.new d (.box t (purgeCs d cs))).put d (.ptr d 0))
        | _, _ => False
      | _, _ => False
    | .alloc t zero => match dst, g with
      | some d, none => d < σ.n ∧ K ((σ.new d (.box t zero)).put d (.ptr d 0))
      | _, _ => False
    | .bslice e k parts => match rowMk σ g parts with
      | some (id, ek, k') => match dst with
        | some d => (d < σ.n ∧ k = 1 ∧ id ≠ d) ∧ K ((σ.new d (.rows e ek k' [[]] (some 0) (some id))).put d (.own d))
        | none => False
      | none => match dst, elems (parts.map fun x => (((bsT σ g parts).ev x).val G).1) with
      | some d, some xs => d < (bsT σ g parts).n ∧ (G = true → valObs G (bsT σ g parts) parts) ∧ lensOk k xs ∧ match g with
        | none => bif xs.isEmpty && (bsT σ g parts).mark then K ((bsT σ g parts).put d (.c .ne)) else K (((bsT σ g parts).new d (.arr e k xs)).put d (.own d))
        | some _ => K ((bsT σ g parts).put d (AV.under g G (.c (.sl k xs))))
      | _, _ => False
    | .st n x v => match g, dst, ((σ.ev x).val true).1, n, σ.ev v with
      | none, none, .ptr id off, none, a => match obGet id σ.ob with
        | some (.box t cs) => ((σ.ev x).val true).2 ∧ a.one = true ∧ off < cs.length ∧ K (σ.upd id (.box t (cs.set off a)))
        | _ => False
      | none, none, .ptr id off, some m, .agg as => match obGet id σ.ob with
        | some (.box t cs) => ((σ.ev x).val true).2 ∧ off + m ≤ cs.length ∧ as.length = m ∧ K (σ.upd id (.box t (cs.take off ++ as ++ cs.drop (off + m))))
        | _ => False
      | none, none, .eptr id k i off, none, .c a => match obGet id σ.ob with
        | some (.arr e k' xs) => ((σ.ev x).val true).2 ∧ k = k' ∧ i < xs.length ∧ off < k ∧ K (σ.upd id (.arr e k' (xs.set i ((xs.getD i []).set off a))))
        | _ => False
      | none, none, .eptr id k i 0, some m, .agg as => match obGet id σ.ob, toCDs as with
        | some (.arr e k' xs), some ds => ((σ.ev x).val true).2 ∧ k = k' ∧ m = k ∧ as.length = k ∧ i < xs.length ∧ K (σ.upd id (.arr e k' (xs.set i ds)))
        | _, _ => False
      | none, none, .eptr id k i off, none, .own d => match obGet id σ.ob with
        | some (.rows e ek k' xss (some h) who) => ((σ.ev x).val true).2 ∧ (k = 1 ∧ off = 0 ∧ i = h) ∧ h < xss.length ∧ K (σ.upd id (.rows e ek k' xss (some h) (some d)))
        | _ => False
      | _, _, _, _, _ => False
    | .app e k bytes s x => match g, dst, σ.ev s, σ.view k (σ.ev x) with
      | none, some d, .own id, some ys => match obGet id σ.ob with
        | some (.arr e' k' xs) => d < σ.n ∧ id < 1000000 ∧ e = e' ∧ k = k' ∧ 0 < k ∧ (xs.length + ys.length) * bytes ≤ 140737488355328 ∧ xs.length + ys.length ≤ maxLen ∧ K ((σ.new id (.arr e k (xs ++ ys))).put d (.own id))
        | some (.rows e' ek k' xss none who) => d < σ.n ∧ id < 1000000 ∧ (e = e' ∧ k = 1 ∧ ys = [[CD.nil]]) ∧ (xss.length + 1) * bytes ≤ 140737488355328 ∧ xss.length + 1 ≤ maxLen ∧ K ((σ.new id (.rows e ek k' (xss ++ [[]]) none none)).put d (.own id))
        | _ => False
      | none, some d, .full k' xs, some ys => d < σ.n ∧ k = k' ∧ 0 < k ∧ 0 < ys.length ∧ (xs.length + ys.length) * bytes ≤ 140737488355328 ∧ xs.length + ys.length ≤ maxLen ∧ K ((σ.new d (.arr e k (xs ++ ys))).put d (.own d))
      | none, some d, .c .nil, some ys => d < σ.n ∧ 0 < k ∧ ys.length * bytes ≤ 140737488355328 ∧ ys.length ≤ maxLen ∧ K ((σ.new d (.arr e k ys)).put d (.own d))
      | _, _, _, _ => False
    | .cpy e k x y => match g, dst, σ.into k (σ.ev x), σ.view k (σ.ev y) with
      | none, some d, some (id, lo), some ys => match obGet id σ.ob with
        | some (.arr e' k' xs) => d < σ.n ∧ e = e' ∧ k = k' ∧ 0 < k ∧ lo ≤ xs.length ∧ vwEnd xs.length (σ.ev x) ∧
            K ((σ.upd id (.arr e k (xs.take lo ++ ys.take (xs.length - lo) ++ xs.drop (lo + ys.length)))).put d (.I (min ys.length (xs.length - lo) : Nat)))
        | _ => False
      | _, _, _, _ => False
    | .mks e k bytes zero len cap => match g, dst, (σ.ev len).isInt, (σ.ev cap).isInt with
      | none, some d, some n, some m => d < σ.n ∧ 0 < k ∧ zero.length = k ∧ 0 ≤ n ∧ n ≤ m ∧ m * bytes ≤ 140737488355328 ∧ m ≤ maxLen ∧ K ((σ.new d (.arr e k (List.replicate n.toNat zero))).put d (.own d))
      | _, _, _, _ => False
    | .slc k x lo hi => match dst, σ.ev x with
      | some d, .own id => match g, obGet id σ.ob with
        | none, some (.arr e k' xs) =>
          match (match lo with | none => some 0 | some y => (σ.ev y).isInt), (match hi with | none => some (xs.length : Int) | some y => (σ.ev y).isInt) with
          | some l, some h => d < σ.n ∧ id < 1000000 ∧ k = k' ∧ 0 ≤ l ∧ l ≤ h ∧ h ≤ xs.length ∧ bif σ.mark then K (σ.put d (.vw id k l.toNat h.toNat)) else K ((σ.new id (.arr e k ((xs.take h.toNat).drop l.toNat))).put d (.own id))
          | _, _ => False
        | _, _ => False
      | some d, _ => match pop G σ (.slc k x lo hi) with
        | some (v, ob) => d < σ.n ∧ (G = true → ob) ∧ K (σ.put d (AV.under g G v))
        | none => False
      | _, _ => False
    | .call f args => match dst, g with
      | some d, none => d < σ.n ∧ CallAt P f K d (args.map σ.ev) (args.map fun x => σ.arg (σ.ev x)) (args.any fun x => (σ.ev x).lends) σ
      | some d, some _ => d < σ.n ∧ (G = true → valObs G σ args) ∧ CallAtG P f args (args.map fun x => σ.arg ((σ.ev x).val G).1) G K d σ
      | none, _ => False
    | .callv x args => match dst, g, σ.ev x with
      | some d, none, .pf p => match toArgs (args.map σ.ev) with
        | some as => match p as with
          | some v => d < σ.n ∧ K (σ.put d (.c (.sc v)))
          | none => False
        | none => False
      | some d, none, .fn f caps => d < σ.n ∧ CallAt P f K d (args.map σ.ev ++ caps) (args.map (fun x => σ.arg (σ.ev x)) ++ caps.map σ.arg) ((args.any fun x => (σ.ev x).lends) || caps.any AV.lends) σ
      | _, _, _ => False
    | .mkmap kk => match dst, g with
      | some d, none => d < σ.n ∧ K ((σ.new d (.map kk [])).put d (.own d))
      | _, _ => False
    | .mset kk m k v => match g, dst, σ.ev m, keyAV kk (σ.ev k), (σ.ev v).toArg with
      | none, none, .own id, some n, some v' => match obGet id σ.ob with
        | some (.map kk' es) => kk = kk' ∧ K (σ.upd id (.map kk' (mset es n v')))
        | _ => False
      | _, _, _, _, _ => False
    | .mdel kk m k => match g, σ.ev m, keyAV kk (σ.ev k) with
      | none, .own id, some n => match obGet id σ.ob with
        | some (.map kk' es) => kk = kk' ∧ match dst with
          | none => K (σ.upd id (.map kk' (mdel es n)))
          | some d => d < σ.n ∧ K ((σ.upd id (.map kk' (mdel es n))).put d (.tup []))
        | _ => False
      | _, _, _ => False
    | .mrange m => match dst, g, σ.ev m with
      | some d, none, .c (.mp kk es) => d < σ.n ∧ K ((σ.new d (.iter kk es none)).put d (.own d))
      | _, _, _ => False
    | .mnext it => match dst, g, σ.ev it with
      | some d, none, .own id => match obGet id σ.ob with
        | some (.iter kk left cur) => d < σ.n ∧ NextAt K d id kk left σ
        | _ => False
      | _, _, _ => False
    | .mentry it => match dst, g, σ.ev it with
      | some d, none, .own id => match obGet id σ.ob with
        | some (.iter kk left (some (n, v))) => d < σ.n ∧ K (σ.put d (.tup [keyAv kk n, argAV v]))
        | _ => False
      | _, _, _ => False
    | .isnil neg x => match dst, g, σ.ev x with
      | some d, none, .c .nil => d < σ.n ∧ K (σ.put d (.B (!neg)))
      | some d, none, .c .ne => d < σ.n ∧ K (σ.put d (.B neg))
      | some d, none, .c (.sl _ xs) => d < σ.n ∧ ∀ b : Bool, (b = true → xs = []) → K (σ.put d (.B (bif neg then !b else b)))
      | some d, none, .own id => match obGet id σ.ob with
        | some (.arr _ _ xs) => d < σ.n ∧ ∀ b : Bool, (b = true → xs = []) → K (σ.put d (.B (bif neg then !b else b)))
        | _ => False
      | _, _, _ => False
    | op => match dst, pop G σ op with
      | some d, some (v, ob) => d < σ.n ∧ (G = true → ob) ∧ K (σ.put d (AV.under g G v))
      | _, _ => False
def sGuard (P : Program) (K : St → Prop) (σ : St) (dst : Option Nat) (op : AK) (g : Option (Nat × Bool)) : Option Bool → Prop
  | none => False
  | some G => match g with
    | none => sBody P K σ dst op none G
    | some gg => bif op.hardK then (match G with
      | true => sBody P K σ.strip dst op none true
      | false => skipK K σ dst) else sBody P K σ dst op (some gg) G
def step1 (P : Program) (K : St → Prop) (dst : Option Nat) (op : AK) (g : Option (Nat × Bool)) (σ : St) : Prop := sGuard P K σ dst op g (guardOf σ g)
def steps (P : Program) (Q : Exit → St → Prop) : List AP → St → Prop
  | [] => fun σ => Q .normal σ
  | ⟨dst, op, g⟩ :: r => step1 P (steps P Q r) dst op g
end Go.AL

namespace Go.AL
open Go Go.RowKit
section
variable {x : Ctx} {S : Nat → Prop} {φ : Nat → Value} {σ : St} {a : Act} {w : World} {P : Program}
theorem wanted_of (hs : Sim x S φ σ a w) {all : Array Oper} {o : Oper} {g : Option (Nat × Bool)} (hc : compGuard all o.guard = some g) {G : Bool} (hG : guardOf σ g = some G) : Region.wanted o (yielded all a.tmps) = G := by
  unfold compGuard at hc
  split at hc
  · rename_i hn
    simp at hc; subst hc
    simp [guardOf] at hG; subst hG
    simp [Region.wanted, hn]
  · rename_i j want hn
    split at hc
    · rename_i s hd
      simp at hc; subst hc
      simp only [guardOf] at hG
      split at hG
      · rename_i b hb
        simp at hG
        have h1 := hs.tms s
        rw [hb] at h1
        have h2 := rd_bool h1
        have h3 : a.tmps[s]? = some (.bool b) := by
          simp only [Array.getD_eq_getD_getElem?] at h2
          cases hq : a.tmps[s]? with
          | none => rw [hq] at h2; simp [undef] at h2
          | some v => rw [hq] at h2; simp at h2; rw [h2]
        have h4 : yielded all a.tmps j = some b := by simp [yielded, hd, h3]
        simp only [Region.wanted, hn, h4]
        subst hG
        cases b <;> cases want <;> rfl
      · rename_i hh b hb
        simp at hG
        have h1 := hs.tms s
        rw [hb] at h1
        generalize hz : a.tmps.getD s undef = z at h1
        cases h1 with
        | opt h5 h0 =>
          cases hh with
          | true =>
            have h2 := rd_bool (h5 rfl)
            subst h2
            have h3 : a.tmps[s]? = some (.bool b) := by
              simp only [Array.getD_eq_getD_getElem?] at hz
              cases hq : a.tmps[s]? with
              | none => rw [hq] at hz; simp [undef] at hz
              | some v => rw [hq] at hz; simp at hz; rw [hz]
            have h4 : yielded all a.tmps j = some b := by simp [yielded, hd, h3]
            simp only [Region.wanted, hn, h4]
            subst hG
            cases b <;> cases want <;> rfl
          | false =>
            have h2 := h0 rfl
            subst h2
            have h4 : yielded all a.tmps j = none := by
              simp only [Array.getD_eq_getD_getElem?] at hz
              cases hq : a.tmps[s]? with
              | none => simp [yielded, hd, hq]
              | some v => rw [hq] at hz; simp at hz; subst hz; simp [yielded, hd, hq, undef]
            simp only [Region.wanted, hn, h4]
            subst hG
            simp
      · rename_i hb
        simp at hG
        have h1 := hs.tms s
        rw [hb] at h1
        generalize hz : a.tmps.getD s undef = z at h1
        cases h1 with
        | opt h5 h0 =>
          have h2 := h0 rfl
          subst h2
          have h4 : yielded all a.tmps j = none := by
            simp only [Array.getD_eq_getD_getElem?] at hz
            cases hq : a.tmps[s]? with
            | none => simp [yielded, hd, hq]
            | some v => rw [hq] at hz; simp at hz; subst hz; simp [yielded, hd, hq, undef]
          simp only [Region.wanted, hn, h4]
          subst hG
          simp
      · cases hG
    · cases hc
theorem wpl_val {all : Array Oper} {l : List Oper} {o : Oper} {Q : Exit → Act → World → Prop} {v : Value} {w' : World} (hg : o.guard = none) (hr : (execOp a.eval o).run P w = .ok (.value v) w')
    (hk : wpList P all Q l (a.put o.dst v) w') : wpList P all Q (o :: l) a w :=
  wpList_plain hg fun K hK => by unfold Oper.wp; rw [hr]; exact hK _ _ hk
theorem wpl_skip {all : Array Oper} {l : List Oper} {o : Oper} {Q : Exit → Act → World → Prop} {w' : World} (hg : o.guard = none) (hr : (execOp a.eval o).run P w = .ok .skip w')
    (hk : wpList P all Q l (a.put o.dst undef) w') : wpList P all Q (o :: l) a w :=
  wpList_plain hg fun K hK => by unfold Oper.wp; rw [hr]; exact hK _ _ hk
theorem wpl_enter {all : Array Oper} {l : List Oper} {o : Oper} {Q : Exit → Act → World → Prop} {f : Nat} {args : Array Value} (hg : o.guard = none) (hr : (execOp a.eval o).run P w = .ok (.enter f args) w)
    (hk : Calls P f args w fun e w' => ∃ v, e = .returned v ∧ wpList P all Q l (a.put o.dst v) w') : wpList P all Q (o :: l) a w :=
  wpList_plain hg fun K hK => by
    unfold Oper.wp; rw [hr]
    refine hk.mono ?_
    rintro e w' ⟨v, rfl, h⟩
    exact hK _ _ h
theorem wpl_guard {all : Array Oper} {l : List Oper} {o : Oper} {Q : Exit → Act → World → Prop} {G : Bool} (hw : Region.wanted o (yielded all a.tmps) = G)
    (h1 : G = true → ∀ K : Act → World → Prop, (∀ a w, wpList P all Q l a w → K a w) → o.wp P a w K Q) (h0 : G = false → wpList P all Q l (a.put o.dst undef) w) : wpList P all Q (o :: l) a w := by
  refine wpList_step fun K hK => ?_
  rw [hw]
  cases G with
  | true => exact h1 rfl K hK
  | false => exact hK _ _ (h0 rfl)
theorem under_sound {g : Option (Nat × Bool)} {G : Bool} {r : AV} {v : Value} (hg : g = none → G = true) (h : G = true → AVR x w S φ r v) (h0 : G = false → v = undef) : AVR x w S φ (AV.under g G r) v := by
  unfold AV.under
  split
  · exact h (hg rfl)
  · split
    · rename_i b u
      refine .opt (fun hb => ?_) (fun hb => ?_)
      · simp only [Bool.and_eq_true] at hb
        have := h hb.1
        cases this with
        | opt h2 => exact h2 hb.2
      · cases G with
        | false => exact h0 rfl
        | true =>
          have := h rfl
          cases this with
          | opt _ h3 => exact h3 (by simpa using hb)
    · exact .opt h h0
theorem pure_step (hs : Sim x S φ σ a w) {all : Array Oper} {l : List Oper} {o : Oper} {k : AK} {g : Option (Nat × Bool)} {d : Nat} {Q : Exit → St → Prop} {rest : List AP} (ho : compOp P o = some k) (hd : o.dst = some d) (hc : compGuard all o.guard = some g) {G : Bool} (hG : guardOf σ g = some G)
    (hdn : d < σ.n) {r : AV} {ob : Prop} (hp : pop G σ k = some (r, ob)) (hob : G = true → ob) (hx : x.P = P) (hl : compOps P all l = some rest) (hk : AL P rest Q (σ.put d (AV.under g G r))) : wpList P all (simQ x Q) (o :: l) a w := by
  have hgn : g = none → G = true := fun h => by subst h; simpa [guardOf] using hG.symm
  refine wpl_guard (wanted_of hs hc hG) (fun hGt K hK => ?_) (fun hGf => ?_)
  · subst hGt
    obtain ⟨v, hv, hrun⟩ := pop_sound (P := P) hs ho hp (hob rfl)
    unfold Oper.wp
    rw [hrun w (.inr (Ext.refl _ _))]
    refine hK _ _ ?_
    rw [hd]
    exact hk all l hl x S φ _ _ hx (hs.put hdn (under_sound hgn (fun _ => hv) (fun h => by cases h)))
  · subst hGf
    rw [hd]
    exact hk all l hl x S φ _ _ hx (hs.put hdn (under_sound hgn (fun h => by cases h) (fun _ => rfl)))
theorem compOps_cons {all : Array Oper} {l : List Oper} {p : AP} {rest : List AP} (h : compOps P all l = some (p :: rest)) :
    ∃ o l', l = o :: l' ∧ compOp P o = some p.op ∧ p.dst = o.dst ∧ compGuard all o.guard = some p.g ∧ compOps P all l' = some rest := by
  cases l with
  | nil => simp [compOps] at h
  | cons o l' =>
    simp only [compOps] at h
    split at h
    · rename_i k g as hk hg has
      simp only [Option.some.injEq, List.cons.injEq] at h
      obtain ⟨rfl, rfl⟩ := h
      exact ⟨o, l', rfl, hk, rfl, hg, has⟩
    · cases h
theorem guard_none {all : Array Oper} {o : Oper} (h : compGuard all o.guard = some none) : o.guard = none := by
  unfold compGuard at h
  split at h
  · assumption
  · split at h <;> simp at h
end
end Go.AL

namespace Go.AL
open Go Go.RowKit
section
variable {x : Ctx} {S : Nat → Prop} {φ : Nat → Value} {σ : St} {a : Act} {w : World} {P : Program}
theorem Sim.lt (hs : Sim x S φ σ a w) {d : Nat} (hd : d < σ.n) : d < 1000000 := by have := hs.small; omega
theorem new_sim (hs : Sim x S φ σ a w) (id : Nat) (hid : id < 1000000) (o : AO) (ob : Obj) (v : Value) (hv : Value.blk v = some w.heap.size) (hob : ObR x (w.alloc ob) S (setφ φ id v) o v) (ho : o.plainB = true := by rfl) :
    Sim x S (setφ φ id v) (σ.new id o) a (w.alloc ob) := by
  refine hs.renew id hid o v _ (Ext.alloc _ w ob) hob (fun b hb => ?_) ho
  rw [hv] at hb
  simp at hb; subst hb
  exact ⟨fun h => by have := (hs.dat _ h).1; omega, by simp, .inl hs.ext.size, fun i p _ hp => hs.free (Ext.refl _ _) (Nat.le_refl _) hp⟩
theorem new_data (hs : Sim x S φ σ a w) (ob : Obj) : Sim x (fun b => S b ∨ b = w.heap.size) φ σ a (w.alloc ob) := by
  refine (hs.world (Ext.alloc _ w ob)).more (fun b hb => .inl hb) fun b hb hn => ?_
  have := hb.resolve_left hn
  subst this
  exact ⟨by simp, .inr (.inl hs.ext.size), fun i p hp => hs.free (Ext.alloc _ w ob) (Nat.le_refl _) hp⟩
theorem run_box (t : TypeId) (v : Value) (w : World) : (Instr.box t v).run P w = .ok (.pointer (some ⟨w.heap.size, 0, none⟩)) (w.alloc (.cells v.cells t)) := by
  simp [Instr.box, newVar, newRow]
theorem alloc_heap (w : World) (o : Obj) : (w.alloc o).heap[w.heap.size]? = some o := by
  show (w.heap.push o)[w.heap.size]? = _
  simp
theorem box_ob {t id : Nat} {cs : List AV} {vs : List Value} (hl : vs.length = cs.length) (h : ∀ (j : Nat) (a : AV) (v : Value), cs[j]? = some a → vs[j]? = some v → AVR x w S φ a v) (h1 : ∀ v ∈ vs, v.oneCell' = true) :
    ObR x (w.alloc (.cells vs.toArray t)) S (setφ φ id (.pointer (some ⟨w.heap.size, 0, none⟩))) (.box t (purgeCs id cs)) (.pointer (some ⟨w.heap.size, 0, none⟩)) := by
  refine .box (alloc_heap w _) (by simp [purgeCs_len, hl]) (fun j u v hu hv => ?_) (by simpa using h1)
  rcases purgeCs_get id cs j u hu with rfl | ⟨h2, h3⟩
  · exact .any
  · exact ((h j u v h2 (by simpa using hv)).ext (Ext.alloc _ w _)).place (fun i hi => setφ_ne hi) h3
theorem noId_c (id : Nat) (l : List CD) : purgeCs id (l.map AV.c) = l.map AV.c := by
  induction l with
  | nil => rfl
  | cons d l ih => simp [purgeCs, AV.noId, ih]
theorem fill_seq (k : Nat) : ∀ (ps : List (Nat × Value)) (i : Nat) (vss : List (List Value)) (zs : List Value), ps.length = vss.length →
    (∀ (j : Nat) (p : Nat × Value) (us : List Value), ps[j]? = some p → vss[j]? = some us → p.1 = i + j ∧ p.2.cells = us.toArray ∧ us.length = k) → (i + ps.length) * k ≤ zs.length →
    Instr.fill (fun j => some (j * k, k)) zs.toArray ps = some (zs.take (i * k) ++ vss.flatten ++ zs.drop ((i + ps.length) * k)).toArray
  | [], i, vss, zs, hl, _, _ => by
    have : vss = [] := List.eq_nil_of_length_eq_zero (by simpa using hl.symm)
    subst this
    simp [Instr.fill]
  | (j, v) :: ps, i, vss, zs, hl, h, hle => by
    cases vss with
    | nil => simp at hl
    | cons us vss =>
      obtain ⟨h1, h2, h3⟩ := h 0 _ _ rfl rfl
      simp only [Nat.add_zero] at h1 h2
      subst h1
      unfold Instr.fill
      simp only
      have hsz : v.cells.size = k := by rw [h2]; simpa using h3
      have hle2 : j * k + k ≤ zs.length := by
        have : (j + 1) * k ≤ (j + (ps.length + 1)) * k := Nat.mul_le_mul_right _ (by omega)
        simp only [List.length_cons] at hle
        rw [Nat.add_mul, Nat.one_mul] at this; omega
      rw [if_neg (by simp [hsz]; omega)]
      have hfold := foldl_set us 0 (j * k) zs (by omega)
      simp only [Nat.add_zero] at hfold
      have hf : v.cells.zipIdx.foldl (fun (cs : Array Value) (p : Value × Nat) => cs.setIfInBounds (j * k + p.2) p.1) zs.toArray = (zs.take (j * k) ++ us ++ zs.drop (j * k + us.length)).toArray := by
        rw [← hfold, h2, ← Array.foldl_toList, Array.toList_zipIdx]
      rw [hf]
      have ih := fill_seq k ps (j + 1) vss (zs.take (j * k) ++ us ++ zs.drop (j * k + us.length)) (by simpa using hl) (fun i p u hp hu => by
        obtain ⟨q1, q2, q3⟩ := h (i + 1) p u (by simpa using hp) (by simpa using hu)
        exact ⟨by omega, q2, q3⟩) (by
        simp only [List.length_append, List.length_take, List.length_drop, List.length_cons] at hle ⊢
        rw [show j + 1 + ps.length = j + (ps.length + 1) by omega]
        omega)
      rw [ih]
      congr 2
      have e1 : (zs.take (j * k) ++ us).length = (j + 1) * k := by simp [h3, Nat.add_mul]; omega
      rw [List.take_append_of_le_length (by omega), List.take_of_length_le (by omega)]
      rw [List.drop_append, List.drop_of_length_le (by rw [e1]; exact Nat.mul_le_mul_right _ (by omega)), e1, List.drop_drop, h3]
      simp only [List.flatten_cons, List.nil_append, List.append_assoc, List.length_cons]
      congr 3
      have : (j + 1 + ps.length) * k = (j + 1) * k + ps.length * k := by rw [Nat.add_mul]
      have h4 : (j + (ps.length + 1)) * k = (j + 1) * k + ps.length * k := by rw [show j + (ps.length + 1) = (j + 1) + ps.length by omega, Nat.add_mul]
      rw [this, h4, Nat.add_mul, Nat.one_mul]
      congr 1
      omega
end
end Go.AL

namespace Go.AL
open Go Go.RowKit
section
variable {x : Ctx} {S : Nat → Prop} {φ : Nat → Value} {σ : St} {a : Act} {w : World} {P : Program}
theorem ext_setRow (w : World) (g : Nat) (cur : Array Value) : Ext (fun b => b ≠ g) w (w.setRow g cur) := by
  refine ⟨rfl, rfl, rfl, by simp [World.setRow], fun b hb _ => setRow_other w g b _ hb⟩
theorem run_storeAt {t b off : Nat} {e : TypeId} {cur : Array Value} {v : Value} {vs : List Value} {w : World} (hsz : cellsNum P t = some vs.length) (hb : w.heap[b]? = some (.cells cur e (0, 0))) (hv : v.cells = vs.toArray)
    (h1 : ∀ u ∈ vs, u.oneCell' = true) (hle : off + vs.length ≤ cur.size) :
    (Instr.storeAt t (.pointer (some ⟨b, off, none⟩)) v).run P w = .ok () (w.setRow b (cur.toList.take off ++ vs ++ cur.toList.drop (off + vs.length)).toArray) := by
  unfold cellsNum at hsz
  simp only [Option.map_eq_some_iff] at hsz
  obtain ⟨i, hi, hsz⟩ := hsz
  have := run_storeCells_at P b off e vs 0 cur w hb (by omega) h1
  simp only [Nat.add_zero] at this
  simp [Instr.storeAt, Instr.sureAddr, storeVar, run_sizeOf hi, hsz, hv, this]
theorem shape_cells {t : TypeId} {n : Option Nat} (h : shapeOf P t = some n) : cellsNum P t = some (n.getD 1) := by
  cases n with
  | none => obtain ⟨d, i, _, _, hi, hs⟩ := shapeOf_none' h; simp [cellsNum, hi, hs]
  | some m => obtain ⟨d, i, _, _, hi, hs⟩ := shapeOf_some h; simp [cellsNum, hi, hs]
theorem store_box (hs : Sim x S φ σ a w) {id off t' t : Nat} {cs as : List AV} {v : Value} {us : List Value} (ho : obGet id σ.ob = some (.box t' cs)) {n : Option Nat} (ht : shapeOf P t = some n) {p : Value} (hp : AVR x w S φ (.ptr id off) p)
    (hv : v.cells = us.toArray) (hl : us.length = as.length) (hn : as.length = n.getD 1) (hr : ∀ (j : Nat) (a : AV) (v : Value), as[j]? = some a → us[j]? = some v → AVR x w S φ a v) (h1 : ∀ u ∈ us, u.oneCell' = true) (hle : off + as.length ≤ cs.length) :
    ∃ w', (Instr.storeAt t p v).run P w = .ok () w' ∧ Sim x S φ (σ.upd id (.box t' (cs.take off ++ as ++ cs.drop (off + as.length)))) a w' := by
  cases hp with
  | @ptr _ b _ hb =>
    have h2 := hs.obs id _ ho
    generalize hq : φ id = q at h2
    cases h2 with
    | @box _ b' _ cur hg hsz hcr hc1 =>
      have : b' = b := by rw [hb] at hq; simp at hq; exact hq.symm
      subst this
      have hus : us.length = n.getD 1 := hl.trans hn
      refine ⟨_, run_storeAt (P := P) (by rw [shape_cells ht, hus]) hg hv h1 (by omega), hs.upd id _ _ _ ho ((ext_setRow w b' _).mono fun c hc hcb => hc (by subst hcb; rw [hb]; rfl)) ?_⟩
      have heS : Ext S w (w.setRow b' (cur.toList.take off ++ us ++ cur.toList.drop (off + us.length)).toArray) := (ext_setRow w b' _).mono fun c hc hcb => by
        subst hcb; exact (hs.own id _ c ho (by rw [hb]; rfl)).1 hc
      rw [hb]
      refine .box (setRow_heap w b' cur _ t' _ hg) (by simp; omega) (fun j u z hu hz => AVR.ext heS ?_) (fun z hz => ?_)
      · simp only [List.getElem?_toArray] at hz
        rcases Nat.lt_or_ge j off with hj | hj
        · rw [List.append_assoc, List.getElem?_append_left (by simp; omega), List.getElem?_take, if_pos hj] at hu hz
          exact hcr j u z hu (by simpa using hz)
        · rcases Nat.lt_or_ge j (off + as.length) with hj2 | hj2
          · have e1 : (cs.take off).length = off := by simp; omega
            have e2 : (cur.toList.take off).length = off := by simp; omega
            rw [List.append_assoc, List.getElem?_append_right (by omega), List.getElem?_append_left (by omega), e1] at hu
            rw [List.append_assoc, List.getElem?_append_right (by omega), List.getElem?_append_left (by omega), e2] at hz
            exact hr _ u z hu hz
          · have e1 : (cs.take off ++ as).length = off + as.length := by simp; omega
            have e2 : (cur.toList.take off ++ us).length = off + us.length := by simp; omega
            rw [List.getElem?_append_right (by omega), e1, List.getElem?_drop] at hu
            rw [List.getElem?_append_right (by omega), e2, List.getElem?_drop] at hz
            rw [hl] at hz
            exact hcr _ u z hu (by simpa using hz)
      · simp only [List.mem_append] at hz
        rcases hz with (hz | hz) | hz
        · exact hc1 z (List.mem_of_mem_take hz)
        · exact h1 z hz
        · exact hc1 z (List.mem_of_mem_drop hz)
theorem set_cell (L : List Value) (n : Nat) (v : Value) (hn : n < L.length) (j : Nat) : (L.take n ++ [v] ++ L.drop (n + 1)).toArray[j]? = if j = n then some v else L[j]? := by
  have e0 : (L.take n).length = n := by simp; omega
  simp only [List.getElem?_toArray]
  rcases Nat.lt_trichotomy j n with h | h | h
  · rw [if_neg (by omega), List.append_assoc, List.getElem?_append_left (by omega), List.getElem?_take, if_pos h]
  · subst h
    rw [if_pos rfl, List.append_assoc, List.getElem?_append_right (by omega), e0]
    simp
  · rw [if_neg (by omega), List.getElem?_append_right (by simp; omega), List.getElem?_drop]
    congr 1
    simp; omega
theorem store_rows (hs : Sim x S φ σ a w) {id e ek k' h d t : Nat} {xss : List (List (List CD))} {who : Option Nat} (ho : obGet id σ.ob = some (.rows e ek k' xss (some h) who)) (ht : shapeOf P t = some none) {p v : Value} (hp : AVR x w S φ (.eptr id 1 h 0) p) (hv : AVR x w S φ (.own d) v) (hi : h < xss.length) :
    ∃ w', (Instr.storeAt t p v).run P w = .ok () w' ∧ Sim x S φ (σ.upd id (.rows e ek k' xss (some h) (some d))) a w' := by
  cases hv with
  | own hone =>
  cases hp with
  | @eptr _ _ _ _ g o m cap hb =>
    have h2 := hs.obs id _ ho
    generalize hq : φ id = q at h2
    cases h2 with
    | rows0 => simp at hi
    | @rows _ _ _ _ _ _ g' o' cap' cur hg hnc hcm hsz h1 hr hd hw =>
      rw [hb] at hq
      simp only [Value.slice.injEq, Option.some.injEq, Addr.mk.injEq] at hq
      obtain ⟨⟨rfl, rfl, -⟩, rfl, rfl⟩ := hq
      have hlt : o + h * 1 + 0 < cur.toList.length := by simp; omega
      have hext := ext_setRow w g (cur.toList.take (o + h * 1 + 0) ++ [φ d] ++ cur.toList.drop (o + h * 1 + 0 + 1)).toArray
      have heS : Ext S w _ := hext.mono fun c hc hcb => by
        subst hcb; exact (hs.own id _ c ho (by rw [hb]; rfl)).1 hc
      have hcell : ∀ j, j < xss.length → (some h : Option Nat) ≠ some j → (cur.toList.take (o + h * 1 + 0) ++ [φ d] ++ cur.toList.drop (o + h * 1 + 0 + 1)).toArray[o + j]? = cur[o + j]? := fun j hj hne => by
        rw [set_cell _ _ _ hlt, if_neg (fun e => hne (by congr 1; omega))]
        simp
      have hin : ∀ c u j, j < xss.length → (some h : Option Nat) ≠ some j → cur[o + j]? = some u → Value.blk u = some c → innerB w (.rows e ek k' xss (some h) who) (φ id) c := fun c u j hj hne hu hc => by
        rw [hb]; exact ⟨cur, j, u, hg, hj, hne, hu, hc⟩
      have hwa := setRow_heap w g cur (cur.toList.take (o + h * 1 + 0) ++ [φ d] ++ cur.toList.drop (o + h * 1 + 0 + 1)).toArray e _ hg
      refine ⟨_, run_storeAt (P := P) (vs := [φ d]) (by rw [shape_cells ht]; rfl) hg (cells_one hone) (by simpa using hone) (by simp; omega), hs.updR id _ _ _ ho (hext.mono fun c hc hcb => hc (by subst hcb; rw [hb]; rfl)) ?_ ?_⟩
      · rw [hb]
        refine .rows hwa hnc hcm (by simp; omega) (fun z hz => ?_) (fun j xs hx hne => ?_) (fun i j u v b hi' hj h3 h4 h5 h6 => ?_) fun h' d' e1 e2 _ => ?_
        · simp only [List.mem_append] at hz
          rcases hz with (hz | hz) | hz
          · exact h1 z (List.mem_of_mem_take hz)
          · simp at hz; subst hz; exact hone
          · exact h1 z (List.mem_of_mem_drop hz)
        · have hj := (List.getElem?_eq_some_iff.1 hx).1
          obtain ⟨v, hv, hrow⟩ := hr j xs hx hne
          refine ⟨v, by rw [← hv]; exact hcell j hj hne, hrow.ext heS fun b hbk => hext.block b (fun e => ?_) ?_⟩
          · subst e
            exact ((hs.inr id _ b ho (hin b v j hj hne hv hbk)).2 id _ ho).1 (by rw [hb]; rfl)
          · exact (hs.inr id _ b ho (hin b v j hj hne hv hbk)).1.2.1
        · have q1 := hcell i hi' h3
          have q2 := hcell j hj h4
          rw [q1] at h5; rw [q2] at h6
          exact hd i j u v b hi' hj h3 h4 h5 h6
        · cases e1; cases e2
          have := set_cell cur.toList (o + h * 1 + 0) (φ d) hlt (o + h)
          simp only [Nat.mul_one, Nat.add_zero, if_true] at this
          simpa using this
      · intro b hbi
        rw [hb] at hbi
        obtain ⟨cur', j, u, g1, g2, g3, g4, g5⟩ := hbi
        have : cur' = (cur.toList.take (o + h * 1 + 0) ++ [φ d] ++ cur.toList.drop (o + h * 1 + 0 + 1)).toArray := by
          have := g1.symm.trans hwa
          simp only [Option.some.injEq, Obj.cells.injEq] at this
          exact this.1
        subst this
        have q1 := hcell j g2 g3
        rw [q1] at g4
        obtain ⟨⟨k1, k2, k3⟩, k4⟩ := hs.inr id _ b ho (hin b u j g2 g3 g4 g5)
        exact ⟨(k4 id _ ho).1, k1, by simpa [World.setRow] using k2, k3, fun i p hne hp => ⟨(k4 i p hp).1, fun h => hne ((k4 i p hp).2 h)⟩⟩
theorem store_arr (hs : Sim x S φ σ a w) {id e k i off t : Nat} {xs : List (List CD)} {ds : List CD} {v : Value} {us : List Value} (ho : obGet id σ.ob = some (.arr e k xs)) {n : Option Nat} (ht : shapeOf P t = some n) {p : Value} (hp : AVR x w S φ (.eptr id k i off) p)
    (hv : v.cells = us.toArray) (hl : us.length = ds.length) (hn : ds.length = n.getD 1) (hr : ∀ (j : Nat) (d : CD) (v : Value), ds[j]? = some d → us[j]? = some v → Rd w S d v) (hi : i < xs.length) (hle : off + ds.length ≤ k) :
    ∃ w', (Instr.storeAt t p v).run P w = .ok () w' ∧ Sim x S φ (σ.upd id (.arr e k (xs.set i ((xs.getD i []).take off ++ ds ++ (xs.getD i []).drop (off + ds.length))))) a w' := by
  cases hp with
  | @eptr _ _ _ _ g o m cap hb =>
    have h2 := hs.obs id _ ho
    generalize hq : φ id = q at h2
    cases h2 with
    | arr h2 =>
      cases h2 with
      | nil => simp at hi
      | @row _ g' o' cap' cur hg hnc hcm hsz hk h1 hrd =>
        rw [hb] at hq
        simp only [Value.slice.injEq, Option.some.injEq, Addr.mk.injEq] at hq
        obtain ⟨⟨rfl, rfl, -⟩, rfl, rfl⟩ := hq
        have hus : us.length = n.getD 1 := hl.trans hn
        have hu1 : ∀ u ∈ us, u.oneCell' = true := fun u hu => by
          obtain ⟨j, hj⟩ := List.getElem?_of_mem hu
          have hjl : j < ds.length := by rw [← hl]; exact (List.getElem?_eq_some_iff.1 hj).1
          exact (hr j _ u (List.getElem?_eq_getElem hjl) hj).oneCell
        have hbnd : i * k + k ≤ cap * k := by
          calc i * k + k = (i + 1) * k := by rw [Nat.add_mul, Nat.one_mul]
            _ ≤ cap * k := Nat.mul_le_mul_right _ (by omega)
        have hx : xs[i]? = some xs[i] := List.getElem?_eq_getElem hi
        have hgd : xs.getD i [] = xs[i] := by simp [List.getD, hi]
        have hxl : xs[i].length = k := hk _ (List.getElem_mem hi)
        rw [hgd]
        refine ⟨_, run_storeAt (P := P) (by rw [shape_cells ht, hus]) hg hv hu1 (by omega), hs.upd id _ _ _ ho ((ext_setRow w g _).mono fun c hc hcb => hc (by subst hcb; rw [hb]; rfl)) ?_⟩
        have heS : Ext S w (w.setRow g (cur.toList.take (o + i * k + off) ++ us ++ cur.toList.drop (o + i * k + off + us.length)).toArray) := (ext_setRow w g _).mono fun c hc hcb => by
          subst hcb; exact (hs.own id _ c ho (by rw [hb]; rfl)).1 hc
        rw [hb]
        have hlen : xs.length = (xs.set i (xs[i].take off ++ ds ++ xs[i].drop (off + ds.length))).length := by simp
        rw [hlen]
        refine .arr (.row (setRow_heap w g cur _ e _ hg) (by simpa using hnc) hcm (by simp; omega) (fun y hy => ?_) (fun z hz => ?_) fun i' j y d hy hd => ?_)
        · rcases List.mem_or_eq_of_mem_set hy with hy | rfl
          · exact hk y hy
          · simp [hxl]; omega
        · simp only [List.mem_append] at hz
          rcases hz with (hz | hz) | hz
          · exact h1 z (List.mem_of_mem_take hz)
          · exact hu1 z hz
          · exact h1 z (List.mem_of_mem_drop hz)
        · -- where the cell lies
          have hcase : (i' ≠ i ∧ xs[i']? = some y) ∨ (i' = i ∧ y = xs[i].take off ++ ds ++ xs[i].drop (off + ds.length)) := by
            rw [List.getElem?_set] at hy
            split at hy
            · rename_i he
              subst he
              simp at hy; exact .inr ⟨rfl, by rw [← hy]; simp⟩
            · rename_i he; exact .inl ⟨fun e => he e.symm, hy⟩
          have hjk : j < k := by
            have hyl : y.length = k := by
              rcases hcase with ⟨_, h⟩ | ⟨_, rfl⟩
              · exact hk y (List.mem_of_getElem? h)
              · simp [hxl]; omega
            rw [← hyl]; exact (List.getElem?_eq_some_iff.1 hd).1
          have hold : ∀ d', xs[i']? ≠ none → (∃ y', xs[i']? = some y' ∧ y'[j]? = some d') → (o + (i' * k + j) < o + i * k + off ∨ o + i * k + off + us.length ≤ o + (i' * k + j)) →
              ∃ v, (cur.toList.take (o + i * k + off) ++ us ++ cur.toList.drop (o + i * k + off + us.length)).toArray[o + (i' * k + j)]? = some v ∧ Rd w S d' v := by
            intro d' _ ⟨y', hy', hd'⟩ hpos
            obtain ⟨v, hv, hrv⟩ := hrd i' j y' d' hy' hd'
            refine ⟨v, ?_, hrv⟩
            have hlt : o + (i' * k + j) < cur.size := (Array.getElem?_eq_some_iff.1 hv).1
            have hbd : o + i * k + off + us.length ≤ cur.size := by omega
            simp only [List.getElem?_toArray]
            rcases hpos with hpos | hpos
            · rw [List.append_assoc, List.getElem?_append_left (by simp; omega), List.getElem?_take, if_pos hpos]
              simpa using hv
            · have e2 : (cur.toList.take (o + i * k + off) ++ us).length = o + i * k + off + us.length := by simp; omega
              rw [List.getElem?_append_right (by omega), e2, List.getElem?_drop, show o + i * k + off + us.length + (o + (i' * k + j) - (o + i * k + off + us.length)) = o + (i' * k + j) by omega]
              simpa using hv
          have hmono : ∀ {d' : CD} {v : Value}, Rd w S d' v → Rd (w.setRow g (cur.toList.take (o + i * k + off) ++ us ++ cur.toList.drop (o + i * k + off + us.length)).toArray) S d' v := fun h => h.ext heS
          rcases hcase with ⟨hne, hy'⟩ | ⟨rfl, rfl⟩
          · have hpos : o + (i' * k + j) < o + i * k + off ∨ o + i * k + off + us.length ≤ o + (i' * k + j) := by
              rcases Nat.lt_or_gt_of_ne hne with h | h
              · left
                have : (i' + 1) * k ≤ i * k := Nat.mul_le_mul_right _ h
                rw [Nat.add_mul, Nat.one_mul] at this; omega
              · right
                have : (i + 1) * k ≤ i' * k := Nat.mul_le_mul_right _ h
                rw [Nat.add_mul, Nat.one_mul] at this; omega
            obtain ⟨v, hv, hrv⟩ := hold d (by rw [hy']; simp) ⟨y, hy', hd⟩ hpos
            exact ⟨v, hv, hmono hrv⟩
          · have e0 : (xs[i'].take off).length = off := by simp; omega
            rcases Nat.lt_or_ge j off with hj | hj
            · rw [List.append_assoc, List.getElem?_append_left (by omega), List.getElem?_take, if_pos hj] at hd
              obtain ⟨v, hv, hrv⟩ := hold d (by rw [hx]; simp) ⟨_, hx, hd⟩ (.inl (by omega))
              exact ⟨v, hv, hmono hrv⟩
            · rcases Nat.lt_or_ge j (off + ds.length) with hj2 | hj2
              · rw [List.append_assoc, List.getElem?_append_right (by omega), List.getElem?_append_left (by omega), e0] at hd
                have hjl : j - off < us.length := by omega
                refine ⟨us[j - off], ?_, hmono (hr _ d _ hd (List.getElem?_eq_getElem hjl))⟩
                have e2 : (cur.toList.take (o + i' * k + off)).length = o + i' * k + off := by simp; omega
                simp only [List.getElem?_toArray]
                rw [List.append_assoc, List.getElem?_append_right (by omega), List.getElem?_append_left (by omega), e2, show o + (i' * k + j) - (o + i' * k + off) = j - off by omega]
                exact List.getElem?_eq_getElem hjl
              · have e1 : (xs[i'].take off ++ ds).length = off + ds.length := by simp; omega
                rw [List.getElem?_append_right (by omega), e1, List.getElem?_drop, show off + ds.length + (j - (off + ds.length)) = j by omega] at hd
                obtain ⟨v, hv, hrv⟩ := hold d (by rw [hx]; simp) ⟨_, hx, hd⟩ (.inr (by omega))
                exact ⟨v, hv, hmono hrv⟩
end
end Go.AL

namespace Go.AL
open Go Go.RowKit
section
variable {x : Ctx} {S : Nat → Prop} {φ : Nat → Value} {σ : St} {a : Act} {w : World} {P : Program}
def CellsAt (w : World) (S : Nat → Prop) (k : Nat) (ys : List (List CD)) (A : Option Addr) : Prop :=
  (ys = [] ∨ ∃ (ad : Addr) (vs : List Value), A = some ad ∧ vs.length = ys.length * k ∧ (∀ (j : Nat) (v : Value), vs[j]? = some v → w.cell? (ad.add j) = some v) ∧ (∀ v ∈ vs, v.oneCell' = true) ∧
    ∀ (i j : Nat) (y : List CD) (d : CD), ys[i]? = some y → y[j]? = some d → ∃ v, vs[i * k + j]? = some v ∧ Rd w S d v) ∧ ∀ y ∈ ys, y.length = k
theorem idx_lt {i j k n : Nat} (hi : i < n) (hj : j < k) : i * k + j < n * k := by
  calc i * k + j < i * k + k := by omega
    _ = (i + 1) * k := by rw [Nat.add_mul, Nat.one_mul]
    _ ≤ n * k := Nat.mul_le_mul_right _ hi
theorem cells_data {k : Nat} {ys : List (List CD)} {v : Value} (h : Rd w S (.sl k ys) v) : ∃ A cap, v = .slice A ys.length cap ∧ CellsAt w S k ys A := by
  cases h with
  | sl0 hc hA => exact ⟨_, _, rfl, .inl rfl, by simp⟩
  | @sl _ _ ad cap vs hn hc hS hk hcell hrd =>
    refine ⟨some ad, cap, rfl, ?_, hk⟩
    rcases Nat.eq_zero_or_pos k with hk0 | hk0
    · subst hk0
      refine .inr ⟨ad, [], rfl, by simp, fun j v hv => by simp at hv, fun v hv => by simp at hv, fun i j y d hy hd => ?_⟩
      have := hk y (List.mem_of_getElem? hy)
      have : j < y.length := (List.getElem?_eq_some_iff.1 hd).1
      omega
    · refine .inr ⟨ad, (List.range (ys.length * k)).map fun m => vs (m / k) (m % k), rfl, by simp, fun j v hv => ?_, fun v hv => ?_, fun i j y d hy hd => ?_⟩
      · simp only [List.getElem?_map, Option.map_eq_some_iff] at hv
        obtain ⟨m, hm, rfl⟩ := hv
        obtain ⟨hj, hm⟩ := List.getElem?_eq_some_iff.1 hm
        simp at hm hj; subst hm
        have h1 : j / k < ys.length := Nat.div_lt_of_lt_mul (by rw [Nat.mul_comm]; exact hj)
        have h2 : j % k < k := Nat.mod_lt _ hk0
        have := hcell (j / k) (j % k) h1 h2
        rwa [show j / k * k + j % k = j by rw [Nat.mul_comm]; exact Nat.div_add_mod j k] at this
      · simp only [List.mem_map, List.mem_range] at hv
        obtain ⟨m, hm, rfl⟩ := hv
        have h1 : m / k < ys.length := Nat.div_lt_of_lt_mul (by rw [Nat.mul_comm]; exact hm)
        have h2 : m % k < k := Nat.mod_lt _ hk0
        have hy : ys[m / k]? = some ys[m / k] := List.getElem?_eq_getElem h1
        have hl := hk _ (List.getElem_mem h1)
        exact (hrd _ (m % k) _ _ hy (List.getElem?_eq_getElem (by omega))).oneCell
      · have hi : i < ys.length := (List.getElem?_eq_some_iff.1 hy).1
        have hyl := hk y (List.mem_of_getElem? hy)
        have hj : j < k := by rw [← hyl]; exact (List.getElem?_eq_some_iff.1 hd).1
        have hlt := idx_lt hi hj
        refine ⟨vs i j, ?_, hrd i j y d hy hd⟩
        simp only [List.getElem?_map, List.getElem?_range hlt, Option.map_some]
        have e1 : (i * k + j) / k = i := by rw [Nat.mul_comm, Nat.mul_add_div hk0, Nat.div_eq_of_lt hj]; rfl
        have e2 : (i * k + j) % k = j := by rw [Nat.mul_comm, Nat.mul_add_mod, Nat.mod_eq_of_lt hj]
        rw [e1, e2]
theorem cells_arr {e k : Nat} {ys : List (List CD)} {v : Value} (h : ArrR w S e k ys v) : ∃ A cap, v = .slice A ys.length cap ∧ CellsAt w S k ys A := by
  cases h with
  | nil => exact ⟨none, 0, rfl, .inl rfl, by simp⟩
  | @row _ g o cap cur hg hn hc hs hk h1 hrd =>
    have hle : ys.length * k ≤ cap * k := Nat.mul_le_mul_right _ hn
    refine ⟨_, _, rfl, .inr ⟨_, (cur.toList.drop o).take (ys.length * k), rfl, by simp; omega, fun j v hv => ?_, fun v hv => h1 v (List.mem_of_mem_drop (List.mem_of_mem_take hv)), fun i j y d hy hd => ?_⟩, hk⟩
    · rw [addr_add, cell_of_row w g _ cur e (0, 0) hg]
      rw [List.getElem?_take] at hv
      split at hv
      · rw [List.getElem?_drop] at hv; simpa using hv
      · cases hv
    · obtain ⟨v, hv, hr⟩ := hrd i j y d hy hd
      have hi : i < ys.length := (List.getElem?_eq_some_iff.1 hy).1
      have hj : j < k := by rw [← hk y (List.mem_of_getElem? hy)]; exact (List.getElem?_eq_some_iff.1 hd).1
      refine ⟨v, ?_, hr⟩
      rw [List.getElem?_take, if_pos (idx_lt hi hj), List.getElem?_drop]
      simpa using hv
theorem view_cells (hs : Sim x S φ σ a w) {k : Nat} {r : AV} {ys : List (List CD)} (hv : σ.view k r = some ys) {v : Value} (h : AVR x w S φ r v) : ∃ A cap, v = .slice A ys.length cap ∧ CellsAt w S k ys A := by
  unfold St.view at hv
  split at hv
  · rename_i k' xs
    cases hb : Nat.beq k k' with
    | false => rw [hb] at hv; cases hv
    | true =>
      have := Nat.eq_of_beq_eq_true hb; subst this
      rw [hb] at hv; simp at hv; subst hv
      cases h with
      | c h => exact cells_data h
  · simp at hv; subst hv
    cases h with
    | c h => cases h; exact ⟨none, 0, rfl, .inl rfl, by simp⟩
  · rename_i id
    split at hv
    · rename_i e k' xs ho
      cases hb : Nat.beq k k' with
      | false => rw [hb] at hv; cases hv
      | true =>
        have := Nat.eq_of_beq_eq_true hb; subst this
        rw [hb] at hv; simp at hv; subst hv
        have h3 := hs.obs id _ ho
        cases h
        cases h3 with
        | arr h3 => exact cells_arr h3
    · cases hv
  · rename_i id kv lo hi
    cases hb : (Nat.beq lo 0 && Nat.beq k kv) with
    | false => rw [hb] at hv; cases hv
    | true =>
      rw [hb] at hv
      simp only [cond_true] at hv
      simp only [Bool.and_eq_true] at hb
      have hlo := Nat.eq_of_beq_eq_true hb.1
      have hkv := Nat.eq_of_beq_eq_true hb.2
      subst hlo; subst hkv
      split at hv
      · rename_i e k' xs ho
        cases hb2 : Nat.beq k k' with
        | false => rw [hb2] at hv; cases hv
        | true =>
          have := Nat.eq_of_beq_eq_true hb2; subst this
          rw [hb2] at hv; simp at hv; subst hv
          have h3 := hs.obs id _ ho
          generalize hz : φ id = z at h3
          cases h with
          | @vw _ _ _ _ n cap A hφ hh =>
            rw [hz] at hφ
            subst hφ
            cases h3 with
            | arr h3 =>
              obtain ⟨A', cap', e1, hn', hcm'⟩ := arr_cases h3
              simp only [Value.slice.injEq] at e1
              obtain ⟨rfl, rfl, rfl⟩ := e1
              have hAA : (if cap = 0 then A else A.map (fun x => x.add (0 * k))) = A := by
                split
                · rfl
                · cases A with
                  | none => rfl
                  | some a => simp [Addr.add]
              have hlen : (xs.take hi).length = hi := by simp; omega
              refine ⟨A, cap - 0, by rw [hAA, hlen, Nat.sub_zero], ?_⟩
              obtain ⟨A2, cap2, e2, hc2⟩ := cells_arr h3
              simp only [Value.slice.injEq] at e2
              obtain ⟨rfl, _, _⟩ := e2
              obtain ⟨hc3, hxk⟩ := hc2
              refine ⟨?_, fun y hy => hxk y (List.mem_of_mem_take hy)⟩
              rcases hc3 with rfl | ⟨ad, vs, rfl, hvl, hcell, hv1, hvr⟩
              · left; simp
              · right
                have hle : hi * k ≤ xs.length * k := Nat.mul_le_mul_right _ hh.2
                refine ⟨ad, vs.take (hi * k), rfl, by rw [List.length_take, hlen]; omega, fun j v hj => ?_, fun v hv => hv1 v (List.mem_of_mem_take hv), fun i j y d hy hd => ?_⟩
                · rw [List.getElem?_take] at hj
                  split at hj
                  · exact hcell j v hj
                  · cases hj
                · rw [List.getElem?_take] at hy
                  split at hy
                  · rename_i hil
                    obtain ⟨v, hv, hr⟩ := hvr i j y d hy hd
                    have hjk : j < k := by rw [← hxk y (List.mem_of_getElem? hy)]; exact (List.getElem?_eq_some_iff.1 hd).1
                    have := idx_lt hil hjk
                    exact ⟨v, by rw [List.getElem?_take, if_pos this]; exact hv, hr⟩
                  · cases hy
      · cases hv
  · cases hv
theorem size_zeroC (z : Array Value) (n : Nat) : (Builtin.zeroCells z n).size = n * z.size := by simp [Builtin.zeroCells]
theorem zero_one (z : Array Value) (n : Nat) (hz : ∀ v ∈ z.toList, v.oneCell' = true) (hne : 0 < z.size) : ∀ v ∈ (Builtin.zeroCells z n).toList, v.oneCell' = true := by
  intro v hv
  simp only [Builtin.zeroCells, Array.toList_map, List.mem_map] at hv
  obtain ⟨m, _, rfl⟩ := hv
  have hlt : m % z.size < z.size := Nat.mod_lt _ hne
  rw [getElem!_pos z (m % z.size) hlt]
  exact hz _ (by simp)
theorem run_app {t ty e k bytes : Nat} {xs ys : List (List CD)} {p v : Value} {i : TypeInfo} {z : Value} (ht : P.underlying t = some (.slice e)) (hi : P.info? e = some i) (hz : i.zero = some z) (hk : i.size = k) (hby : i.bytes = bytes)
    (hzs : z.cells.size = k) (hz1 : ∀ v ∈ z.cells.toList, v.oneCell' = true) (hk0 : 0 < k) (hp : ArrR w S e k xs p) {A : Option Addr} {cap2 : Nat} (hv : v = .slice A ys.length cap2) (hc : CellsAt w S k ys A)
    (hb : (xs.length + ys.length) * bytes ≤ 140737488355328) (hm : xs.length + ys.length ≤ maxLen) :
    ∃ p' w', (Builtin.append_ #[t, t] ty #[p, v]).run P w = .ok p' w' ∧ Ext (fun b => Value.blk p ≠ some b) w w' ∧
      (∀ (S' : Nat → Prop), (∀ b, S b → S' b) → Ext S w w' → ArrR w' S' e k (xs ++ ys) p') ∧ (∀ b, Value.blk p' = some b → Value.blk p = some b ∨ (w.heap.size ≤ b ∧ b < w'.heap.size)) := by
  obtain ⟨hc, hyk⟩ := hc
  have hzc : z.cells.size ≠ 0 := by omega
  subst hv
  rcases hc with hy0 | ⟨ad, vs, rfl, hvl, hcell, hv1, hvr⟩
  · -- nothing is appended
    subst hy0
    have hlen : ∃ A' n cap, p = .slice A' n cap ∧ n ≤ cap := by
      cases hp with
      | nil => exact ⟨none, 0, 0, rfl, Nat.le_refl _⟩
      | row _ hn => exact ⟨_, _, _, rfl, hn⟩
    obtain ⟨A', n, cap, hp', hn⟩ := hlen
    refine ⟨p, w, ?_, Ext.refl _ _, fun S' hS he => by simpa using hp.mono hS, fun b hb => .inl hb⟩
    subst hp'
    cases A <;> cases A' <;> simp [Builtin.append_, run_underlying ht, sizeOf, typeInfo, hi, Builtin.lenOf, hn, Builtin.firstCells, loadCells, loadCellsFrom, storeCells]
  · rcases Nat.eq_zero_or_pos ys.length with hy0 | hypos
    · have : ys = [] := List.eq_nil_of_length_eq_zero hy0
      subst this
      have hlen : ∃ A' n cap, p = .slice A' n cap ∧ n ≤ cap := by
        cases hp with
        | nil => exact ⟨none, 0, 0, rfl, Nat.le_refl _⟩
        | row _ hn => exact ⟨_, _, _, rfl, hn⟩
      obtain ⟨A', n, cap, hp', hn⟩ := hlen
      refine ⟨p, w, ?_, Ext.refl _ _, fun S' hS he => by simpa using hp.mono hS, fun b hb => .inl hb⟩
      subst hp'
      cases A' <;> simp [Builtin.append_, run_underlying ht, sizeOf, typeInfo, hi, Builtin.lenOf, hn, Builtin.firstCells, loadCells, loadCellsFrom, storeCells]
    · have hlk : ∀ y ∈ xs ++ ys, y.length = k := fun y hy => by
        rcases List.mem_append.1 hy with h | h
        · cases hp with
          | nil => simp at h
          | row _ _ _ _ hk _ _ => exact hk y h
        · exact hyk y h
      have hmm : xs.length + ys.length ≤ 9223372036854775807 := by unfold maxLen at hm; omega
      cases hp with
      | nil =>
        have hr := run_append_nil (P := P) w t ty e i z ht hi hz ad ys.length cap2 vs (by rw [hvl, hk]) hcell hypos (by simp at hmm; omega) (by simp at hb; rw [hby]; omega)
        refine ⟨_, _, hr, (Ext.drew _ w).trans (Ext.alloc _ w.drew _), fun S' hS he => ?_, fun b hb => .inr ?_⟩
        · have hge := grownCap_ge w ys.length 0 e
          have hcm := grownCap_le_maxLen w ys.length 0 e (by simpa using hm)
          have hl0 : ys.length = ([] ++ ys : List (List CD)).length := by simp
          rw [show (Value.slice (some ⟨w.heap.size, 0, none⟩) ys.length (grownCap w ys.length 0 e)) = .slice (some ⟨w.heap.size, 0, none⟩) ([] ++ ys : List (List CD)).length (grownCap w ys.length 0 e) by rw [← hl0]]
          refine .row (alloc_heap w.drew _) (by simpa using hge) hcm ?_ hlk (fun u hu => ?_) fun i' j y d hy hd => ?_
          · simp only [Array.size_append, List.size_toArray, size_zeroC, hzs, hvl, ← Nat.add_mul]
            rw [Nat.zero_add]
            exact Nat.mul_le_mul_right _ (by omega)
          · simp only [Array.toList_append, List.mem_append] at hu
            rcases hu with hu | hu
            · exact hv1 u hu
            · exact zero_one _ _ hz1 (by omega) u hu
          · obtain ⟨u, hu, hru⟩ := hvr i' j y d (by simpa using hy) hd
            refine ⟨u, ?_, (hru.ext he).mono hS⟩
            have hlt : i' * k + j < vs.length := (List.getElem?_eq_some_iff.1 hu).1
            rw [Nat.zero_add, Array.getElem?_append_left (by simpa using hlt)]
            simpa using hu
        · simp [Value.blk] at hb; subst hb; simp
      | @row _ g o cap cur hg hn hcm hs hk' h1 hrd =>
        have hxk : xs.length * k ≤ cap * k := Nat.mul_le_mul_right _ hn
        by_cases hroom : xs.length + ys.length ≤ cap
        · have hfit : o + xs.length * k + vs.length ≤ cur.size := by
            have : (xs.length + ys.length) * k ≤ cap * k := Nat.mul_le_mul_right _ hroom
            rw [Nat.add_mul] at this; omega
          have hf := run_firstCells_some (P := P) w i.size ys.length ad ys.length cap2 vs (by rw [hvl, hk]) hcell
          rw [hk] at hf
          have hst := run_storeCells_at P g (o + xs.length * k) e vs 0 cur w hg (by omega) hv1
          simp only [Nat.add_zero] at hst
          refine ⟨.slice (some ⟨g, o, none⟩) (xs.length + ys.length) cap, w.setRow g (cur.toList.take (o + xs.length * k) ++ vs ++ cur.toList.drop (o + xs.length * k + vs.length)).toArray, ?_, (ext_setRow w g _).mono fun b hb e => hb (by subst e; rfl), fun S' hS he => ?_, fun b hb => .inl hb⟩
          · simp [Builtin.append_, run_underlying ht, sizeOf, typeInfo, hi, Builtin.lenOf, hroom, hf, hk, addr_add, hst]
          · rw [show xs.length + ys.length = (xs ++ ys).length by simp]
            refine .row (setRow_heap w g cur _ e _ hg) (by simpa using hroom) hcm (by simp; omega) hlk (fun u hu => ?_) fun i' j y d hy hd => ?_
            · simp only [List.mem_append] at hu
              rcases hu with (hu | hu) | hu
              · exact h1 u (List.mem_of_mem_take hu)
              · exact hv1 u hu
              · exact h1 u (List.mem_of_mem_drop hu)
            · have hjk : j < k := by rw [← hlk y (List.mem_of_getElem? hy)]; exact (List.getElem?_eq_some_iff.1 hd).1
              have e0 : (cur.toList.take (o + xs.length * k)).length = o + xs.length * k := by simp; omega
              simp only [List.getElem?_toArray]
              rcases Nat.lt_or_ge i' xs.length with hil | hil
              · rw [List.getElem?_append_left hil] at hy
                obtain ⟨u, hu, hru⟩ := hrd i' j y d hy hd
                have := idx_lt hil hjk
                refine ⟨u, ?_, (hru.ext he).mono hS⟩
                rw [List.append_assoc, List.getElem?_append_left (by omega), List.getElem?_take, if_pos (by omega)]
                simpa using hu
              · rw [List.getElem?_append_right hil] at hy
                obtain ⟨u, hu, hru⟩ := hvr (i' - xs.length) j y d hy hd
                have hlt : (i' - xs.length) * k + j < vs.length := (List.getElem?_eq_some_iff.1 hu).1
                have hmul : i' * k = xs.length * k + (i' - xs.length) * k := by rw [← Nat.add_mul]; congr 1; omega
                refine ⟨u, ?_, (hru.ext he).mono hS⟩
                rw [List.append_assoc, List.getElem?_append_right (by omega), List.getElem?_append_left (by omega), e0, show o + (i' * k + j) - (o + xs.length * k) = (i' - xs.length) * k + j by omega]
                exact hu
        · have hol : ((cur.toList.drop o).take (xs.length * k)).length = xs.length * k := by simp; omega
          have hoc : ∀ (j : Nat) (v : Value), ((cur.toList.drop o).take (xs.length * k))[j]? = some v → w.cell? ((⟨g, o, none⟩ : Addr).add j) = some v := fun j v hv => by
            rw [addr_add, cell_of_row w g _ cur e (0, 0) hg]
            rw [List.getElem?_take] at hv
            split at hv
            · rw [List.getElem?_drop] at hv; simpa using hv
            · cases hv
          have hr := run_append_grow (P := P) w t ty e i z ht hi hz ⟨g, o, none⟩ xs.length cap _ (by rw [hol, hk]) hoc ad ys.length cap2 vs (by rw [hvl, hk]) hcell (by omega) (by omega) (growslice_fits (by omega) (by rw [hby]; exact hb))
          refine ⟨_, _, hr, (Ext.drew _ w).trans (Ext.alloc _ w.drew _), fun S' hS he => ?_, fun b hb => .inr ?_⟩
          · have hge := grownCap_ge w (xs.length + ys.length) cap e
            have hcm' := grownCap_le_maxLen w (xs.length + ys.length) cap e hm
            rw [show (Value.slice (some ⟨w.heap.size, 0, none⟩) (xs.length + ys.length) (grownCap w (xs.length + ys.length) cap e)) = .slice (some ⟨w.heap.size, 0, none⟩) (xs ++ ys).length (grownCap w (xs.length + ys.length) cap e) by simp]
            refine .row (alloc_heap w.drew _) (by simpa using hge) hcm' ?_ hlk (fun u hu => ?_) fun i' j y d hy hd => ?_
            · simp only [Array.size_append, List.size_toArray, size_zeroC, hzs, hvl, hol, ← Nat.add_mul]
              rw [Nat.zero_add]
              exact Nat.mul_le_mul_right _ (by omega)
            · simp only [Array.toList_append, List.mem_append] at hu
              rcases hu with (hu | hu) | hu
              · exact h1 u (List.mem_of_mem_drop (List.mem_of_mem_take hu))
              · exact hv1 u hu
              · exact zero_one _ _ hz1 (by omega) u hu
            · have hjk : j < k := by rw [← hlk y (List.mem_of_getElem? hy)]; exact (List.getElem?_eq_some_iff.1 hd).1
              rw [Nat.zero_add]
              rcases Nat.lt_or_ge i' xs.length with hil | hil
              · rw [List.getElem?_append_left hil] at hy
                obtain ⟨u, hu, hru⟩ := hrd i' j y d hy hd
                have := idx_lt hil hjk
                refine ⟨u, ?_, (hru.ext he).mono hS⟩
                rw [Array.getElem?_append_left (by simp only [Array.size_append, List.size_toArray, hol]; omega), Array.getElem?_append_left (by simp only [List.size_toArray, hol]; omega)]
                rw [List.getElem?_toArray, List.getElem?_take, if_pos (by omega), List.getElem?_drop]
                simpa using hu
              · rw [List.getElem?_append_right hil] at hy
                obtain ⟨u, hu, hru⟩ := hvr (i' - xs.length) j y d hy hd
                have hlt : (i' - xs.length) * k + j < vs.length := (List.getElem?_eq_some_iff.1 hu).1
                have hmul : i' * k = xs.length * k + (i' - xs.length) * k := by rw [← Nat.add_mul]; congr 1; omega
                refine ⟨u, ?_, (hru.ext he).mono hS⟩
                rw [Array.getElem?_append_left (by simp only [Array.size_append, List.size_toArray, hol]; omega), Array.getElem?_append_right (by simp only [List.size_toArray, hol]; omega)]
                simp only [List.size_toArray, hol, List.getElem?_toArray]
                rw [show i' * k + j - xs.length * k = (i' - xs.length) * k + j by omega]
                exact hu
          · simp [Value.blk] at hb; subst hb; simp
theorem run_copy {t ty e k lo cap : Nat} {xs ys : List (List CD)} {A0 : Option Addr} {i : TypeInfo} (ht : P.underlying t = some (.slice e)) (hi : P.info? e = some i) (hk : i.size = k) (hk0 : 0 < k) (h : ArrR w S e k xs (.slice A0 xs.length cap)) (hl : lo ≤ xs.length) (hS : ∀ b, Value.blk (.slice A0 xs.length cap) = some b → ¬ S b)
    {A : Option Addr} {cap2 : Nat} (hc : CellsAt w S k ys A) :
    ∃ w', (Builtin.copy_ #[t, t] ty #[.slice (if cap = lo then A0 else A0.map (·.add (lo * k))) (xs.length - lo) (cap - lo), .slice A ys.length cap2]).run P w = .ok (.int .i64 (min ys.length (xs.length - lo) : Nat)) w' ∧ Ext (fun b => Value.blk (.slice A0 xs.length cap) ≠ some b) w w' ∧
      ArrR w' S e k (xs.take lo ++ ys.take (xs.length - lo) ++ xs.drop (lo + ys.length)) (.slice A0 xs.length cap) := by
  obtain ⟨hc, hyk⟩ := hc
  have hmn : Nat.min ys.length (xs.length - lo) = min ys.length (xs.length - lo) := rfl
  rcases Nat.eq_zero_or_pos (min ys.length (xs.length - lo)) with hm0 | hmpos
  · have hlist : xs.take lo ++ ys.take (xs.length - lo) ++ xs.drop (lo + ys.length) = xs := by
      rcases Nat.eq_zero_or_pos ys.length with h0 | h0
      · have : ys = [] := List.eq_nil_of_length_eq_zero h0
        subst this; simp
      · have : lo = xs.length := by omega
        subst this; simp
    refine ⟨w, ?_, Ext.refl _ _, by rw [hlist]; exact h⟩
    rw [hm0]
    have hfc : (Builtin.firstCells i.size 0 (.slice A ys.length cap2)).run P w = .ok #[] w := by
      cases A <;> simp [Builtin.firstCells, loadCells, loadCellsFrom]
    generalize (if cap = lo then A0 else A0.map (·.add (lo * k))) = B
    cases B <;> simp [Builtin.copy_, run_underlying ht, sizeOf, typeInfo, hi, Builtin.lenOf, hmn, hm0, hfc, storeCells, goInt]
  · rcases hc with rfl | ⟨ad, vs, rfl, hvl, hcell, hv1, hvr⟩
    · simp at hmpos
    · generalize hn : xs.length = n at *
      generalize hv : Value.slice A0 n cap = v at h
      cases h with
      | nil => simp at hn; omega
      | @row _ g o cap' cur hg hn' hcm hs hk' h1 hrd =>
        simp only [Value.slice.injEq] at hv
        obtain ⟨rfl, hv2, rfl⟩ := hv
        have hcl : ¬ cap = lo := by omega
        generalize hm : min ys.length (n - lo) = m at *
        have hmk : m * k ≤ ys.length * k := Nat.mul_le_mul_right _ (by omega)
        have hnl : lo * k + m * k ≤ n * k := by rw [← Nat.add_mul]; exact Nat.mul_le_mul_right _ (by omega)
        have hnk : n * k ≤ cap * k := Nat.mul_le_mul_right _ (by omega)
        have hul : (vs.take (m * k)).length = m * k := by rw [List.length_take]; omega
        have hu1 : ∀ v ∈ vs.take (m * k), v.oneCell' = true := fun v hv => hv1 v (List.mem_of_mem_take hv)
        have hf := run_firstCells_some (P := P) w i.size m ad ys.length cap2 (vs.take (m * k)) (by rw [hul, hk]) (fun j v hj => by
          rw [List.getElem?_take] at hj
          split at hj
          · exact hcell j v hj
          · cases hj)
        rw [hk] at hf
        have hst := run_storeCells_at P g (o + lo * k) e (vs.take (m * k)) 0 cur w hg (by omega) hu1
        simp only [Nat.add_zero] at hst
        have hext : Ext (fun b => b ≠ g) w (w.setRow g (cur.toList.take (o + lo * k) ++ vs.take (m * k) ++ cur.toList.drop (o + lo * k + (vs.take (m * k)).length)).toArray) := ext_setRow w g _
        have hgS : ¬ S g := hS g (by simp [Value.blk])
        have heS := hext.mono (T := S) fun b hb e => hgS (e ▸ hb)
        refine ⟨_, ?_, hext.mono fun b hb e => hb (by subst e; rfl), ?_⟩
        · rw [if_neg hcl]
          simp only [Option.map_some, addr_add]
          simp [Builtin.copy_, run_underlying ht, sizeOf, typeInfo, hi, Builtin.lenOf, hmn, hm, hk, hf, hst, goInt]
        · have etake : ys.take (n - lo) = ys.take m := by
            rcases Nat.le_total ys.length (n - lo) with h2 | h2
            · rw [List.take_of_length_le h2, List.take_of_length_le (by omega)]
            · congr 1; omega
          have edrop : xs.drop (lo + ys.length) = xs.drop (lo + m) := by
            rcases Nat.le_total ys.length (n - lo) with h2 | h2
            · congr 1; omega
            · rw [List.drop_of_length_le (by omega), List.drop_of_length_le (by omega)]
          rw [etake, edrop]
          have hlen : (xs.take lo ++ ys.take m ++ xs.drop (lo + m)).length = n := by simp; omega
          suffices hR : ArrR (w.setRow g (cur.toList.take (o + lo * k) ++ vs.take (m * k) ++ cur.toList.drop (o + lo * k + (vs.take (m * k)).length)).toArray) S e k (xs.take lo ++ ys.take m ++ xs.drop (lo + m)) (.slice (some ⟨g, o, none⟩) (xs.take lo ++ ys.take m ++ xs.drop (lo + m)).length cap) by
            rw [hlen] at hR
            rw [← hv2]; exact hR
          have e0 : (cur.toList.take (o + lo * k)).length = o + lo * k := by simp; omega
          have etl : (xs.take lo).length = lo := by simp; omega
          have ety : (ys.take m).length = m := by simp; omega
          refine .row (setRow_heap w g cur _ e _ hg) (by omega) hcm (by simp; omega) (fun y hy => ?_) (fun u hu => ?_) fun i' j y d hy hd => ?_
          · simp only [List.mem_append] at hy
            rcases hy with (hy | hy) | hy
            · exact hk' y (List.mem_of_mem_take hy)
            · exact hyk y (List.mem_of_mem_take hy)
            · exact hk' y (List.mem_of_mem_drop hy)
          · simp only [List.mem_append] at hu
            rcases hu with (hu | hu) | hu
            · exact h1 u (List.mem_of_mem_take hu)
            · exact hu1 u hu
            · exact h1 u (List.mem_of_mem_drop hu)
          · simp only [List.getElem?_toArray]
            rcases Nat.lt_or_ge i' lo with hil | hil
            · rw [List.append_assoc, List.getElem?_append_left (by omega), List.getElem?_take, if_pos hil] at hy
              have hjk : j < k := by rw [← hk' y (List.mem_of_getElem? hy)]; exact (List.getElem?_eq_some_iff.1 hd).1
              obtain ⟨u, hu, hru⟩ := hrd i' j y d hy hd
              have := idx_lt hil hjk
              refine ⟨u, ?_, hru.ext heS⟩
              rw [List.append_assoc, List.getElem?_append_left (by omega), List.getElem?_take, if_pos (by omega)]
              simpa using hu
            · rw [List.append_assoc, List.getElem?_append_right (by omega), etl] at hy
              have hmul : i' * k = lo * k + (i' - lo) * k := by rw [← Nat.add_mul]; congr 1; omega
              rcases Nat.lt_or_ge (i' - lo) m with him | him
              · rw [List.getElem?_append_left (by omega), List.getElem?_take, if_pos him] at hy
                have hjk : j < k := by rw [← hyk y (List.mem_of_getElem? hy)]; exact (List.getElem?_eq_some_iff.1 hd).1
                obtain ⟨u, hu, hru⟩ := hvr (i' - lo) j y d hy hd
                have hlt := idx_lt him hjk
                refine ⟨u, ?_, hru.ext heS⟩
                rw [List.append_assoc, List.getElem?_append_right (by omega), List.getElem?_append_left (by omega), e0, show o + (i' * k + j) - (o + lo * k) = (i' - lo) * k + j by omega, List.getElem?_take, if_pos hlt]
                exact hu
              · rw [List.getElem?_append_right (by omega), ety, List.getElem?_drop, show lo + m + (i' - lo - m) = i' by omega] at hy
                have hjk : j < k := by rw [← hk' y (List.mem_of_getElem? hy)]; exact (List.getElem?_eq_some_iff.1 hd).1
                obtain ⟨u, hu, hru⟩ := hrd i' j y d hy hd
                have hge : m * k ≤ (i' - lo) * k := Nat.mul_le_mul_right _ him
                refine ⟨u, ?_, hru.ext heS⟩
                rw [List.getElem?_append_right (by simp only [List.length_append, e0, hul]; omega), List.length_append, e0, hul, List.getElem?_drop, show o + lo * k + m * k + (o + (i' * k + j) - (o + lo * k + m * k)) = o + (i' * k + j) by omega]
                simpa using hu
theorem run_app_full {t ty e k bytes : Nat} {xs ys : List (List CD)} {v : Value} {i : TypeInfo} {z : Value} (ht : P.underlying t = some (.slice e)) (hi : P.info? e = some i) (hz : i.zero = some z) (hk : i.size = k) (hby : i.bytes = bytes)
    (hzs : z.cells.size = k) (hz1 : ∀ v ∈ z.cells.toList, v.oneCell' = true) (hk0 : 0 < k) {B : Option Addr} (hx : CellsAt w S k xs B) (hB : B = none → xs = []) {A : Option Addr} {cap2 : Nat} (hv : v = .slice A ys.length cap2) (hc : CellsAt w S k ys A) (hypos : 0 < ys.length)
    (hb : (xs.length + ys.length) * bytes ≤ 140737488355328) (hm : xs.length + ys.length ≤ maxLen) :
    ∃ p' w', (Builtin.append_ #[t, t] ty #[.slice B xs.length xs.length, v]).run P w = .ok p' w' ∧ Ext (fun _ => True) w w' ∧
      (∀ (S' : Nat → Prop), (∀ b, S b → S' b) → Ext S w w' → ArrR w' S' e k (xs ++ ys) p') ∧ (∀ b, Value.blk p' = some b → w.heap.size ≤ b ∧ b < w'.heap.size) := by
  obtain ⟨hc, hyk⟩ := hc
  obtain ⟨hx, hxk⟩ := hx
  have hzc : z.cells.size ≠ 0 := by omega
  subst hv
  have hlk : ∀ y ∈ xs ++ ys, y.length = k := fun y hy => by
    rcases List.mem_append.1 hy with h | h
    · exact hxk y h
    · exact hyk y h
  have hmm : xs.length + ys.length ≤ 9223372036854775807 := by unfold maxLen at hm; omega
  rcases hc with hy0 | ⟨ad, vs, rfl, hvl, hcell, hv1, hvr⟩
  · subst hy0; simp at hypos
  · -- the cells of both, and zeros behind them
    have fin : ∀ (cap0 : Nat) (us : List Value), us.length = xs.length * k → (∀ v ∈ us, v.oneCell' = true) → (∀ (i j : Nat) (y : List CD) (d : CD), xs[i]? = some y → y[j]? = some d → ∃ v, us[i * k + j]? = some v ∧ Rd w S d v) →
        ∀ (S' : Nat → Prop), (∀ b, S b → S' b) → Ext S w (w.drew.alloc (.cells ((us.toArray ++ vs.toArray) ++ Builtin.zeroCells z.cells (grownCap w (xs.length + ys.length) cap0 e - (xs.length + ys.length))) e)) →
        ArrR (w.drew.alloc (.cells ((us.toArray ++ vs.toArray) ++ Builtin.zeroCells z.cells (grownCap w (xs.length + ys.length) cap0 e - (xs.length + ys.length))) e)) S' e k (xs ++ ys) (.slice (some ⟨w.heap.size, 0, none⟩) (xs.length + ys.length) (grownCap w (xs.length + ys.length) cap0 e)) := by
      intro cap0 us hul hu1 hur S' hS he
      have hge := grownCap_ge w (xs.length + ys.length) cap0 e
      have hcm' := grownCap_le_maxLen w (xs.length + ys.length) cap0 e hm
      rw [show (Value.slice (some ⟨w.heap.size, 0, none⟩) (xs.length + ys.length) (grownCap w (xs.length + ys.length) cap0 e)) = .slice (some ⟨w.heap.size, 0, none⟩) (xs ++ ys).length (grownCap w (xs.length + ys.length) cap0 e) by simp]
      refine .row (alloc_heap w.drew _) (by simpa using hge) hcm' ?_ hlk (fun u hu => ?_) fun i' j y d hy hd => ?_
      · simp only [Array.size_append, List.size_toArray, size_zeroC, hzs, hvl, hul, ← Nat.add_mul]
        rw [Nat.zero_add]
        exact Nat.mul_le_mul_right _ (by omega)
      · simp only [Array.toList_append, List.mem_append] at hu
        rcases hu with (hu | hu) | hu
        · exact hu1 u hu
        · exact hv1 u hu
        · exact zero_one _ _ hz1 (by omega) u hu
      · have hjk : j < k := by rw [← hlk y (List.mem_of_getElem? hy)]; exact (List.getElem?_eq_some_iff.1 hd).1
        rw [Nat.zero_add]
        rcases Nat.lt_or_ge i' xs.length with hil | hil
        · rw [List.getElem?_append_left hil] at hy
          obtain ⟨u, hu, hru⟩ := hur i' j y d hy hd
          have := idx_lt hil hjk
          refine ⟨u, ?_, (hru.ext he).mono hS⟩
          rw [Array.getElem?_append_left (by simp only [Array.size_append, List.size_toArray, hul]; omega), Array.getElem?_append_left (by simp only [List.size_toArray, hul]; omega)]
          simpa using hu
        · rw [List.getElem?_append_right hil] at hy
          obtain ⟨u, hu, hru⟩ := hvr (i' - xs.length) j y d hy hd
          have hlt : (i' - xs.length) * k + j < vs.length := (List.getElem?_eq_some_iff.1 hu).1
          have hmul : i' * k = xs.length * k + (i' - xs.length) * k := by rw [← Nat.add_mul]; congr 1; omega
          refine ⟨u, ?_, (hru.ext he).mono hS⟩
          rw [Array.getElem?_append_left (by simp only [Array.size_append, List.size_toArray, hul]; omega), Array.getElem?_append_right (by simp only [List.size_toArray, hul]; omega)]
          simp only [List.size_toArray, hul, List.getElem?_toArray]
          rw [show i' * k + j - xs.length * k = (i' - xs.length) * k + j by omega]
          exact hu
    have hxx : xs = [] ∨ ∃ (bd : Addr) (us : List Value), B = some bd ∧ us.length = xs.length * k ∧ (∀ (j : Nat) (v : Value), us[j]? = some v → w.cell? (bd.add j) = some v) ∧ (∀ v ∈ us, v.oneCell' = true) ∧
        ∀ (i j : Nat) (y : List CD) (d : CD), xs[i]? = some y → y[j]? = some d → ∃ v, us[i * k + j]? = some v ∧ Rd w S d v := hx
    cases B with
    | none =>
      obtain rfl := hB rfl
      have hr := run_append_nil (P := P) w t ty e i z ht hi hz ad ys.length cap2 vs (by rw [hvl, hk]) hcell hypos (by simp at hmm; omega) (by simp at hb; rw [hby]; omega)
      refine ⟨_, _, hr, (Ext.drew _ w).trans (Ext.alloc _ w.drew _), ?_, fun b hb => by simp [Value.blk] at hb; subst hb; simp⟩
      have := fin 0 [] (by simp) (by simp) (fun i j y d hy => by simp at hy)
      simpa using this
    | some bd =>
      obtain ⟨us, hul, hucell, hu1, hur⟩ : ∃ us : List Value, us.length = xs.length * k ∧ (∀ (j : Nat) (v : Value), us[j]? = some v → w.cell? (bd.add j) = some v) ∧ (∀ v ∈ us, v.oneCell' = true) ∧
          ∀ (i j : Nat) (y : List CD) (d : CD), xs[i]? = some y → y[j]? = some d → ∃ v, us[i * k + j]? = some v ∧ Rd w S d v := by
        rcases hxx with rfl | ⟨bd', us, e, h⟩
        · exact ⟨[], by simp, by simp, by simp, fun i j y d hy => by simp at hy⟩
        · simp only [Option.some.injEq] at e
          subst e
          exact ⟨us, h⟩
      have hr := run_append_grow (P := P) w t ty e i z ht hi hz bd xs.length xs.length us (by rw [hul, hk]) hucell ad ys.length cap2 vs (by rw [hvl, hk]) hcell (by omega) (by omega) (growslice_fits (by omega) (by rw [hby]; exact hb))
      exact ⟨_, _, hr, (Ext.drew _ w).trans (Ext.alloc _ w.drew _), fin xs.length us hul hu1 hur, fun b hb => by simp [Value.blk] at hb; subst hb; simp⟩
theorem run_app_cells {t ty e bytes : Nat} {p v v0 : Value} {i : TypeInfo} {z : Value} {n : Nat} {old : Nat → Option Value} (ht : P.underlying t = some (.slice e)) (hi : P.info? e = some i) (hz : i.zero = some z) (hk : i.size = 1) (hby : i.bytes = bytes)
    (hzs : z.cells.size = 1) (hz1 : ∀ v ∈ z.cells.toList, v.oneCell' = true)
    (hp : (p = .slice none 0 0 ∧ n = 0) ∨ ∃ (g o cap : Nat) (cur : Array Value), p = .slice (some ⟨g, o, none⟩) n cap ∧ w.heap[g]? = some (.cells cur e (0, 0)) ∧ n ≤ cap ∧ cap ≤ maxLen ∧ o + cap ≤ cur.size ∧ (∀ v ∈ cur.toList, v.oneCell' = true) ∧ ∀ j, j < n → cur[o + j]? = old j)
    {ad : Addr} {cap2 : Nat} (hv : v = .slice (some ad) 1 cap2) (hc : w.cell? ad = some v0) (h0 : v0.oneCell' = true)
    (hb : (n + 1) * bytes ≤ 140737488355328) (hm : n + 1 ≤ maxLen) :
    ∃ (g' o' cap' : Nat) (cur' : Array Value) (w' : World), (Builtin.append_ #[t, t] ty #[p, v]).run P w = .ok (.slice (some ⟨g', o', none⟩) (n + 1) cap') w' ∧ w'.heap[g']? = some (.cells cur' e (0, 0)) ∧ n + 1 ≤ cap' ∧ cap' ≤ maxLen ∧ o' + cap' ≤ cur'.size ∧
      (∀ v ∈ cur'.toList, v.oneCell' = true) ∧ (∀ j, j < n → cur'[o' + j]? = old j) ∧ cur'[o' + n]? = some v0 ∧ Ext (fun b => Value.blk p ≠ some b) w w' ∧ (Value.blk p = some g' ∨ (w.heap.size ≤ g' ∧ g' < w'.heap.size)) := by
  subst hv
  have hmm : n + 1 ≤ 9223372036854775807 := by unfold maxLen at hm; omega
  have hcell : ∀ (j : Nat) (v : Value), [v0][j]? = some v → w.cell? (ad.add j) = some v := fun j v hj => by
    cases j with
    | zero => simp at hj; subst hj; simpa [Addr.add] using hc
    | succ j => simp at hj
  rcases hp with ⟨rfl, rfl⟩ | ⟨g, o, cap, cur, rfl, hg, hn, hcm, hs, h1, hold⟩
  · have hr := run_append_nil (P := P) w t ty e i z ht hi hz ad 1 cap2 [v0] (by simp [hk]) hcell (by omega) (by omega) (by rw [hby]; omega)
    have hge := grownCap_ge w 1 0 e
    have hcm := grownCap_le_maxLen w 1 0 e (by simpa using hm)
    refine ⟨_, _, _, _, _, hr, alloc_heap w.drew _, hge, hcm, ?_, fun u hu => ?_, fun j hj => by omega, ?_, (Ext.drew _ w).trans (Ext.alloc _ w.drew _), .inr (by simp)⟩
    · simp only [Array.size_append, List.size_toArray, size_zeroC, hzs]
      simp; omega
    · simp only [Array.toList_append, List.mem_append] at hu
      rcases hu with hu | hu
      · simp at hu; subst hu; exact h0
      · exact zero_one _ _ hz1 (by omega) u hu
    · rw [Array.getElem?_append_left (by simp)]; simp
  · by_cases hroom : n + 1 ≤ cap
    · have hf := run_firstCells_some (P := P) w i.size 1 ad 1 cap2 [v0] (by simp [hk]) hcell
      rw [hk] at hf
      have hst := run_storeCells_at P g (o + n) e [v0] 0 cur w hg (by simp; omega) (by simpa using h0)
      simp only [Nat.add_zero] at hst
      have hlt : o + n < cur.toList.length := by simp; omega
      refine ⟨g, o, cap, (cur.toList.take (o + n) ++ [v0] ++ cur.toList.drop (o + n + 1)).toArray, w.setRow g (cur.toList.take (o + n) ++ [v0] ++ cur.toList.drop (o + n + 1)).toArray, ?_, setRow_heap w g cur _ e _ hg, hroom, hcm, by simp; omega, fun u hu => ?_, fun j hj => ?_, ?_, (ext_setRow w g _).mono fun b hb e => hb (by subst e; rfl), .inl rfl⟩
      · simp at hst
        simp [Builtin.append_, run_underlying ht, sizeOf, typeInfo, hi, Builtin.lenOf, hroom, hf, hk, addr_add, hst]
      · simp only [List.mem_append] at hu
        rcases hu with (hu | hu) | hu
        · exact h1 u (List.mem_of_mem_take hu)
        · simp at hu; subst hu; exact h0
        · exact h1 u (List.mem_of_mem_drop hu)
      · rw [set_cell _ _ _ hlt, if_neg (by omega)]; simpa using hold j hj
      · rw [set_cell _ _ _ hlt, if_pos rfl]
    · have hol : ((cur.toList.drop o).take n).length = n := by simp; omega
      have hoc : ∀ (j : Nat) (v : Value), ((cur.toList.drop o).take n)[j]? = some v → w.cell? ((⟨g, o, none⟩ : Addr).add j) = some v := fun j v hv => by
        rw [addr_add, cell_of_row w g _ cur e (0, 0) hg]
        rw [List.getElem?_take] at hv
        split at hv
        · rw [List.getElem?_drop] at hv; simpa using hv
        · cases hv
      have hr := run_append_grow (P := P) w t ty e i z ht hi hz ⟨g, o, none⟩ n cap _ (by rw [hol, hk]; omega) hoc ad 1 cap2 [v0] (by simp [hk]) hcell (by omega) (by omega) (growslice_fits (by omega) (by rw [hby]; exact hb))
      have hge := grownCap_ge w (n + 1) cap e
      have hcm' := grownCap_le_maxLen w (n + 1) cap e hm
      refine ⟨_, _, _, _, _, hr, alloc_heap w.drew _, hge, hcm', ?_, fun u hu => ?_, fun j hj => ?_, ?_, (Ext.drew _ w).trans (Ext.alloc _ w.drew _), .inr (by simp)⟩
      · simp only [Array.size_append, List.size_toArray, size_zeroC, hzs, hol]
        simp; omega
      · simp only [Array.toList_append, List.mem_append] at hu
        rcases hu with (hu | hu) | hu
        · exact h1 u (List.mem_of_mem_drop (List.mem_of_mem_take hu))
        · simp at hu; subst hu; exact h0
        · exact zero_one _ _ hz1 (by omega) u hu
      · rw [Nat.zero_add, Array.getElem?_append_left (by simp only [Array.size_append, List.size_toArray, hol]; omega), Array.getElem?_append_left (by simp only [List.size_toArray, hol]; omega)]
        rw [List.getElem?_toArray, List.getElem?_take, if_pos hj, List.getElem?_drop]
        simpa using hold j hj
      · rw [Nat.zero_add, Array.getElem?_append_left (by simp only [Array.size_append, List.size_toArray, hol]; simp), Array.getElem?_append_right (by simp only [List.size_toArray, hol]; omega)]
        simp [hol]
end
end Go.AL

namespace Go.AL
open Go Go.RowKit
section
variable {x : Ctx} {S : Nat → Prop} {φ : Nat → Value} {σ : St} {a : Act} {w : World} {P : Program}
theorem inv_box {o : Oper} {t : Nat} {n : Option Nat} {y : AX} (h : compOp P o = some (.box t n y)) : ∃ X, o.op = .box t X ∧ shapeOf P t = some n ∧ compX X = some y := by
  obtain ⟨dst, op, type, pos, after, guard⟩ := o
  cases op
  case box t' X =>
    simp only [compOp] at h
    split at h
    · simp at h; obtain ⟨rfl, rfl, rfl⟩ := h; exact ⟨X, rfl, by assumption, by assumption⟩
    · cases h
  case call c =>
    obtain ⟨callee, args, ts⟩ := c
    cases callee with
    | value f => cases f <;> (simp only [compOp] at h; (repeat' split at h) <;> simp at h)
    | invoke => simp [compOp] at h
    | builtin b => cases b <;> simp only [compOp, reduceCtorEq, Bool.cond_eq_ite] at h <;> ((repeat' split at h) <;> simp at h)
  case unOp u t y => cases u <;> simp [compOp] at h
  case next y b => cases b <;> simp [compOp] at h
  case makeFunc fn f c => cases fn <;> (simp only [compOp, Bool.cond_eq_ite, reduceCtorEq] at h; try ((repeat' split at h) <;> simp at h))
  case slice t y l hh mx => cases mx <;> cases l <;> cases hh <;> (simp only [compOp, reduceCtorEq] at h; try ((repeat' split at h) <;> simp at h))
  case makeMap t rsv => cases rsv <;> (simp only [compOp, reduceCtorEq] at h; try ((repeat' split at h) <;> simp at h))
  all_goals (simp only [compOp, Bool.cond_eq_ite, reduceCtorEq] at h; try ((repeat' split at h) <;> simp at h))
theorem inv_alloc {o : Oper} {t : Nat} {z : List AV} (h : compOp P o = some (.alloc t z)) : o.op = .alloc t ∧ zeroAny P t = some z := by
  obtain ⟨dst, op, type, pos, after, guard⟩ := o
  cases op
  case alloc t' =>
    simp only [compOp] at h
    split at h
    · simp at h; obtain ⟨rfl, rfl⟩ := h; exact ⟨rfl, by assumption⟩
    · cases h
  case call c =>
    obtain ⟨callee, args, ts⟩ := c
    cases callee with
    | value f => cases f <;> (simp only [compOp] at h; (repeat' split at h) <;> simp at h)
    | invoke => simp [compOp] at h
    | builtin b => cases b <;> simp only [compOp, reduceCtorEq, Bool.cond_eq_ite] at h <;> ((repeat' split at h) <;> simp at h)
  case unOp u t y => cases u <;> simp [compOp] at h
  case next y b => cases b <;> simp [compOp] at h
  case makeFunc fn f c => cases fn <;> (simp only [compOp, Bool.cond_eq_ite, reduceCtorEq] at h; try ((repeat' split at h) <;> simp at h))
  case slice t y l hh mx => cases mx <;> cases l <;> cases hh <;> (simp only [compOp, reduceCtorEq] at h; try ((repeat' split at h) <;> simp at h))
  case makeMap t rsv => cases rsv <;> (simp only [compOp, reduceCtorEq] at h; try ((repeat' split at h) <;> simp at h))
  all_goals (simp only [compOp, Bool.cond_eq_ite, reduceCtorEq] at h; try ((repeat' split at h) <;> simp at h))
theorem inv_bslice {o : Oper} {e k : Nat} {ys : List AX} (h : compOp P o = some (.bslice e k ys)) : ∃ t len parts, o.op = .buildSlice t len parts ∧ P.underlying t = some (.slice e) ∧ seqParts 0 parts.toList = some ys ∧ cellsNum P e = some k ∧ ys.length = len ∧ (len ≤ 16777216 ∧ len * k ≤ 16777216) ∧ (zeroOf P e).isSome = true := by
  obtain ⟨dst, op, type, pos, after, guard⟩ := o
  cases op
  case buildSlice t len parts =>
    simp only [compOp] at h
    split at h
    · split at h
      · rename_i e' as hu hs' _ k' hk
        cases hb : ((Nat.beq as.length len && decide (len ≤ 16777216 ∧ len * k' ≤ 16777216)) && (zeroOf P e').isSome) with
        | false => rw [hb] at h; cases h
        | true =>
          rw [hb] at h
          simp only [cond_true, Option.some.injEq, AK.bslice.injEq] at h
          obtain ⟨rfl, rfl, rfl⟩ := h
          simp only [Bool.and_eq_true, decide_eq_true_eq] at hb
          exact ⟨t, len, parts, rfl, hu, hs', hk, Nat.eq_of_beq_eq_true hb.1.1, hb.1.2, hb.2⟩
      · cases h
    · cases h
  case call c =>
    obtain ⟨callee, args, ts⟩ := c
    cases callee with
    | value f => cases f <;> (simp only [compOp] at h; (repeat' split at h) <;> simp at h)
    | invoke => simp [compOp] at h
    | builtin b => cases b <;> simp only [compOp, reduceCtorEq, Bool.cond_eq_ite] at h <;> ((repeat' split at h) <;> simp at h)
  case unOp u t y => cases u <;> simp [compOp] at h
  case next y b => cases b <;> simp [compOp] at h
  case makeFunc fn f c => cases fn <;> (simp only [compOp, Bool.cond_eq_ite, reduceCtorEq] at h; try ((repeat' split at h) <;> simp at h))
  case slice t y l hh mx => cases mx <;> cases l <;> cases hh <;> (simp only [compOp, reduceCtorEq] at h; try ((repeat' split at h) <;> simp at h))
  case makeMap t rsv => cases rsv <;> (simp only [compOp, reduceCtorEq] at h; try ((repeat' split at h) <;> simp at h))
  all_goals (simp only [compOp, Bool.cond_eq_ite, reduceCtorEq] at h; try ((repeat' split at h) <;> simp at h))
theorem inv_st {o : Oper} {n : Option Nat} {y v : AX} (h : compOp P o = some (.st n y v)) : ∃ t Y V, o.op = .store t Y V ∧ shapeOf P t = some n ∧ compX Y = some y ∧ compX V = some v := by
  obtain ⟨dst, op, type, pos, after, guard⟩ := o
  cases op
  case store t Y V =>
    simp only [compOp] at h
    split at h
    · simp at h; obtain ⟨rfl, rfl, rfl⟩ := h; exact ⟨t, Y, V, rfl, by assumption, by assumption, by assumption⟩
    · cases h
  case call c =>
    obtain ⟨callee, args, ts⟩ := c
    cases callee with
    | value f => cases f <;> (simp only [compOp] at h; (repeat' split at h) <;> simp at h)
    | invoke => simp [compOp] at h
    | builtin b => cases b <;> simp only [compOp, reduceCtorEq, Bool.cond_eq_ite] at h <;> ((repeat' split at h) <;> simp at h)
  case unOp u t y => cases u <;> simp [compOp] at h
  case next y b => cases b <;> simp [compOp] at h
  case makeFunc fn f c => cases fn <;> (simp only [compOp, Bool.cond_eq_ite, reduceCtorEq] at h; try ((repeat' split at h) <;> simp at h))
  case slice t y l hh mx => cases mx <;> cases l <;> cases hh <;> (simp only [compOp, reduceCtorEq] at h; try ((repeat' split at h) <;> simp at h))
  case makeMap t rsv => cases rsv <;> (simp only [compOp, reduceCtorEq] at h; try ((repeat' split at h) <;> simp at h))
  all_goals (simp only [compOp, Bool.cond_eq_ite, reduceCtorEq] at h; try ((repeat' split at h) <;> simp at h))
theorem inv_mks {o : Oper} {e k b : Nat} {z : List CD} {l c : AX} (h : compOp P o = some (.mks e k b z l c)) : ∃ t L C i, o.op = .makeSlice t L C ∧ P.underlying t = some (.slice e) ∧ cellsNum P e = some k ∧ zeroOf P e = some z ∧ P.info? e = some i ∧ i.bytes = b ∧ compX L = some l ∧ compX C = some c := by
  obtain ⟨dst, op, type, pos, after, guard⟩ := o
  cases op
  case makeSlice t L C =>
    simp only [compOp] at h
    split at h
    · split at h
      · simp at h; obtain ⟨rfl, rfl, rfl, rfl, rfl, rfl⟩ := h; exact ⟨t, L, C, _, rfl, by assumption, by assumption, by assumption, by assumption, rfl, by assumption, by assumption⟩
      · cases h
    · cases h
  case call c =>
    obtain ⟨callee, args, ts⟩ := c
    cases callee with
    | value f => cases f <;> (simp only [compOp] at h; (repeat' split at h) <;> simp at h)
    | invoke => simp [compOp] at h
    | builtin b => cases b <;> simp only [compOp, reduceCtorEq, Bool.cond_eq_ite] at h <;> ((repeat' split at h) <;> simp at h)
  case unOp u t y => cases u <;> simp [compOp] at h
  case next y b => cases b <;> simp [compOp] at h
  case makeFunc fn f c => cases fn <;> (simp only [compOp, Bool.cond_eq_ite, reduceCtorEq] at h; try ((repeat' split at h) <;> simp at h))
  case slice t y l hh mx => cases mx <;> cases l <;> cases hh <;> (simp only [compOp, reduceCtorEq] at h; try ((repeat' split at h) <;> simp at h))
  case makeMap t rsv => cases rsv <;> (simp only [compOp, reduceCtorEq] at h; try ((repeat' split at h) <;> simp at h))
  all_goals (simp only [compOp, Bool.cond_eq_ite, reduceCtorEq] at h; try ((repeat' split at h) <;> simp at h))
theorem inv_slc {o : Oper} {k : Nat} {y : AX} {lo hi : Option AX} (h : compOp P o = some (.slc k y lo hi)) : ∃ t Y L H e, o.op = .slice t Y L H none ∧ P.underlying t = some (.slice e) ∧ cellsNum P e = some k ∧ compX Y = some y ∧ optX L = some lo ∧ optX H = some hi := by
  obtain ⟨dst, op, type, pos, after, guard⟩ := o
  cases op
  case slice t Y L H mx =>
    cases mx with
    | some _ => cases L <;> cases H <;> simp only [compOp, reduceCtorEq] at h <;> ((repeat' split at h) <;> simp at h)
    | none =>
      simp only [compOp] at h
      split at h
      · simp only [Option.map_eq_some_iff, AK.slc.injEq] at h
        obtain ⟨k', hk, rfl, rfl, rfl, rfl⟩ := h
        exact ⟨t, Y, L, H, _, rfl, by assumption, hk, by assumption, by assumption, by assumption⟩
      · cases h
  case call c =>
    obtain ⟨callee, args, ts⟩ := c
    cases callee with
    | value f => cases f <;> (simp only [compOp] at h; (repeat' split at h) <;> simp at h)
    | invoke => simp [compOp] at h
    | builtin b => cases b <;> simp only [compOp, reduceCtorEq, Bool.cond_eq_ite] at h <;> ((repeat' split at h) <;> simp at h)
  case unOp u t y => cases u <;> simp [compOp] at h
  case next y b => cases b <;> simp [compOp] at h
  case makeFunc fn f c => cases fn <;> (simp only [compOp, Bool.cond_eq_ite, reduceCtorEq] at h; try ((repeat' split at h) <;> simp at h))
  case makeMap t rsv => cases rsv <;> (simp only [compOp, reduceCtorEq] at h; try ((repeat' split at h) <;> simp at h))
  all_goals (simp only [compOp, Bool.cond_eq_ite, reduceCtorEq] at h; try ((repeat' split at h) <;> simp at h))
theorem inv_app {o : Oper} {e k b : Nat} {s y : AX} (h : compOp P o = some (.app e k b s y)) : ∃ t X Y i, o.op = .call { callee := .builtin .append, args := #[X, Y], argTypes := #[t, t] } ∧ P.underlying t = some (.slice e) ∧ cellsNum P e = some k ∧ P.info? e = some i ∧ i.bytes = b ∧ zeroLen P e k = true ∧ compX X = some s ∧ compX Y = some y := by
  obtain ⟨dst, op, type, pos, after, guard⟩ := o
  cases op
  case call c =>
    obtain ⟨callee, args, ts⟩ := c
    cases callee with
    | value f => cases f <;> (simp only [compOp] at h; (repeat' split at h) <;> simp at h)
    | invoke => simp [compOp] at h
    | builtin bb =>
      cases bb
      case append =>
        simp only [compOp] at h
        split at h
        · rename_i X Y t u hargs hts
          split at h
          · split at h
            · rename_i e' s' y' hu hs' hy _ _ k' i hk hi
              cases hb : (Nat.beq t u && zeroLen P e' k') with
              | false => rw [hb] at h; cases h
              | true =>
                rw [hb] at h
                simp only [cond_true, Option.some.injEq, AK.app.injEq] at h
                obtain ⟨rfl, rfl, rfl, rfl, rfl⟩ := h
                simp only [Bool.and_eq_true] at hb
                have := Nat.eq_of_beq_eq_true hb.1; subst this
                have ha : args = #[X, Y] := by rw [← Array.toArray_toList (xs := args), hargs]
                have ht : ts = #[t, t] := by rw [← Array.toArray_toList (xs := ts), hts]
                subst ha; subst ht
                exact ⟨t, X, Y, i, rfl, hu, hk, hi, rfl, hb.2, hs', hy⟩
            · cases h
          · cases h
        · cases h
      all_goals (simp only [compOp, reduceCtorEq, Bool.cond_eq_ite] at h <;> ((repeat' split at h) <;> simp at h))
  case unOp u t y => cases u <;> simp [compOp] at h
  case next y b => cases b <;> simp [compOp] at h
  case makeFunc fn f c => cases fn <;> (simp only [compOp, Bool.cond_eq_ite, reduceCtorEq] at h; try ((repeat' split at h) <;> simp at h))
  case slice t y l hh mx => cases mx <;> cases l <;> cases hh <;> (simp only [compOp, reduceCtorEq] at h; try ((repeat' split at h) <;> simp at h))
  case makeMap t rsv => cases rsv <;> (simp only [compOp, reduceCtorEq] at h; try ((repeat' split at h) <;> simp at h))
  all_goals (simp only [compOp, Bool.cond_eq_ite, reduceCtorEq] at h; try ((repeat' split at h) <;> simp at h))
theorem inv_call {o : Oper} {f : Nat} {ys : List AX} (h : compOp P o = some (.call f ys)) : ∃ args ts, o.op = .call { callee := .value (.func f), args, argTypes := ts } ∧ compXs args.toList = some ys := by
  obtain ⟨dst, op, type, pos, after, guard⟩ := o
  cases op
  case call c =>
    obtain ⟨callee, args, ts⟩ := c
    cases callee with
    | value g =>
      cases g
      case func f' =>
        simp only [compOp, Option.map_eq_some_iff, AK.call.injEq] at h
        obtain ⟨ys', hys, rfl, rfl⟩ := h
        exact ⟨args, ts, rfl, hys⟩
      all_goals (simp only [compOp] at h; (repeat' split at h) <;> simp at h)
    | invoke => simp [compOp] at h
    | builtin b => cases b <;> simp only [compOp, reduceCtorEq, Bool.cond_eq_ite] at h <;> ((repeat' split at h) <;> simp at h)
  case unOp u t y => cases u <;> simp [compOp] at h
  case next y b => cases b <;> simp [compOp] at h
  case makeFunc fn f c => cases fn <;> (simp only [compOp, Bool.cond_eq_ite, reduceCtorEq] at h; try ((repeat' split at h) <;> simp at h))
  case slice t y l hh mx => cases mx <;> cases l <;> cases hh <;> (simp only [compOp, reduceCtorEq] at h; try ((repeat' split at h) <;> simp at h))
  case makeMap t rsv => cases rsv <;> (simp only [compOp, reduceCtorEq] at h; try ((repeat' split at h) <;> simp at h))
  all_goals (simp only [compOp, Bool.cond_eq_ite, reduceCtorEq] at h; try ((repeat' split at h) <;> simp at h))
theorem inv_callv {o : Oper} {y : AX} {ys : List AX} (h : compOp P o = some (.callv y ys)) : ∃ Y args ts, o.op = .call { callee := .value Y, args, argTypes := ts } ∧ compX Y = some y ∧ compXs args.toList = some ys := by
  obtain ⟨dst, op, type, pos, after, guard⟩ := o
  cases op
  case call c =>
    obtain ⟨callee, args, ts⟩ := c
    cases callee with
    | value g =>
      cases g
      case func f' => simp [compOp] at h
      all_goals
        simp only [compOp] at h
        split at h
        · simp at h; obtain ⟨rfl, rfl⟩ := h; exact ⟨_, args, ts, rfl, by assumption, by assumption⟩
        · cases h
    | invoke => simp [compOp] at h
    | builtin b => cases b <;> simp only [compOp, reduceCtorEq, Bool.cond_eq_ite] at h <;> ((repeat' split at h) <;> simp at h)
  case unOp u t y => cases u <;> simp [compOp] at h
  case next y b => cases b <;> simp [compOp] at h
  case makeFunc fn f c => cases fn <;> (simp only [compOp, Bool.cond_eq_ite, reduceCtorEq] at h; try ((repeat' split at h) <;> simp at h))
  case slice t y l hh mx => cases mx <;> cases l <;> cases hh <;> (simp only [compOp, reduceCtorEq] at h; try ((repeat' split at h) <;> simp at h))
  case makeMap t rsv => cases rsv <;> (simp only [compOp, reduceCtorEq] at h; try ((repeat' split at h) <;> simp at h))
  all_goals (simp only [compOp, Bool.cond_eq_ite, reduceCtorEq] at h; try ((repeat' split at h) <;> simp at h))
theorem inv_mkmap {o : Oper} {kk : KK} (h : compOp P o = some (.mkmap kk)) : ∃ t, o.op = .makeMap t none := by
  obtain ⟨dst, op, type, pos, after, guard⟩ := o
  cases op
  case makeMap t rsv =>
    cases rsv with
    | none => exact ⟨t, rfl⟩
    | some => simp [compOp] at h
  case call c =>
    obtain ⟨callee, args, ts⟩ := c
    cases callee with
    | value f => cases f <;> (simp only [compOp] at h; (repeat' split at h) <;> simp at h)
    | invoke => simp [compOp] at h
    | builtin b => cases b <;> simp only [compOp, reduceCtorEq, Bool.cond_eq_ite] at h <;> ((repeat' split at h) <;> simp at h)
  case unOp u t y => cases u <;> simp [compOp] at h
  case next y b => cases b <;> simp [compOp] at h
  case makeFunc fn f c => cases fn <;> (simp only [compOp, Bool.cond_eq_ite, reduceCtorEq] at h; try ((repeat' split at h) <;> simp at h))
  case slice t y l hh mx => cases mx <;> cases l <;> cases hh <;> (simp only [compOp, reduceCtorEq] at h; try ((repeat' split at h) <;> simp at h))
  all_goals (simp only [compOp, Bool.cond_eq_ite, reduceCtorEq] at h; try ((repeat' split at h) <;> simp at h))
theorem inv_mset {o : Oper} {kk : KK} {m k v : AX} (h : compOp P o = some (.mset kk m k v)) : ∃ t M K V key e, (o.op = .mapUpdate t M K V ∨ o.op = .insert t M K V) ∧ P.underlying t = some (.map key e) ∧ keyKind P key = some kk ∧ compX M = some m ∧ compX K = some k ∧ compX V = some v := by
  obtain ⟨dst, op, type, pos, after, guard⟩ := o
  cases op
  case mapUpdate t M K V =>
    simp only [compOp] at h
    split at h
    · rename_i key e m' k' v' ht hm hk hv
      split at h
      · rename_i kq hq
        simp at h; obtain ⟨rfl, rfl, rfl, rfl⟩ := h
        exact ⟨t, M, K, V, key, e, .inl rfl, ht, hq, hm, hk, hv⟩
      · cases h
    · cases h
  case insert t M K V =>
    simp only [compOp] at h
    split at h
    · rename_i key e m' k' v' ht hm hk hv
      split at h
      · rename_i kq hq
        simp at h; obtain ⟨rfl, rfl, rfl, rfl⟩ := h
        exact ⟨t, M, K, V, key, e, .inr rfl, ht, hq, hm, hk, hv⟩
      · cases h
    · cases h
  case call c =>
    obtain ⟨callee, args, ts⟩ := c
    cases callee with
    | value f => cases f <;> (simp only [compOp] at h; (repeat' split at h) <;> simp at h)
    | invoke => simp [compOp] at h
    | builtin b => cases b <;> simp only [compOp, reduceCtorEq, Bool.cond_eq_ite] at h <;> ((repeat' split at h) <;> simp at h)
  case unOp u t y => cases u <;> simp [compOp] at h
  case next y b => cases b <;> simp [compOp] at h
  case makeFunc fn f c => cases fn <;> (simp only [compOp, Bool.cond_eq_ite, reduceCtorEq] at h; try ((repeat' split at h) <;> simp at h))
  case slice t y l hh mx => cases mx <;> cases l <;> cases hh <;> (simp only [compOp, reduceCtorEq] at h; try ((repeat' split at h) <;> simp at h))
  case makeMap t rsv => cases rsv <;> (simp only [compOp, reduceCtorEq] at h; try ((repeat' split at h) <;> simp at h))
  all_goals (simp only [compOp, Bool.cond_eq_ite, reduceCtorEq] at h; try ((repeat' split at h) <;> simp at h))
theorem inv_cpy {o : Oper} {e k : Nat} {x y : AX} (h : compOp P o = some (.cpy e k x y)) : ∃ t X Y, o.op = .call { callee := .builtin .copy, args := #[X, Y], argTypes := #[t, t] } ∧ P.underlying t = some (.slice e) ∧ cellsNum P e = some k ∧ compX X = some x ∧ compX Y = some y := by
  obtain ⟨dst, op, type, pos, after, guard⟩ := o
  cases op
  case call c =>
    obtain ⟨callee, args, ts⟩ := c
    cases callee with
    | value f => cases f <;> (simp only [compOp] at h; (repeat' split at h) <;> simp at h)
    | invoke => simp [compOp] at h
    | builtin b =>
      cases b
      case copy =>
        simp only [compOp] at h
        split at h
        · rename_i X Y t u ha hts
          split at h
          · rename_i e' x' y' ht hx hy
            split at h
            · rename_i k' hk
              cases hb : Nat.beq t u with
              | false => rw [hb] at h; cases h
              | true =>
                have := Nat.eq_of_beq_eq_true hb; subst this
                rw [hb] at h
                simp only [cond_true, Option.some.injEq, AK.cpy.injEq] at h
                obtain ⟨rfl, rfl, rfl, rfl⟩ := h
                have ha' : args = #[X, Y] := by rw [← Array.toArray_toList (xs := args), ha]
                have ht' : ts = #[t, t] := by rw [← Array.toArray_toList (xs := ts), hts]
                subst ha'; subst ht'
                exact ⟨t, X, Y, rfl, ht, hk, hx, hy⟩
            · cases h
          · cases h
        · cases h
      all_goals (simp only [compOp, reduceCtorEq, Bool.cond_eq_ite] at h <;> ((repeat' split at h) <;> simp at h))
  case unOp u t y => cases u <;> simp [compOp] at h
  case next y b => cases b <;> simp [compOp] at h
  case makeFunc fn f c => cases fn <;> (simp only [compOp, Bool.cond_eq_ite, reduceCtorEq] at h; try ((repeat' split at h) <;> simp at h))
  case slice t y l hh mx => cases mx <;> cases l <;> cases hh <;> (simp only [compOp, reduceCtorEq] at h; try ((repeat' split at h) <;> simp at h))
  case makeMap t rsv => cases rsv <;> (simp only [compOp, reduceCtorEq] at h; try ((repeat' split at h) <;> simp at h))
  all_goals (simp only [compOp, Bool.cond_eq_ite, reduceCtorEq] at h; try ((repeat' split at h) <;> simp at h))
theorem inv_mdel {o : Oper} {kk : KK} {m k : AX} (h : compOp P o = some (.mdel kk m k)) : ∃ t M K key e args ts, o.op = .call { callee := .builtin .delete, args := args, argTypes := ts } ∧ args.toList = [M, K] ∧ ts.toList.head? = some t ∧ P.underlying t = some (.map key e) ∧ keyKind P key = some kk ∧ compX M = some m ∧ compX K = some k := by
  obtain ⟨dst, op, type, pos, after, guard⟩ := o
  cases op
  case call c =>
    obtain ⟨callee, args, ts⟩ := c
    cases callee with
    | value f => cases f <;> (simp only [compOp] at h; (repeat' split at h) <;> simp at h)
    | invoke => simp [compOp] at h
    | builtin b =>
      cases b
      case delete =>
        simp only [compOp] at h
        split at h
        · rename_i M K t r ha hts
          split at h
          · rename_i key e m' k' ht hm hk
            split at h
            · rename_i kq hq
              simp at h; obtain ⟨rfl, rfl, rfl⟩ := h
              exact ⟨t, M, K, key, e, args, ts, rfl, ha, by rw [hts]; rfl, ht, hq, hm, hk⟩
            · cases h
          · cases h
        · cases h
      all_goals (simp only [compOp, reduceCtorEq, Bool.cond_eq_ite] at h <;> ((repeat' split at h) <;> simp at h))
  case unOp u t y => cases u <;> simp [compOp] at h
  case next y b => cases b <;> simp [compOp] at h
  case makeFunc fn f c => cases fn <;> (simp only [compOp, Bool.cond_eq_ite, reduceCtorEq] at h; try ((repeat' split at h) <;> simp at h))
  case slice t y l hh mx => cases mx <;> cases l <;> cases hh <;> (simp only [compOp, reduceCtorEq] at h; try ((repeat' split at h) <;> simp at h))
  case makeMap t rsv => cases rsv <;> (simp only [compOp, reduceCtorEq] at h; try ((repeat' split at h) <;> simp at h))
  all_goals (simp only [compOp, Bool.cond_eq_ite, reduceCtorEq] at h; try ((repeat' split at h) <;> simp at h))
theorem inv_mrange {o : Oper} {m : AX} (h : compOp P o = some (.mrange m)) : ∃ t M key e, o.op = .range t M ∧ P.underlying t = some (.map key e) ∧ compX M = some m := by
  obtain ⟨dst, op, type, pos, after, guard⟩ := o
  cases op
  case range t M =>
    simp only [compOp] at h
    split at h
    · rename_i key e m' ht hm
      simp at h; subst h
      exact ⟨t, M, key, e, rfl, ht, hm⟩
    · cases h
  case call c =>
    obtain ⟨callee, args, ts⟩ := c
    cases callee with
    | value f => cases f <;> (simp only [compOp] at h; (repeat' split at h) <;> simp at h)
    | invoke => simp [compOp] at h
    | builtin b => cases b <;> simp only [compOp, reduceCtorEq, Bool.cond_eq_ite] at h <;> ((repeat' split at h) <;> simp at h)
  case unOp u t y => cases u <;> simp [compOp] at h
  case next y b => cases b <;> simp [compOp] at h
  case makeFunc fn f c => cases fn <;> (simp only [compOp, Bool.cond_eq_ite, reduceCtorEq] at h; try ((repeat' split at h) <;> simp at h))
  case slice t y l hh mx => cases mx <;> cases l <;> cases hh <;> (simp only [compOp, reduceCtorEq] at h; try ((repeat' split at h) <;> simp at h))
  case makeMap t rsv => cases rsv <;> (simp only [compOp, reduceCtorEq] at h; try ((repeat' split at h) <;> simp at h))
  all_goals (simp only [compOp, Bool.cond_eq_ite, reduceCtorEq] at h; try ((repeat' split at h) <;> simp at h))
theorem inv_mnext {o : Oper} {m : AX} (h : compOp P o = some (.mnext m)) : ∃ M, o.op = .next M false ∧ compX M = some m := by
  obtain ⟨dst, op, type, pos, after, guard⟩ := o
  cases op
  case next M b =>
    cases b with
    | true => simp [compOp] at h
    | false =>
      simp only [compOp, Option.map_eq_some_iff] at h
      obtain ⟨y, hy, e⟩ := h
      cases e
      exact ⟨M, rfl, hy⟩
  case call c =>
    obtain ⟨callee, args, ts⟩ := c
    cases callee with
    | value f => cases f <;> (simp only [compOp] at h; (repeat' split at h) <;> simp at h)
    | invoke => simp [compOp] at h
    | builtin b => cases b <;> simp only [compOp, reduceCtorEq, Bool.cond_eq_ite] at h <;> ((repeat' split at h) <;> simp at h)
  case unOp u t y => cases u <;> simp [compOp] at h
  case makeFunc fn f c => cases fn <;> (simp only [compOp, Bool.cond_eq_ite, reduceCtorEq] at h; try ((repeat' split at h) <;> simp at h))
  case slice t y l hh mx => cases mx <;> cases l <;> cases hh <;> (simp only [compOp, reduceCtorEq] at h; try ((repeat' split at h) <;> simp at h))
  case makeMap t rsv => cases rsv <;> (simp only [compOp, reduceCtorEq] at h; try ((repeat' split at h) <;> simp at h))
  all_goals (simp only [compOp, Bool.cond_eq_ite, reduceCtorEq] at h; try ((repeat' split at h) <;> simp at h))
theorem inv_mentry {o : Oper} {m : AX} (h : compOp P o = some (.mentry m)) : ∃ M, o.op = .entry M ∧ compX M = some m := by
  obtain ⟨dst, op, type, pos, after, guard⟩ := o
  cases op
  case entry M =>
    simp only [compOp, Option.map_eq_some_iff] at h
    obtain ⟨y, hy, e⟩ := h
    cases e
    exact ⟨M, rfl, hy⟩
  case call c =>
    obtain ⟨callee, args, ts⟩ := c
    cases callee with
    | value f => cases f <;> (simp only [compOp] at h; (repeat' split at h) <;> simp at h)
    | invoke => simp [compOp] at h
    | builtin b => cases b <;> simp only [compOp, reduceCtorEq, Bool.cond_eq_ite] at h <;> ((repeat' split at h) <;> simp at h)
  case unOp u t y => cases u <;> simp [compOp] at h
  case next y b => cases b <;> simp [compOp] at h
  case makeFunc fn f c => cases fn <;> (simp only [compOp, Bool.cond_eq_ite, reduceCtorEq] at h; try ((repeat' split at h) <;> simp at h))
  case slice t y l hh mx => cases mx <;> cases l <;> cases hh <;> (simp only [compOp, reduceCtorEq] at h; try ((repeat' split at h) <;> simp at h))
  case makeMap t rsv => cases rsv <;> (simp only [compOp, reduceCtorEq] at h; try ((repeat' split at h) <;> simp at h))
  all_goals (simp only [compOp, Bool.cond_eq_ite, reduceCtorEq] at h; try ((repeat' split at h) <;> simp at h))
theorem inv_isnil {o : Oper} {neg : Bool} {y : AX} (h : compOp P o = some (.isnil neg y)) : ∃ t X Y t2 e, o.op = .binOp (bif neg then .neq else .eql) t X Y t2 ∧ P.underlying t = some (.slice e) ∧ compX X = some y ∧ compX Y = some (.k (.c .nil)) := by
  obtain ⟨dst, op, type, pos, after, guard⟩ := o
  cases op
  case binOp op t X Y t2 =>
    simp only [compOp] at h
    split at h
    · rename_i y' z' hy hz
      split at h
      · simp at h
      · split at h
        · split at h <;> simp at h
        · split at h
          · rename_i hsl
            unfold isSliceT at hsl
            split at hsl
            · rename_i e he
              split at h
              · simp at h; obtain ⟨rfl, rfl⟩ := h
                exact ⟨t, X, Y, t2, e, rfl, he, hy, hz⟩
              · simp at h; obtain ⟨rfl, rfl⟩ := h
                exact ⟨t, X, Y, t2, e, rfl, he, hy, hz⟩
              · cases h
            · cases hsl
          · split at h
            · split at h <;> simp at h
            · split at h <;> simp at h
    · cases h
  case call c =>
    obtain ⟨callee, args, ts⟩ := c
    cases callee with
    | value f => cases f <;> (simp only [compOp] at h; (repeat' split at h) <;> simp at h)
    | invoke => simp [compOp] at h
    | builtin b => cases b <;> simp only [compOp, reduceCtorEq, Bool.cond_eq_ite] at h <;> ((repeat' split at h) <;> simp at h)
  case unOp u t y => cases u <;> simp [compOp] at h
  case next y b => cases b <;> simp [compOp] at h
  case makeFunc fn f c => cases fn <;> (simp only [compOp, Bool.cond_eq_ite, reduceCtorEq] at h; try ((repeat' split at h) <;> simp at h))
  case makeMap t r => cases r <;> simp [compOp] at h <;> ((repeat' split at h) <;> simp at h)
  case slice t x lo hi mx => cases mx <;> cases lo <;> cases hi <;> (simp only [compOp, Bool.cond_eq_ite, reduceCtorEq] at h; try ((repeat' split at h) <;> simp at h))
  all_goals (simp only [compOp, Bool.cond_eq_ite, reduceCtorEq] at h; try ((repeat' split at h) <;> simp at h))
end
end Go.AL

namespace Go.AL
open Go Go.RowKit
def AK.isPure : AK → Bool
  | .box .. | .alloc .. | .bslice .. | .st .. | .app .. | .mks .. | .slc .. | .call .. | .callv .. | .mkmap .. | .mset .. | .isnil .. | .cpy .. | .mdel .. | .mrange .. | .mnext .. | .mentry .. => false
  | _ => true
theorem sBody_pure {P : Program} {K : St → Prop} {dst : Option Nat} {op : AK} {g : Option (Nat × Bool)} {G : Bool} {σ : St} (h : op.isPure = true) :
    sBody P K σ dst op g G = (match dst, pop G σ op with
        | some d, some (v, ob) => d < σ.n ∧ (G = true → ob) ∧ K (σ.put d (AV.under g G v))
        | _, _ => False) := by
  cases op <;> first | (cases h; done) | rfl
section
variable {x : Ctx} {S : Nat → Prop} {φ : Nat → Value} {σ : St} {a : Act} {w : World} {P : Program}
theorem elem_rel {r : AV} {v : Value} {ds : List CD} (h : AVR x w S φ r v) (he : r.elem = some ds) : ∃ us : List Value, v.cells = us.toArray ∧ us.length = ds.length ∧ ∀ (j : Nat) (d : CD) (u : Value), ds[j]? = some d → us[j]? = some u → Rd w S d u := by
  cases r <;> simp only [AV.elem, reduceCtorEq] at he
  case c d =>
    simp at he; subst he
    cases h with
    | c h =>
      refine ⟨[v], cells_one h.oneCell, rfl, fun j d' u hd hu => ?_⟩
      cases j with
      | zero => simp at hd hu; subst hd; subst hu; exact h
      | succ j => simp at hd
  case agg cs =>
    obtain ⟨h1, h2⟩ := toCDs_get he
    cases h with
    | @agg _ vs hl hr _ =>
      refine ⟨vs, rfl, hl.trans h1, fun j d u hd hu => ?_⟩
      have := hr j _ u (h2 j d hd) hu
      cases this with
      | c h => exact h
theorem elems_get : ∀ {rs : List AV} {xs : List (List CD)}, elems rs = some xs → rs.length = xs.length ∧ ∀ (j : Nat) (r : AV) (y : List CD), rs[j]? = some r → xs[j]? = some y → r.elem = some y
  | [], xs, h => by simp [elems] at h; subst h; simp
  | r :: rs, xs, h => by
    simp only [elems] at h
    split at h
    · rename_i y ys hy hys
      simp at h; subst h
      obtain ⟨h1, h2⟩ := elems_get hys
      refine ⟨by simp [h1], fun j r' y' hj hy' => ?_⟩
      cases j with
      | zero => simp at hj hy'; subst hj; subst hy'; exact hy
      | succ j => exact h2 j r' y' (by simpa using hj) (by simpa using hy')
    · cases h
theorem valObs_get {G : Bool} : ∀ {ys : List AX}, valObs G σ ys → ∀ (j : Nat) (y : AX), ys[j]? = some y → ((σ.ev y).val G).2
  | [], _, j, y, h => by simp at h
  | z :: ys, h, j, y, hj => by
    simp only [valObs] at h
    cases j with
    | zero => simp at hj; subst hj; exact h.1
    | succ j => exact valObs_get h.2 j y (by simpa using hj)
theorem seqParts_get : ∀ {ps : List (Nat × Operand)} {i : Nat} {ys : List AX}, seqParts i ps = some ys → ps.length = ys.length ∧ ∀ (j : Nat) (p : Nat × Operand) (y : AX), ps[j]? = some p → ys[j]? = some y → p.1 = i + j ∧ compX p.2 = some y
  | [], i, ys, h => by simp [seqParts] at h; subst h; simp
  | (n, X) :: ps, i, ys, h => by
    simp only [seqParts] at h
    cases hb : Nat.beq i n with
    | false => rw [hb] at h; cases h
    | true =>
      rw [hb] at h
      have := Nat.eq_of_beq_eq_true hb; subst this
      simp only [cond_true] at h
      split at h
      · rename_i y ys' hy hys
        simp at h; subst h
        obtain ⟨h1, h2⟩ := seqParts_get hys
        refine ⟨by simp [h1], fun j p y' hj hy' => ?_⟩
        cases j with
        | zero => simp at hj hy'; subst hj; subst hy'; exact ⟨rfl, hy⟩
        | succ j =>
          obtain ⟨q1, q2⟩ := h2 j p y' (by simpa using hj) (by simpa using hy')
          exact ⟨by omega, q2⟩
      · cases h
theorem lensOk_mem {k : Nat} : ∀ {xs : List (List CD)}, lensOk k xs → ∀ y ∈ xs, y.length = k
  | [], _, y, h => by simp at h
  | z :: xs, h, y, hy => by
    simp only [lensOk] at h
    rcases List.mem_cons.1 hy with rfl | hy
    · exact h.1
    · exact lensOk_mem h.2 y hy
theorem elems_vals {xs : List (List CD)} : ∀ {vs : List Value} {rs : List AV}, vs.length = rs.length → elems rs = some xs → (∀ (j : Nat) (r : AV) (v : Value), rs[j]? = some r → vs[j]? = some v → AVR x w S φ r v) →
    ∃ uss : List (List Value), uss.length = vs.length ∧ (∀ (j : Nat) (v : Value) (us : List Value), vs[j]? = some v → uss[j]? = some us → v.cells = us.toArray) ∧
      ∀ (j : Nat) (us : List Value) (y : List CD), uss[j]? = some us → xs[j]? = some y → us.length = y.length ∧ ∀ (i : Nat) (d : CD) (u : Value), y[i]? = some d → us[i]? = some u → Rd w S d u := by
  induction xs with
  | nil =>
    intro vs rs hl he hr
    have h1 := (elems_get he).1
    have : vs = [] := List.eq_nil_of_length_eq_zero (by simp only [List.length_nil] at h1; omega)
    subst this
    exact ⟨[], rfl, by simp, by simp⟩
  | cons y xs ih =>
    intro vs rs hl he hr
    cases rs with
    | nil => simp [elems] at he
    | cons r rs =>
      cases vs with
      | nil => simp at hl
      | cons v vs =>
        simp only [elems] at he
        split at he
        · rename_i y' ys hy hys
          simp at he
          obtain ⟨rfl, rfl⟩ := he
          obtain ⟨us, g1, g2, g3⟩ := elem_rel (hr 0 r v rfl rfl) hy
          obtain ⟨uss, q1, q2, q3⟩ := ih (vs := vs) (rs := rs) (by simpa using hl) hys (fun j r v hr' hv => hr (j + 1) r v (by simpa using hr') (by simpa using hv))
          refine ⟨us :: uss, by simp [q1], fun j v' us' hv hu => ?_, fun j us' y' hu hy' => ?_⟩
          · cases j with
            | zero => simp at hv hu; subst hv; subst hu; exact g1
            | succ j => exact q2 j v' us' (by simpa using hv) (by simpa using hu)
          · cases j with
            | zero => simp at hu hy'; subst hu; subst hy'; exact ⟨g2, g3⟩
            | succ j => exact q3 j us' y' (by simpa using hu) (by simpa using hy')
        · cases he
theorem flatten_get {k : Nat} : ∀ (uss : List (List Value)), (∀ us ∈ uss, us.length = k) → ∀ (i j : Nat) (us : List Value), uss[i]? = some us → j < k → uss.flatten[i * k + j]? = us[j]?
  | [], _, i, j, us, h, _ => by simp at h
  | u :: uss, hk, 0, j, us, h, hj => by
    simp at h; subst h
    have := hk u (by simp)
    rw [List.flatten_cons, List.getElem?_append_left (by omega)]; simp
  | u :: uss, hk, i + 1, j, us, h, hj => by
    have := hk u (by simp)
    rw [List.flatten_cons, List.getElem?_append_right (by rw [Nat.add_mul]; omega), this, show (i + 1) * k + j - k = i * k + j by rw [Nat.add_mul]; omega]
    exact flatten_get uss (fun us h => hk us (by simp [h])) i j us (by simpa using h) hj
theorem flatten_len {k : Nat} : ∀ (uss : List (List Value)), (∀ us ∈ uss, us.length = k) → uss.flatten.length = uss.length * k
  | [], _ => by simp
  | u :: uss, hk => by
    have := hk u (by simp)
    rw [List.flatten_cons, List.length_append, flatten_len uss (fun us h => hk us (by simp [h])), this, List.length_cons, Nat.add_mul]; omega
theorem rowMk_inv {σ : St} {g : Option (Nat × Bool)} {l : List AX} {id ek k : Nat} (h : rowMk σ g l = some (id, ek, k)) : g = none ∧ ∃ y xs, l = [y] ∧ σ.ev y = .own id ∧ obGet id σ.ob = some (.arr ek k xs) := by
  unfold rowMk at h
  split at h
  · rename_i x
    unfold rowMk1 at h
    split at h
    · rename_i id' _ hx
      unfold rowMk2 at h
      split at h
      · rename_i ek' k' xs ho
        simp only [Option.some.injEq, Prod.mk.injEq] at h
        obtain ⟨rfl, rfl, rfl⟩ := h
        exact ⟨rfl, x, xs, rfl, hx, ho⟩
      · cases h
    · cases h
  · cases h
theorem bslice1_sound (hs : Sim x S φ σ a w) {t e len : Nat} {parts : Array (Nat × Operand)} {y : AX} {v : Value} (hu : P.underlying t = some (.slice e)) (hp : seqParts 0 parts.toList = some [y]) (hk : cellsNum P e = some 1) (hl : [y].length = len) (hz : (zeroOf P e).isSome = true)
    (hv : ∀ X, compX X = some y → a.eval X = v) (hvc : v.cells = #[v]) :
    (Instr.buildSlice t len (parts.map fun p => (p.1, a.eval p.2))).run P w = .ok (.slice (some ⟨w.heap.size, 0, none⟩) 1 1) (w.alloc (.cells #[v] e)) := by
  obtain ⟨h1, h2⟩ := seqParts_get hp
  have hk' := hk
  unfold cellsNum at hk'
  simp only [Option.map_eq_some_iff] at hk'
  obtain ⟨inf, hinf, hsz⟩ := hk'
  have hz' : ∃ z, inf.zero = some z := by
    unfold zeroOf at hz
    rw [hinf] at hz
    simp only [Option.bind_some] at hz
    cases hq : inf.zero with
    | none => rw [hq] at hz; simp at hz
    | some z => exact ⟨z, rfl⟩
  obtain ⟨z, hz'⟩ := hz'
  subst hl
  obtain ⟨q, hq⟩ : ∃ q, parts.toList = [q] := List.length_eq_one_iff.1 h1
  obtain ⟨h3, h4⟩ := h2 0 q y (by rw [hq]; rfl) rfl
  have hmap : (parts.map fun p => (p.1, a.eval p.2)).toList = [(q.1, a.eval q.2)] := by rw [Array.toList_map, hq]; rfl
  have hev : a.eval q.2 = v := hv _ h4
  have hfill : ∀ zs : List Value, zs.length = 1 → Instr.fill (fun j => some (j * 1, 1)) zs.toArray (parts.map fun p => (p.1, a.eval p.2)).toList = some #[v] := by
    intro zs hzl
    rw [hmap, fill_seq 1 [(q.1, a.eval q.2)] 0 [[v]] zs (by simp) (fun j p us hp hu => by
      cases j with
      | zero =>
        simp at hp hu
        subst hp; subst hu
        exact ⟨by simpa using h3, by rw [hev, hvc], rfl⟩
      | succ j => simp at hp) (by simp [hzl])]
    simp
    exact List.eq_nil_of_length_eq_zero (by simp [hzl])
  have hf0 := hfill ((Array.range (1 * 1)).map (z.cells[· % z.cells.size]!)).toList (by simp)
  simp only [Array.toArray_toList] at hf0
  simp only [Instr.buildSlice, Sem.run_bind, run_underlying hu, run_sizeOf hinf, hsz, Result.andThen_ok, List.length_cons, List.length_nil]
  rw [if_neg (by omega)]
  simp only [Sem.run_bind, Sem.run_pure, Result.andThen_ok, zeroValue, typeInfo, run_program, hinf, hz']
  rw [if_neg (by omega)]
  simp only [Sem.run_bind, Sem.run_pure, Result.andThen_ok, zeroValue, typeInfo, run_program, hinf, hz']
  rw [show (0 + 1) * 1 = 1 * 1 from rfl, hf0]
  simp [newRow]
theorem bslice_sound (hs : Sim x S φ σ a w) {t e k len : Nat} {parts : Array (Nat × Operand)} {ys : List AX} {xs : List (List CD)} (hu : P.underlying t = some (.slice e)) (hp : seqParts 0 parts.toList = some ys) (hk : cellsNum P e = some k) (hl : ys.length = len) (hm : len ≤ 16777216 ∧ len * k ≤ 16777216)
    (hob : valObs true σ ys) (hxs : elems (ys.map fun y => ((σ.ev y).val true).1) = some xs) (hlen : lensOk k xs) (hz : (zeroOf P e).isSome = true) :
    ∃ v ob, (Instr.buildSlice t len (parts.map fun p => (p.1, a.eval p.2))).run P w = .ok v (w.alloc ob) ∧ AVR x (w.alloc ob) (fun b => S b ∨ b = w.heap.size) φ (.c (.sl k xs)) v ∧ ArrR (w.alloc ob) S e k xs v ∧ Value.blk v = some w.heap.size ∧ ∃ A, v = .slice A xs.length xs.length := by
  obtain ⟨h1, h2⟩ := seqParts_get hp
  obtain ⟨h3, h4⟩ := elems_get hxs
  have hk' := hk
  unfold cellsNum at hk'
  simp only [Option.map_eq_some_iff] at hk'
  obtain ⟨inf, hinf, hsz⟩ := hk'
  have hz' : ∃ z, inf.zero = some z := by
    unfold zeroOf at hz
    rw [hinf] at hz
    simp only [Option.bind_some] at hz
    cases hq : inf.zero with
    | none => rw [hq] at hz; simp at hz
    | some z => exact ⟨z, rfl⟩
  obtain ⟨z, hz'⟩ := hz'
  have hpl : parts.toList.length = len := h1.trans hl
  have hxl : xs.length = len := by rw [← h3]; simp [hl]
  obtain ⟨uss, q1, q2, q3⟩ := elems_vals (x := x) (w := w) (S := S) (φ := φ) (vs := parts.toList.map fun p => a.eval p.2) (rs := ys.map fun y => ((σ.ev y).val true).1) (by simp; omega) hxs (fun j r v hr hv => by
    simp only [List.getElem?_map, Option.map_eq_some_iff] at hr hv
    obtain ⟨y, hy, rfl⟩ := hr
    obtain ⟨p, hp', rfl⟩ := hv
    exact arg_sound hs rfl (h2 j p y hp' hy).2 (valObs_get hob j y hy))
  have hul : uss.length = len := by rw [q1]; simp [hpl]
  have huk : ∀ us ∈ uss, us.length = k := fun us hus => by
    obtain ⟨j, hj⟩ := List.getElem?_of_mem hus
    have hjl : j < xs.length := by rw [hxl, ← hul]; exact (List.getElem?_eq_some_iff.1 hj).1
    rw [(q3 j us _ hj (List.getElem?_eq_getElem hjl)).1]
    exact lensOk_mem hlen _ (List.getElem_mem hjl)
  have hfl := flatten_len uss huk
  have hfill : ∀ zs : List Value, zs.length = len * k → Instr.fill (fun j => some (j * k, k)) zs.toArray (parts.map fun p => (p.1, a.eval p.2)).toList = some uss.flatten.toArray := by
    intro zs hzl
    have := fill_seq k ((parts.toList.map fun p => (p.1, a.eval p.2))) 0 uss zs (by simp [hpl, hul]) (fun j p us hpj huj => by
      simp only [List.getElem?_map, Option.map_eq_some_iff] at hpj
      obtain ⟨p0, hp0, rfl⟩ := hpj
      have hjl : j < ys.length := by rw [← h1]; exact (List.getElem?_eq_some_iff.1 hp0).1
      refine ⟨(h2 j p0 _ hp0 (List.getElem?_eq_getElem hjl)).1, q2 j _ us (by simp [hp0]) huj, huk us (List.mem_of_getElem? huj)⟩) (by simp [hpl, hzl])
    rw [Array.toList_map, this]
    simp [hpl, hzl]
  have hrun : (Instr.buildSlice t len (parts.map fun p => (p.1, a.eval p.2))).run P w = .ok (.slice (some ⟨w.heap.size, 0, none⟩) len len) (w.alloc (.cells uss.flatten.toArray e)) := by
    have hm' : ¬ len * k > 2 ^ 24 := by omega
    by_cases h0 : len * k = 0
    · have hf0 := hfill [] (by simp [h0])
      simp only [Instr.buildSlice, Sem.run_bind, run_underlying hu, run_sizeOf hinf, hsz, Result.andThen_ok]
      rw [if_neg hm']
      simp only [Sem.run_bind, Sem.run_pure, Result.andThen_ok, h0, if_true]
      rw [show (Array.range 0).map (fun i => (#[] : Array Value)[i % (#[] : Array Value).size]!) = [].toArray by simp, hf0]
      simp [newRow]
    · have hf0 := hfill ((Array.range (len * k)).map (z.cells[· % z.cells.size]!)).toList (by simp)
      simp only [Array.toArray_toList] at hf0
      simp only [Instr.buildSlice, Sem.run_bind, run_underlying hu, run_sizeOf hinf, hsz, Result.andThen_ok]
      rw [if_neg hm']
      simp only [Sem.run_bind, Sem.run_pure, Result.andThen_ok, h0, if_false, zeroValue, typeInfo, run_program, hinf, hz']
      rw [hf0]
      simp [newRow]
  have hone : ∀ v ∈ uss.flatten, v.oneCell' = true := fun v hv => by
    obtain ⟨us, hus, hvu⟩ := List.mem_flatten.1 hv
    obtain ⟨i, hi⟩ := List.getElem?_of_mem hus
    obtain ⟨j, hj⟩ := List.getElem?_of_mem hvu
    have hil : i < xs.length := by have := (List.getElem?_eq_some_iff.1 hi).1; omega
    obtain ⟨g1, g2⟩ := q3 i us _ hi (List.getElem?_eq_getElem hil)
    have hjl : j < xs[i].length := by rw [← g1]; exact (List.getElem?_eq_some_iff.1 hj).1
    exact (g2 j _ v (List.getElem?_eq_getElem hjl) hj).oneCell
  have hcell : ∀ (i j : Nat) (y : List CD) (d : CD), xs[i]? = some y → y[j]? = some d → ∃ v, uss.flatten[i * k + j]? = some v ∧ Rd w S d v := by
    intro i j y d hy hd
    have hi : i < xs.length := (List.getElem?_eq_some_iff.1 hy).1
    have hj : j < k := by rw [← lensOk_mem hlen y (List.mem_of_getElem? hy)]; exact (List.getElem?_eq_some_iff.1 hd).1
    have hiu : i < uss.length := by omega
    obtain ⟨g1, g2⟩ := q3 i uss[i] y (List.getElem?_eq_getElem hiu) hy
    have hjl : j < uss[i].length := by rw [g1]; exact (List.getElem?_eq_some_iff.1 hd).1
    have hf := flatten_get uss huk i j uss[i] (List.getElem?_eq_getElem hiu) hj
    rw [List.getElem?_eq_getElem hjl] at hf
    exact ⟨_, hf, g2 j d _ hd (List.getElem?_eq_getElem hjl)⟩
  have hrow : ArrR (w.alloc (.cells uss.flatten.toArray e)) S e k xs (.slice (some ⟨w.heap.size, 0, none⟩) len len) := by
    rw [← hxl]
    refine .row (alloc_heap w _) (Nat.le_refl _) (by unfold maxLen; omega) (by simp [hfl, hul, hxl]) (fun y hy => lensOk_mem hlen y hy) (by simpa using hone) fun i j y d hy hd => ?_
    obtain ⟨v, hv, hr⟩ := hcell i j y d hy hd
    exact ⟨v, by rw [Nat.zero_add, List.getElem?_toArray]; exact hv, hr.ext (Ext.alloc S w _)⟩
  refine ⟨_, _, hrun, ?_, hrow, rfl, _, by rw [hxl]⟩
  rw [← hxl]
  refine .c (.sl (fun i j => uss.flatten.getD (i * k + j) default) (Nat.le_refl _) (by unfold maxLen; omega) (.inr rfl) (fun y hy => lensOk_mem hlen y hy) (fun i j hi hj => ?_) fun i j y d hy hd => ?_)
  · have hlt : i * k + j < uss.flatten.length := by rw [hfl, hul, ← hxl]; exact idx_lt hi hj
    rw [addr_add, cell_of_row _ w.heap.size _ _ e (0, 0) (alloc_heap w _)]
    rw [List.getElem?_toArray, Nat.zero_add, List.getElem?_eq_getElem hlt]
    simp only [List.getD, List.getElem?_eq_getElem hlt, Option.getD_some]
  · have hi : i < xs.length := (List.getElem?_eq_some_iff.1 hy).1
    have hj : j < k := by rw [← lensOk_mem hlen y (List.mem_of_getElem? hy)]; exact (List.getElem?_eq_some_iff.1 hd).1
    have hiu : i < uss.length := by omega
    obtain ⟨g1, g2⟩ := q3 i uss[i] y (List.getElem?_eq_getElem hiu) hy
    have hjl : j < uss[i].length := by rw [g1]; exact (List.getElem?_eq_some_iff.1 hd).1
    have hf := flatten_get uss huk i j uss[i] (List.getElem?_eq_getElem hiu) hj
    rw [List.getElem?_eq_getElem hjl] at hf
    have : uss.flatten.getD (i * k + j) default = uss[i][j] := by simp [List.getD, hf]
    rw [this]
    exact ((g2 j d _ hd (List.getElem?_eq_getElem hjl)).ext (Ext.alloc S w _)).mono fun b hb => .inl hb
end
end Go.AL

