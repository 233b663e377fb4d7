/-
  Lemmas for the proof: no statement of its own.
-/
import Derived.Test.YtdmngdphgnnoiaaAlD
set_option linter.unusedVariables false
set_option linter.unusedSimpArgs false
open Go Go.AL
namespace Go.Proofs.Ytdmngdphgnnoiaa
set_option maxRecDepth 20000
structure Bd where
  (i j : Nat) (c : Int)
deriving Inhabited, DecidableEq
def Wlk (b : List Bd) : Nat → List Nat → Nat → Prop
  | u, [], v => u = v
  | u, e :: r, v => e < b.length ∧ (nth b e).i = u ∧ Wlk b (nth b e).j r v
def sumW (b : List Bd) (ws : List Nat) : Int := (ws.map fun e => (nth b e).c).sum
theorem Wlk.app {b : List Bd} {v : Nat} : ∀ {u : Nat} {A : List Nat} {w : Nat} {B : List Nat}, Wlk b u A w → Wlk b w B v → Wlk b u (A ++ B) v
  | u, [], w, B, h, h' => by cases h; exact h'
  | u, e :: r, w, B, h, h' => ⟨h.1, h.2.1, Wlk.app h.2.2 h'⟩
theorem Wlk.split {b : List Bd} {v : Nat} : ∀ {u : Nat} {A B : List Nat}, Wlk b u (A ++ B) v → ∃ w, Wlk b u A w ∧ Wlk b w B v
  | u, [], B, h => ⟨u, rfl, h⟩
  | u, e :: r, B, h => by
    obtain ⟨w, h1, h2⟩ := Wlk.split (A := r) (B := B) h.2.2
    exact ⟨w, ⟨h.1, h.2.1, h1⟩, h2⟩
theorem sumW_app (b : List Bd) (A B : List Nat) : sumW b (A ++ B) = sumW b A + sumW b B := by simp [sumW, List.sum_append]
theorem sumW_cons (b : List Bd) (e : Nat) (A : List Nat) : sumW b (e :: A) = (nth b e).c + sumW b A := by simp [sumW]
theorem dup_split {α : Type} [DecidableEq α] (f : Nat → α) : ∀ l : List Nat, ¬ (l.map f).Nodup → ∃ A x B y C, l = A ++ x :: B ++ y :: C ∧ f x = f y
  | [], h => absurd (by simp) h
  | a :: r, h => by
    by_cases h1 : f a ∈ r.map f
    · rw [List.mem_map] at h1
      obtain ⟨y, hy, e⟩ := h1
      obtain ⟨B, C, rfl⟩ := List.append_of_mem hy
      exact ⟨[], a, B, y, C, rfl, e.symm⟩
    · have h2 : ¬ (r.map f).Nodup := fun h' => h (by rw [List.map_cons, List.nodup_cons]; exact ⟨h1, h'⟩)
      obtain ⟨A, x, B, y, C, rfl, e⟩ := dup_split f r h2
      exact ⟨a :: A, x, B, y, C, rfl, e⟩
theorem neg_simple (b : List Bd) : ∀ (m : Nat) (u : Nat) (ws : List Nat), ws.length ≤ m → Wlk b u ws u → sumW b ws < 0 → ∃ u ws, Wlk b u ws u ∧ sumW b ws < 0 ∧ (ws.map fun e => (nth b e).i).Nodup
  | 0, u, ws, hm, _, hs => by
    obtain rfl := List.eq_nil_of_length_eq_zero (Nat.le_zero.1 hm)
    simp [sumW] at hs
  | m + 1, u, ws, hm, hw, hs => by
    by_cases hn : (ws.map fun e => (nth b e).i).Nodup
    · exact ⟨u, ws, hw, hs, hn⟩
    · obtain ⟨A, x, B, y, C, rfl, e⟩ := dup_split (fun e => (nth b e).i) ws hn
      have hw' : Wlk b u (A ++ ((x :: B) ++ (y :: C))) u := by simpa using hw
      obtain ⟨p, h1, h2⟩ := hw'.split
      obtain ⟨q, h3, h4⟩ := h2.split
      have hp : (nth b x).i = p := h3.2.1
      have hq : (nth b y).i = q := h4.2.1
      have hpq : p = q := by rw [← hp, ← hq]; exact e
      subst hpq
      have hlen : (A ++ x :: B ++ y :: C).length = A.length + (B.length + 1) + (C.length + 1) := by simp; omega
      have hsum : sumW b (A ++ x :: B ++ y :: C) = sumW b (x :: B) + sumW b (A ++ y :: C) := by rw [sumW_app, sumW_app, sumW_app]; omega
      by_cases h5 : sumW b (x :: B) < 0
      · exact neg_simple b m p (x :: B) (by simp; omega) h3 h5
      · exact neg_simple b m u (A ++ y :: C) (by simp; omega) (h1.app h4) (by omega)
theorem pigeon : ∀ (k : Nat) (l : List Nat), l.Nodup → (∀ x ∈ l, x < k) → l.length ≤ k
  | 0, l, _, h => by
    cases l with
    | nil => simp
    | cons a r => exact absurd (h a (by simp)) (by omega)
  | k + 1, l, hn, h => by
    by_cases hk : k ∈ l
    · have h1 := pigeon k (l.erase k) (hn.erase k) fun x hx => by
        have h2 := (hn.mem_erase_iff).1 hx
        have := h x h2.2
        have := h2.1
        omega
      rw [List.length_erase_of_mem hk] at h1
      omega
    · have h1 := pigeon k l hn fun x hx => by
        have := h x hx
        have : x ≠ k := fun e => hk (e ▸ hx)
        omega
      omega
theorem exists_min : ∀ s : List Nat, s ≠ [] → ∃ a, a ∈ s ∧ ∀ x ∈ s, a ≤ x
  | [], h => absurd rfl h
  | x :: r, _ => by
    by_cases hr : r = []
    · subst hr; exact ⟨x, by simp, fun b hb => by simp at hb; omega⟩
    · obtain ⟨a, ha, hm⟩ := exists_min r hr
      by_cases hx : a ≤ x
      · exact ⟨a, by simp [ha], fun b hb => by
          rcases List.mem_cons.1 hb with rfl | hb
          · exact hx
          · exact hm b hb⟩
      · exact ⟨x, by simp, fun b hb => by
          rcases List.mem_cons.1 hb with rfl | hb
          · omega
          · have := hm b hb; omega⟩
theorem Wlk.mem {b : List Bd} {v : Nat} : ∀ {u : Nat} {A : List Nat}, Wlk b u A v → ∀ e ∈ A, e < b.length
  | u, [], _, e, h => by cases h
  | u, x :: r, h, e, he => by
    rcases List.mem_cons.1 he with rfl | he
    · exact h.1
    · exact Wlk.mem h.2.2 e he
def BdOk (n : Nat) (b : List Bd) : Prop := ∀ e, e < b.length → (nth b e).i < n ∧ (nth b e).j < n ∧ (nth b e).i ≠ (nth b e).j
theorem neg_cycle {n : Nat} {b : List Bd} (hb : BdOk n b) {u : Nat} {ws : List Nat} (hw : Wlk b u ws u) (hs : sumW b ws < 0) :
    ∃ e r, e < b.length ∧ Wlk b (nth b e).j r (nth b e).i ∧ (nth b e).c + sumW b r < 0 ∧ (∀ x ∈ r, e < x) ∧ 2 ≤ r.length + 1 ∧ r.length + 1 ≤ n := by
  obtain ⟨u, ws, hw, hs, hn⟩ := neg_simple b ws.length u ws (Nat.le_refl _) hw hs
  have hne : ws ≠ [] := fun e => by subst e; simp [sumW] at hs
  obtain ⟨e, he, hmin⟩ := exists_min ws hne
  obtain ⟨A, B, rfl⟩ := List.append_of_mem he
  obtain ⟨p, h1, h2⟩ := hw.split
  have hp : (nth b e).i = p := h2.2.1
  have hel := h2.1
  have hwr : Wlk b (nth b e).j (B ++ A) (nth b e).i := by rw [hp]; exact h2.2.2.app h1
  have hlen : (B ++ A).length + 1 = (A ++ e :: B).length := by simp; omega
  have hle : (A ++ e :: B).length ≤ n := by
    have := pigeon n _ hn fun x hx => by
      rw [List.mem_map] at hx
      obtain ⟨y, hy, rfl⟩ := hx
      exact (hb y (hw.mem y hy)).1
    simpa using this
  have hgt : ∀ x ∈ B ++ A, e < x := fun x hx => by
    have hx' : x ∈ A ++ e :: B := by
      rcases List.mem_append.1 hx with h | h
      · simp [h]
      · simp [h]
    have h3 := hmin x hx'
    refine Nat.lt_of_le_of_ne h3 fun hxe => ?_
    subst hxe
    rw [List.map_append, List.map_cons, List.nodup_append] at hn
    rcases List.mem_append.1 hx with h | h
    · exact absurd (List.mem_map_of_mem h) ((List.nodup_cons.1 hn.2.1).1)
    · exact hn.2.2 _ (List.mem_map_of_mem h) _ (by simp) rfl
  refine ⟨e, B ++ A, hel, hwr, ?_, hgt, ?_, by omega⟩
  · have : sumW b (A ++ e :: B) = (nth b e).c + sumW b (B ++ A) := by
      rw [sumW_app, sumW_cons, sumW_app]; omega
    omega
  · cases hr : B ++ A with
    | nil =>
      rw [hr] at hwr
      exact absurd hwr.symm (hb e hel).2.2
    | cons x r => simp
def lessO (a b : Option Int) : Option Int := match a, b with
  | none, b => b
  | some x, some y => if y < x then some y else some x
  | some x, none => some x
def plusO (a b : Option Int) : Option Int := match a, b with
  | some x, some y => some (x + y)
  | _, _ => none
def stp (b : List Bd) (last : Nat → Option Int) (v : Nat) (acc : Option Int) (e : Nat) : Option Int := if (nth b e).i = v then lessO acc (plusO (some (nth b e).c) (last (nth b e).j)) else acc
def nx (b : List Bd) (last : Nat → Option Int) (es : List Nat) (v : Nat) : Option Int := es.foldl (stp b last v) none
theorem lessO_some {a b : Option Int} {s : Int} (h : lessO a b = some s) : a = some s ∨ b = some s := by
  cases a with
  | none => exact .inr h
  | some x =>
    cases b with
    | none => exact .inl h
    | some y =>
      simp only [lessO] at h
      split at h
      · exact .inr h
      · exact .inl h
theorem lessO_le {a b : Option Int} : (∀ x, a = some x → ∃ s, lessO a b = some s ∧ s ≤ x) ∧ (∀ y, b = some y → ∃ s, lessO a b = some s ∧ s ≤ y) := by
  cases a with
  | none => exact ⟨fun x h => (by cases h), fun y h => ⟨y, h, Int.le_refl _⟩⟩
  | some x =>
    cases b with
    | none => exact ⟨fun z h => ⟨z, h, Int.le_refl _⟩, fun y h => by cases h⟩
    | some y =>
      simp only [lessO]
      by_cases hxy : y < x
      · rw [if_pos hxy]
        exact ⟨fun z h => ⟨y, rfl, by cases h; omega⟩, fun z h => ⟨y, rfl, by cases h; omega⟩⟩
      · rw [if_neg hxy]
        exact ⟨fun z h => ⟨x, rfl, by cases h; omega⟩, fun z h => ⟨x, rfl, by cases h; omega⟩⟩
theorem fold_some (b : List Bd) (last : Nat → Option Int) (v : Nat) (s : Int) : ∀ (es : List Nat) (acc : Option Int), es.foldl (stp b last v) acc = some s → acc = some s ∨ ∃ e ∈ es, (nth b e).i = v ∧ ∃ s', last (nth b e).j = some s' ∧ s = (nth b e).c + s'
  | [], acc, h => .inl h
  | e :: es, acc, h => by
    simp only [List.foldl_cons] at h
    rcases fold_some b last v s es _ h with h1 | ⟨e', he', h1⟩
    · unfold stp at h1
      split at h1
      · rename_i hv
        rcases lessO_some h1 with h2 | h2
        · exact .inl h2
        · cases hl : last (nth b e).j with
          | none => rw [hl] at h2; simp [plusO] at h2
          | some s' =>
            rw [hl] at h2
            simp only [plusO, Option.some.injEq] at h2
            exact .inr ⟨e, by simp, hv, s', hl, h2.symm⟩
      · exact .inl h1
    · exact .inr ⟨e', by simp [he'], h1⟩
theorem fold_le (b : List Bd) (last : Nat → Option Int) (v : Nat) : ∀ (es : List Nat) (acc : Option Int), (∀ x, acc = some x → ∃ s, es.foldl (stp b last v) acc = some s ∧ s ≤ x) ∧
    ∀ e ∈ es, (nth b e).i = v → ∀ s', last (nth b e).j = some s' → ∃ s, es.foldl (stp b last v) acc = some s ∧ s ≤ (nth b e).c + s'
  | [], acc => ⟨fun x h => ⟨x, h, Int.le_refl _⟩, fun e h => by cases h⟩
  | e :: es, acc => by
    obtain ⟨i1, i2⟩ := fold_le b last v es (stp b last v acc e)
    have step : ∀ x, acc = some x → ∃ s, stp b last v acc e = some s ∧ s ≤ x := fun x hx => by
      unfold stp
      split
      · exact lessO_le.1 x hx
      · exact ⟨x, hx, Int.le_refl _⟩
    refine ⟨fun x hx => ?_, fun e' he' hv s' hs' => ?_⟩
    · obtain ⟨s, h1, h2⟩ := step x hx
      obtain ⟨r, h3, h4⟩ := i1 s h1
      exact ⟨r, h3, by omega⟩
    · rcases List.mem_cons.1 he' with rfl | he'
      · have : ∃ s, stp b last v acc e' = some s ∧ s ≤ (nth b e').c + s' := by
          unfold stp
          rw [if_pos hv]
          exact lessO_le.2 _ (by rw [hs']; rfl)
        obtain ⟨s, h1, h2⟩ := this
        obtain ⟨r, h3, h4⟩ := i1 s h1
        exact ⟨r, h3, by omega⟩
      · exact i2 e' he' hv s' hs'
def wkN (b : List Bd) (es : List Nat) (to : Nat) : Nat → Nat → Option Int
  | 0 => fun v => if v = to then some 0 else none
  | t + 1 => nx b (wkN b es to t) es
theorem wkN_some {b : List Bd} {es : List Nat} (hes : ∀ e ∈ es, e < b.length) {to : Nat} : ∀ (t v : Nat) (s : Int), wkN b es to t v = some s → ∃ ws, ws.length = t ∧ (∀ e ∈ ws, e ∈ es) ∧ Wlk b v ws to ∧ sumW b ws = s
  | 0, v, s, h => by
    simp only [wkN] at h
    split at h
    · rename_i hv
      cases h
      exact ⟨[], rfl, by simp, hv, rfl⟩
    · cases h
  | t + 1, v, s, h => by
    rcases fold_some b _ v s es none h with h1 | ⟨e, he, hv, s', hs', rfl⟩
    · cases h1
    · obtain ⟨ws, h1, h2, h3, h4⟩ := wkN_some hes t _ s' hs'
      exact ⟨e :: ws, by simp [h1], fun x hx => by
        rcases List.mem_cons.1 hx with rfl | hx
        · exact he
        · exact h2 x hx, ⟨hes e he, hv, h3⟩, by rw [sumW_cons, h4]⟩
theorem wkN_le {b : List Bd} {es : List Nat} {to : Nat} : ∀ (ws : List Nat) (v : Nat), (∀ e ∈ ws, e ∈ es) → Wlk b v ws to → ∃ s, wkN b es to ws.length v = some s ∧ s ≤ sumW b ws
  | [], v, _, h => ⟨0, by simp only [List.length_nil, wkN]; exact if_pos h, by simp [sumW]⟩
  | e :: ws, v, hes, h => by
    obtain ⟨s', h1, h2⟩ := wkN_le ws _ (fun x hx => hes x (by simp [hx])) h.2.2
    obtain ⟨s, h3, h4⟩ := (fold_le b (wkN b es to ws.length) v es none).2 e (hes e (by simp)) h.2.1 s' h1
    exact ⟨s, h3, by rw [sumW_cons]; omega⟩
theorem wkN_first {b : List Bd} {es : List Nat} {to t v : Nat} {s : Int} (h : wkN b es to (t + 1) v = some s) : ∃ e ∈ es, (nth b e).i = v ∧ ∃ s', wkN b es to t (nth b e).j = some s' ∧ s = (nth b e).c + s' := by
  rcases fold_some b _ v s es none h with h1 | h1
  · cases h1
  · exact h1
end Go.Proofs.Ytdmngdphgnnoiaa

open Go Go.AL
namespace Go.Proofs.Ytdmngdphgnnoiaa
set_option maxRecDepth 20000
abbrev Mx := Nat → Nat → Int
def updM (m : Mx) (i j : Nat) (v : Int) : Mx := fun a b => if a = i ∧ b = j then v else m a b
def stJ (k i : Nat) (m : Mx) (j : Nat) : Mx := updM m i j (min (m i j) (m i k + m k j))
def rowF (n k : Nat) (m : Mx) (i : Nat) : Mx := (List.range n).foldl (stJ k i) m
def roundF (n : Nat) (m : Mx) (k : Nat) : Mx := (List.range n).foldl (rowF n k) m
def rndF (n : Nat) (m : Mx) (K : Nat) : Mx := (List.range K).foldl (roundF n) m
theorem fold_succ {α : Type} (f : α → Nat → α) (m : α) (j : Nat) : (List.range (j + 1)).foldl f m = f ((List.range j).foldl f m) j := by
  rw [List.range_succ, List.foldl_append]; rfl
def LeM (m' m : Mx) : Prop := ∀ a b, m' a b ≤ m a b
theorem LeM.rfl' (m : Mx) : LeM m m := fun _ _ => Int.le_refl _
theorem LeM.tr {a b c : Mx} (h : LeM a b) (h' : LeM b c) : LeM a c := fun x y => Int.le_trans (h x y) (h' x y)
theorem fold_leM {f : Mx → Nat → Mx} (h : ∀ m x, LeM (f m x) m) : ∀ (l : List Nat) (m : Mx), LeM (l.foldl f m) m
  | [], m => .rfl' m
  | x :: l, m => (fold_leM h l (f m x)).tr (h m x)
theorem stJ_le (k i : Nat) (m : Mx) (j : Nat) : LeM (stJ k i m j) m := fun a b => by
  unfold stJ updM
  split
  · rename_i h; rw [h.1, h.2]; omega
  · omega
theorem rowF_le (n k : Nat) (m : Mx) (i : Nat) : LeM (rowF n k m i) m := fold_leM (fun m x => stJ_le k i m x) _ _
theorem roundF_le (n : Nat) (m : Mx) (k : Nat) : LeM (roundF n m k) m := fold_leM (fun m x => rowF_le n k m x) _ _
theorem rndF_le (n : Nat) (m : Mx) (K d : Nat) : LeM (rndF n m (K + d)) (rndF n m K) := by
  induction d with
  | zero => exact .rfl' _
  | succ d ih =>
    have : rndF n m (K + (d + 1)) = roundF n (rndF n m (K + d)) (K + d) := fold_succ _ _ _
    rw [this]
    exact (roundF_le n _ _).tr ih
theorem rowF_eq {n k i : Nat} {m c : Mx} (hk : m k k = 0) (hr : ∀ b, c k b = m k b) (hc : ∀ a, c a k = m a k) : ∀ J, (List.range J).foldl (stJ k i) c = fun a b => if a = i ∧ b < J then min (c i b) (m i k + m k b) else c a b
  | 0 => by
    funext a b
    rw [if_neg (fun h => by omega)]; rfl
  | J + 1 => by
    rw [fold_succ, rowF_eq (n := n) hk hr hc J]
    funext a b
    unfold stJ updM
    have e1 : (if i = i ∧ J < J then min (c i J) (m i k + m k J) else c i J) = c i J := if_neg fun h => by omega
    have e2 : (if i = i ∧ k < J then min (c i k) (m i k + m k k) else c i k) = m i k := by
      split
      · rw [hc, hk]; omega
      · exact hc i
    have e3 : (if k = i ∧ J < J then min (c i J) (m i k + m k J) else c k J) = m k J := by
      rw [if_neg fun h => by omega]; exact hr J
    dsimp only
    rw [e1, e2, e3]
    by_cases h : a = i ∧ b = J
    · rw [if_pos h, if_pos ⟨h.1, by omega⟩, h.2]
    · rw [if_neg h]
      by_cases h2 : a = i ∧ b < J
      · rw [if_pos h2, if_pos ⟨h2.1, by omega⟩]
      · rw [if_neg h2, if_neg fun h3 => by
          rcases Nat.lt_succ_iff_lt_or_eq.1 h3.2 with h4 | h4
          · exact h2 ⟨h3.1, h4⟩
          · exact h ⟨h3.1, h4⟩]
theorem roundF_part {n k : Nat} {m : Mx} (hk : m k k = 0) : ∀ I, (List.range I).foldl (rowF n k) m = fun a b => if a < I ∧ b < n then min (m a b) (m a k + m k b) else m a b
  | 0 => by
    funext a b
    rw [if_neg fun h => by omega]; rfl
  | I + 1 => by
    rw [fold_succ, roundF_part hk I]
    unfold rowF
    rw [rowF_eq (n := n) (m := m) hk (fun b => by
      show (if k < I ∧ b < n then min (m k b) (m k k + m k b) else m k b) = m k b
      split
      · rw [hk]; omega
      · rfl) (fun a => by
      show (if a < I ∧ k < n then min (m a k) (m a k + m k k) else m a k) = m a k
      split
      · rw [hk]; omega
      · rfl) n]
    funext a b
    have e1 : (if I < I ∧ b < n then min (m I b) (m I k + m k b) else m I b) = m I b := if_neg fun h => by omega
    simp only [e1]
    by_cases h : a = I ∧ b < n
    · rw [if_pos h, if_pos ⟨by omega, h.2⟩, h.1]
    · rw [if_neg h]
      by_cases h2 : a < I ∧ b < n
      · rw [if_pos h2, if_pos ⟨by omega, h2.2⟩]
      · rw [if_neg h2, if_neg fun h3 => by
          rcases Nat.lt_succ_iff_lt_or_eq.1 h3.1 with h4 | h4
          · exact h2 ⟨h4, h3.2⟩
          · exact h ⟨h4, h3.2⟩]
theorem roundF_eq {n k : Nat} {m : Mx} (hk : m k k = 0) {a b : Nat} (ha : a < n) (hb : b < n) : roundF n m k a b = min (m a b) (m a k + m k b) := by
  unfold roundF
  rw [roundF_part hk n]
  exact if_pos ⟨ha, hb⟩
theorem rndF_succ (n : Nat) (m : Mx) (K : Nat) : rndF n m (K + 1) = roundF n (rndF n m K) K := fold_succ _ _ _
theorem rndF_diag {n : Nat} {m : Mx} (hz : ∀ i, i < n → m i i = 0) (hf : ∀ i, i < n → 0 ≤ rndF n m n i i) {K : Nat} (hK : K ≤ n) {i : Nat} (hi : i < n) : rndF n m K i i = 0 := by
  have h1 := rndF_le n m 0 K i i
  have h2 := rndF_le n m K (n - K) i i
  rw [show K + (n - K) = n by omega] at h2
  rw [Nat.zero_add] at h1
  have h3 := hf i hi
  have h4 : rndF n m 0 i i = 0 := hz i hi
  omega
theorem fw_closed {n : Nat} {m : Mx} (hz : ∀ i, i < n → m i i = 0) (hf : ∀ i, i < n → 0 ≤ rndF n m n i i) : ∀ K, K ≤ n → ∀ i j q, i < n → j < n → q < K → rndF n m K i j ≤ rndF n m K i q + rndF n m K q j
  | 0, _, _, _, _, _, _, h => by omega
  | K + 1, hK, i, j, q, hi, hj, hq => by
    have hd := rndF_diag hz hf (K := K) (by omega) (i := K) (by omega)
    have ih := fw_closed hz hf K (by omega)
    rw [rndF_succ]
    generalize rndF n m K = d at *
    have hqn : q < n := by omega
    rw [roundF_eq hd hi hj, roundF_eq hd hi hqn, roundF_eq hd hqn hj]
    rcases Nat.lt_succ_iff_lt_or_eq.1 hq with hq | rfl
    · have t1 := ih i j q hi hj hq
      have t2 := ih K j q (by omega) hj hq
      have t3 := ih i K q hi (by omega) hq
      have t4 := ih K K q (by omega) (by omega) hq
      omega
    · omega
abbrev Mo := Nat → Nat → Option Int
def updO (m : Mo) (i j : Nat) (v : Option Int) : Mo := fun a b => if a = i ∧ b = j then v else m a b
def stO (k i : Nat) (m : Mo) (j : Nat) : Mo := updO m i j (lessO (m i j) (plusO (m i k) (m k j)))
def rowO (n k : Nat) (m : Mo) (i : Nat) : Mo := (List.range n).foldl (stO k i) m
def roundO (n : Nat) (m : Mo) (k : Nat) : Mo := (List.range n).foldl (rowO n k) m
def rndO (n : Nat) (m : Mo) (K : Nat) : Mo := (List.range K).foldl (roundO n) m
theorem fold_inv {α : Type} {P : α → Prop} {f : α → Nat → α} (l : List Nat) (h : ∀ m x, x ∈ l → P m → P (f m x)) : ∀ m, P m → P (l.foldl f m) := by
  induction l with
  | nil => intro m hm; exact hm
  | cons x l ih =>
    intro m hm
    exact ih (fun m y hy => h m y (by simp [hy])) _ (h m x (by simp) hm)
def SndO (b : List Bd) (d : Mo) : Prop := ∀ i j s, d i j = some s → ∃ ws, Wlk b i ws j ∧ sumW b ws = s
theorem stO_snd {b : List Bd} {k i : Nat} {d : Mo} {j : Nat} (h : SndO b d) : SndO b (stO k i d j) := fun a c s hs => by
  unfold stO updO at hs
  split at hs
  · rename_i hac
    rcases lessO_some hs with h1 | h1
    · rw [hac.1, hac.2]; exact h i j s h1
    · cases h2 : d i k with
      | none => rw [h2] at h1; simp [plusO] at h1
      | some x =>
        cases h3 : d k j with
        | none => rw [h2, h3] at h1; simp [plusO] at h1
        | some y =>
          rw [h2, h3] at h1
          simp only [plusO, Option.some.injEq] at h1
          obtain ⟨A, a1, a2⟩ := h i k x h2
          obtain ⟨B, b1, b2⟩ := h k j y h3
          rw [hac.1, hac.2]
          exact ⟨A ++ B, a1.app b1, by rw [sumW_app]; omega⟩
  · exact h a c s hs
theorem rndO_snd {b : List Bd} {n : Nat} {d : Mo} (h : SndO b d) (K : Nat) : SndO b (rndO n d K) :=
  fold_inv _ (fun m k _ hm => fold_inv _ (fun m i _ hm => fold_inv _ (fun m j _ hm => stO_snd hm) m hm) m hm) d h
def RelM (n : Nat) (d : Mo) (m : Mx) : Prop := ∀ a b, a < n → b < n → d a b = some (m a b)
theorem stO_rel {n k i j : Nat} {d : Mo} {m : Mx} (hk : k < n) (hi : i < n) (hj : j < n) (h : RelM n d m) : RelM n (stO k i d j) (stJ k i m j) := fun a b ha hb => by
  unfold stO stJ updO updM
  by_cases hab : a = i ∧ b = j
  · rw [if_pos hab, if_pos hab, h i j hi hj, h i k hi hk, h k j hk hj]
    simp only [plusO, lessO]
    split
    · congr 1; omega
    · congr 1; omega
  · rw [if_neg hab, if_neg hab]; exact h a b ha hb
theorem fold_rel {α β : Type} {R : α → β → Prop} {f : α → Nat → α} {g : β → Nat → β} (l : List Nat) (h : ∀ x y e, e ∈ l → R x y → R (f x e) (g y e)) : ∀ x y, R x y → R (l.foldl f x) (l.foldl g y) := by
  induction l with
  | nil => intro x y hxy; exact hxy
  | cons a l ih =>
    intro x y hxy
    exact ih (fun x y e he => h x y e (by simp [he])) _ _ (h x y a (by simp) hxy)
theorem roundO_rel {n k : Nat} {d : Mo} {m : Mx} (hk : k < n) (h : RelM n d m) : RelM n (roundO n d k) (roundF n m k) :=
  fold_rel (R := RelM n) (f := rowO n k) (g := rowF n k) _ (fun x y i hi hxy => fold_rel (R := RelM n) (f := stO k i) (g := stJ k i) _ (fun x y j hj hxy => stO_rel hk (List.mem_range.1 hi) (List.mem_range.1 hj) hxy) x y hxy) d m h
theorem rowO_eq {k i : Nat} {m c : Mo} (hk : m k k = some 0) (hr : ∀ b, c k b = m k b) (hc : ∀ a, c a k = m a k) : ∀ J, (List.range J).foldl (stO k i) c = fun a b => if a = i ∧ b < J then lessO (c i b) (plusO (m i k) (m k b)) else c a b
  | 0 => by
    funext a b
    rw [if_neg (fun h => by omega)]; rfl
  | J + 1 => by
    rw [fold_succ, rowO_eq hk hr hc J]
    funext a b
    unfold stO updO
    have z : ∀ x : Option Int, lessO x (plusO x (some 0)) = x := fun x => by
      cases x with
      | none => rfl
      | some x => simp [lessO, plusO]
    have e1 : (if i = i ∧ J < J then lessO (c i J) (plusO (m i k) (m k J)) else c i J) = c i J := if_neg fun h => by omega
    have e2 : (if i = i ∧ k < J then lessO (c i k) (plusO (m i k) (m k k)) else c i k) = m i k := by
      split
      · rw [hc, hk, z]
      · exact hc i
    have e3 : (if k = i ∧ J < J then lessO (c i J) (plusO (m i k) (m k J)) else c k J) = m k J := by
      rw [if_neg fun h => by omega]; exact hr J
    dsimp only
    rw [e1, e2, e3]
    by_cases h : a = i ∧ b = J
    · rw [if_pos h, if_pos ⟨h.1, by omega⟩, h.2]
    · rw [if_neg h]
      by_cases h2 : a = i ∧ b < J
      · rw [if_pos h2, if_pos ⟨h2.1, by omega⟩]
      · rw [if_neg h2, if_neg fun h3 => by
          rcases Nat.lt_succ_iff_lt_or_eq.1 h3.2 with h4 | h4
          · exact h2 ⟨h3.1, h4⟩
          · exact h ⟨h3.1, h4⟩]
theorem roundO_part {n k : Nat} {m : Mo} (hk : m k k = some 0) : ∀ I, (List.range I).foldl (rowO n k) m = fun a b => if a < I ∧ b < n then lessO (m a b) (plusO (m a k) (m k b)) else m a b
  | 0 => by
    funext a b
    rw [if_neg fun h => by omega]; rfl
  | I + 1 => by
    have z : ∀ x : Option Int, lessO x (plusO x (some 0)) = x := fun x => by
      cases x with
      | none => rfl
      | some x => simp [lessO, plusO]
    have z' : ∀ x : Option Int, lessO x (plusO (some 0) x) = x := fun x => by
      cases x with
      | none => rfl
      | some x => simp [lessO, plusO]
    rw [fold_succ, roundO_part hk I]
    unfold rowO
    rw [rowO_eq (m := m) hk (fun b => by
      show (if k < I ∧ b < n then lessO (m k b) (plusO (m k k) (m k b)) else m k b) = m k b
      split
      · rw [hk, z']
      · rfl) (fun a => by
      show (if a < I ∧ k < n then lessO (m a k) (plusO (m a k) (m k k)) else m a k) = m a k
      split
      · rw [hk, z]
      · rfl) n]
    funext a b
    have e1 : (if I < I ∧ b < n then lessO (m I b) (plusO (m I k) (m k b)) else m I b) = m I b := if_neg fun h => by omega
    simp only [e1]
    by_cases h : a = I ∧ b < n
    · rw [if_pos h, if_pos ⟨by omega, h.2⟩, h.1]
    · rw [if_neg h]
      by_cases h2 : a < I ∧ b < n
      · rw [if_pos h2, if_pos ⟨by omega, h2.2⟩]
      · rw [if_neg h2, if_neg fun h3 => by
          rcases Nat.lt_succ_iff_lt_or_eq.1 h3.1 with h4 | h4
          · exact h2 ⟨h4, h3.2⟩
          · exact h ⟨h4, h3.2⟩]
theorem roundO_eq {n k : Nat} {m : Mo} (hk : m k k = some 0) {a b : Nat} (ha : a < n) (hb : b < n) : roundO n m k a b = lessO (m a b) (plusO (m a k) (m k b)) := by
  unfold roundO
  rw [roundO_part hk n]
  exact if_pos ⟨ha, hb⟩
def baseM (E : Int) : Mx := fun a b => if a = b then 0 else E
def baseO : Mo := fun a b => if a = b then some 0 else none
def inM (E : Int) (b : List Bd) : Mx := b.foldl (fun m e => updM m e.i e.j (min (m e.i e.j) e.c)) (baseM E)
def inO (b : List Bd) : Mo := b.foldl (fun m e => updO m e.i e.j (lessO (m e.i e.j) (some e.c))) baseO
def Rel0 (E : Int) (d : Mo) (m : Mx) : Prop := ∀ a b, d a b = some (m a b) ∨ (d a b = none ∧ m a b = E)
theorem init_rel (E : Int) : ∀ (b : List Bd), (∀ e ∈ b, e.c ≤ E) → ∀ d m, Rel0 E d m → Rel0 E (b.foldl (fun m e => updO m e.i e.j (lessO (m e.i e.j) (some e.c))) d) (b.foldl (fun m e => updM m e.i e.j (min (m e.i e.j) e.c)) m)
  | [], _, d, m, h => h
  | e :: b, he, d, m, h => by
    refine init_rel E b (fun x hx => he x (by simp [hx])) _ _ fun a c => ?_
    unfold updO updM
    dsimp only
    by_cases hac : a = e.i ∧ c = e.j
    · rw [if_pos hac, if_pos hac]
      left
      rcases h e.i e.j with h1 | ⟨h1, h2⟩
      · rw [h1]
        simp only [lessO]
        split
        · congr 1; omega
        · congr 1; omega
      · rw [h1, h2]
        have := he e (by simp)
        simp only [lessO]
        congr 1; omega
    · rw [if_neg hac, if_neg hac]; exact h a c
theorem in_rel {E : Int} {b : List Bd} (he : ∀ e ∈ b, e.c ≤ E) : Rel0 E (inO b) (inM E b) := init_rel E b he _ _ fun a c => by
  unfold baseO baseM
  by_cases h : a = c
  · rw [if_pos h, if_pos h]; exact .inl rfl
  · rw [if_neg h, if_neg h]; exact .inr ⟨rfl, rfl⟩
theorem inM_diag_aux : ∀ (b : List Bd), (∀ e ∈ b, e.i ≠ e.j) → ∀ m : Mx, (∀ a, m a a = 0) → ∀ a, (b.foldl (fun m e => updM m e.i e.j (min (m e.i e.j) e.c)) m) a a = 0
  | [], _, m, h, a => h a
  | e :: b, he, m, h, a => by
    refine inM_diag_aux b (fun x hx => he x (by simp [hx])) _ (fun a => ?_) a
    unfold updM
    dsimp only
    rw [if_neg fun h' => he e (by simp) (h'.1.symm.trans h'.2)]
    exact h a
theorem inM_diag {E : Int} {b : List Bd} (he : ∀ e ∈ b, e.i ≠ e.j) (a : Nat) : inM E b a a = 0 := inM_diag_aux b he _ (fun a => if_pos rfl) a
theorem init_le_aux : ∀ (b : List Bd) (m : Mx), LeM (b.foldl (fun m e => updM m e.i e.j (min (m e.i e.j) e.c)) m) m
  | [], m => .rfl' m
  | e :: b, m => (init_le_aux b _).tr fun a c => by
    unfold updM
    dsimp only
    split
    · rename_i h; rw [h.1, h.2]; omega
    · omega
theorem inM_le {E : Int} : ∀ {b : List Bd} {e : Bd}, e ∈ b → inM E b e.i e.j ≤ e.c := by
  intro b e he
  obtain ⟨A, B, rfl⟩ := List.append_of_mem he
  unfold inM
  rw [List.foldl_append, List.foldl_cons]
  refine Int.le_trans (init_le_aux B _ e.i e.j) ?_
  unfold updM
  rw [if_pos ⟨rfl, rfl⟩]; omega
theorem inO_some {b : List Bd} {e : Bd} (he : e ∈ b) : ∃ s, inO b e.i e.j = some s := by
  have key : ∀ (b : List Bd) (d : Mo) (i j : Nat), (∃ s, d i j = some s) → ∃ s, (b.foldl (fun m e => updO m e.i e.j (lessO (m e.i e.j) (some e.c))) d) i j = some s := by
    intro b
    induction b with
    | nil => intro d i j h; exact h
    | cons x b ih =>
      intro d i j h
      refine ih _ i j ?_
      unfold updO
      dsimp only
      split
      · obtain ⟨s, h1, _⟩ := (lessO_le (a := d x.i x.j) (b := some x.c)).2 x.c rfl
        exact ⟨s, h1⟩
      · exact h
  obtain ⟨A, B, rfl⟩ := List.append_of_mem he
  unfold inO
  rw [List.foldl_append, List.foldl_cons]
  refine key B _ _ _ ?_
  unfold updO
  rw [if_pos ⟨rfl, rfl⟩]
  obtain ⟨s, h1, _⟩ := (lessO_le (a := (A.foldl (fun m e => updO m e.i e.j (lessO (m e.i e.j) (some e.c))) baseO) e.i e.j) (b := some e.c)).2 e.c rfl
  exact ⟨s, h1⟩
theorem inO_snd (b : List Bd) : SndO b (inO b) := by
  have key : ∀ (A : List Bd) (d : Mo), (∀ e ∈ A, ∃ x, x < b.length ∧ nth b x = e) → SndO b d → SndO b (A.foldl (fun m e => updO m e.i e.j (lessO (m e.i e.j) (some e.c))) d) := by
    intro A
    induction A with
    | nil => intro d _ h; exact h
    | cons e A ih =>
      intro d hA h
      refine ih _ (fun x hx => hA x (by simp [hx])) fun a c s hs => ?_
      unfold updO at hs
      dsimp only at hs
      split at hs
      · rename_i hac
        rcases lessO_some hs with h1 | h1
        · rw [hac.1, hac.2]; exact h _ _ s h1
        · simp only [Option.some.injEq] at h1
          obtain ⟨x, hx, hxe⟩ := hA e (by simp)
          exact ⟨[x], ⟨hx, by rw [hxe]; exact hac.1.symm, by rw [hxe]; exact hac.2.symm⟩, by simp [sumW, hxe, h1]⟩
      · exact h a c s hs
  refine key b _ (fun e he => ?_) fun a c s hs => ?_
  · obtain ⟨x, hx, rfl⟩ := List.getElem_of_mem he
    exact ⟨x, hx, nth_eq b x hx⟩
  · unfold baseO at hs
    split at hs
    · rename_i h
      cases hs
      exact ⟨[], h, rfl⟩
    · cases hs
end Go.Proofs.Ytdmngdphgnnoiaa

open Go Go.AL
namespace Go.Proofs.Ytdmngdphgnnoiaa
set_option maxRecDepth 20000
def midO (n : Nat) (m : Mo) (k i j : Nat) : Mo := (List.range j).foldl (stO k i) ((List.range i).foldl (rowO n k) (rndO n m k))
theorem midO_j (n : Nat) (m : Mo) (k i j : Nat) : midO n m k i (j + 1) = stO k i (midO n m k i j) j := fold_succ _ _ _
theorem midO_i (n : Nat) (m : Mo) (k i : Nat) : midO n m k (i + 1) 0 = midO n m k i n := fold_succ _ _ _
theorem rndO_succ (n : Nat) (m : Mo) (k : Nat) : rndO n m (k + 1) = roundO n (rndO n m k) k := fold_succ _ _ _
theorem midO_k (n : Nat) (m : Mo) (k : Nat) : midO n m (k + 1) 0 0 = midO n m k n 0 := rndO_succ n m k
theorem midO_0 (n : Nat) (m : Mo) (k : Nat) : midO n m k 0 0 = rndO n m k := rfl
theorem lp0 (x : Option Int) : lessO x (plusO x (some 0)) = x := by
  cases x with
  | none => rfl
  | some x => simp [lessO, plusO]
theorem lp0' (x : Option Int) : lessO x (plusO (some 0) x) = x := by
  cases x with
  | none => rfl
  | some x => simp [lessO, plusO]
theorem midO_eq {n k : Nat} {m : Mo} (hk : rndO n m k k k = some 0) (i j : Nat) : midO n m k i j = fun a b => if (a < i ∧ b < n) ∨ (a = i ∧ b < j) then lessO (rndO n m k a b) (plusO (rndO n m k a k) (rndO n m k k b)) else rndO n m k a b := by
  unfold midO
  generalize rndO n m k = M at *
  rw [roundO_part hk i]
  rw [rowO_eq (m := M) hk (fun b => by
    show (if k < i ∧ b < n then lessO (M k b) (plusO (M k k) (M k b)) else M k b) = M k b
    split
    · rw [hk, lp0']
    · rfl) (fun a => by
    show (if a < i ∧ k < n then lessO (M a k) (plusO (M a k) (M k k)) else M a k) = M a k
    split
    · rw [hk, lp0]
    · rfl) j]
  funext a b
  by_cases h1 : a = i ∧ b < j
  · rw [if_pos h1, if_neg (show ¬ (i < i ∧ b < n) from fun h => by omega), if_pos (Or.inr h1), h1.1]
  · rw [if_neg h1]
    by_cases h2 : a < i ∧ b < n
    · rw [if_pos h2, if_pos (.inl h2)]
    · rw [if_neg h2, if_neg (fun h => h.elim h2 h1)]
theorem midO_col {n k : Nat} {m : Mo} (hk : rndO n m k k k = some 0) (i j a : Nat) : midO n m k i j a k = rndO n m k a k := by
  rw [midO_eq hk]
  dsimp only
  split
  · rw [hk, lp0]
  · rfl
theorem midO_row {n k : Nat} {m : Mo} (hk : rndO n m k k k = some 0) (i j b : Nat) : midO n m k i j k b = rndO n m k k b := by
  rw [midO_eq hk]
  dsimp only
  split
  · rw [hk, lp0']
  · rfl
def BdO (B : Int) (d : Mo) : Prop := ∀ a b x, d a b = some x → -B ≤ x ∧ x ≤ B
def DgO (n : Nat) (d : Mo) : Prop := ∀ a, a < n → d a a = some 0
theorem plusO_some {a b : Option Int} {s : Int} (h : plusO a b = some s) : ∃ x y, a = some x ∧ b = some y ∧ s = x + y := by
  cases a with
  | none => cases b <;> cases h
  | some x =>
    cases b with
    | none => cases h
    | some y => cases h; exact ⟨x, y, rfl, rfl, rfl⟩
theorem BdO.round {n k : Nat} {B : Int} {m : Mo} (hB : 0 ≤ B) (hk : m k k = some 0) (h : BdO B m) : BdO (2 * B) (roundO n m k) := fun a b s hs => by
  unfold roundO at hs
  rw [roundO_part hk n] at hs
  dsimp only at hs
  have base : ∀ s, m a b = some s → -(2 * B) ≤ s ∧ s ≤ 2 * B := fun s hs => by have := h a b s hs; omega
  split at hs
  · rcases lessO_some hs with h1 | h1
    · exact base s h1
    · obtain ⟨x, y, h2, h3, rfl⟩ := plusO_some h1
      have := h a k x h2
      have := h k b y h3
      omega
  · exact base s hs
theorem roundO_dg {n k : Nat} {m : Mo} (hk : k < n) (h : DgO n m) {a : Nat} (ha : a < n) : ∃ s, roundO n m k a a = some s ∧ s ≤ 0 := by
  rw [roundO_eq (h k hk) ha ha, h a ha]
  obtain ⟨s, h1, h2⟩ := (lessO_le (a := some 0) (b := plusO (m a k) (m k a))).1 0 rfl
  exact ⟨s, h1, h2⟩
def bdB (k : Nat) : Int := 1000000 * 2 ^ k
theorem bdB_pos (k : Nat) : 0 ≤ bdB k := by unfold bdB; exact Int.mul_nonneg (by omega) (Int.pow_nonneg (by omega))
theorem bdB_succ (k : Nat) : bdB (k + 1) = 2 * bdB k := by unfold bdB; rw [Int.pow_succ]; omega
theorem bdB_le : ∀ k, k ≤ 16 → bdB k ≤ 100000000000 := by decide
def okR (n : Nat) (m : Mo) (k : Nat) : Bool := (List.range n).all fun i => decide (0 ≤ (rndO n m (k + 1) i i).getD 0)
def okL (n : Nat) (m : Mo) : Bool := (List.range n).all (okR n m)
theorem okR_dg {n k : Nat} {m : Mo} (hk : k < n) (h : DgO n (rndO n m k)) (ho : okR n m k = true) : DgO n (rndO n m (k + 1)) := fun a ha => by
  have h1 := List.all_eq_true.1 ho a (List.mem_range.2 ha)
  obtain ⟨s, h2, h3⟩ := roundO_dg hk h ha
  rw [← rndO_succ] at h2
  rw [h2] at h1 ⊢
  have h4 := of_decide_eq_true h1
  simp only [Option.getD_some] at h4
  congr 1; omega
theorem inO_all {P : Option Int → Prop} (h0 : P (some 0)) (hn : P none) (hl : ∀ x y, P x → P y → P (lessO x y)) : ∀ (b : List Bd), (∀ e ∈ b, P (some e.c)) → ∀ x y, P (inO b x y) := by
  have key : ∀ (b : List Bd), (∀ e ∈ b, P (some e.c)) → ∀ d : Mo, (∀ x y, P (d x y)) → ∀ x y, P ((b.foldl (fun m e => updO m e.i e.j (lessO (m e.i e.j) (some e.c))) d) x y) := by
    intro b
    induction b with
    | nil => intro _ d h; exact h
    | cons e b ih =>
      intro hb d h
      refine ih (fun x hx => hb x (by simp [hx])) _ fun x y => ?_
      unfold updO
      dsimp only
      split
      · exact hl _ _ (h _ _) (hb e (by simp))
      · exact h x y
  exact fun b hb => key b hb _ fun x y => by unfold baseO; split <;> assumption
theorem inO_bd {b : List Bd} (h : ∀ e ∈ b, -1000000 ≤ e.c ∧ e.c ≤ 1000000) : BdO (bdB 0) (inO b) := fun x y => by
  refine inO_all (P := fun o => ∀ s, o = some s → -bdB 0 ≤ s ∧ s ≤ bdB 0) (fun s hs => by cases hs; decide) (fun s hs => by cases hs) (fun x y hx hy s hs => ?_) b (fun e he s hs => ?_) x y
  · rcases lessO_some hs with h1 | h1
    · exact hx s h1
    · exact hy s h1
  · cases hs
    have := h e he
    have e0 : bdB 0 = 1000000 := rfl
    rw [e0]; omega
theorem inO_diag {b : List Bd} (he : ∀ e ∈ b, e.i ≠ e.j) (a : Nat) : inO b a a = some 0 := by
  have key : ∀ (b : List Bd), (∀ e ∈ b, e.i ≠ e.j) → ∀ d : Mo, (∀ a, d a a = some 0) → ∀ a, (b.foldl (fun m e => updO m e.i e.j (lessO (m e.i e.j) (some e.c))) d) a a = some 0 := by
    intro b
    induction b with
    | nil => intro _ d h; exact h
    | cons e b ih =>
      intro hb d h
      refine ih (fun x hx => hb x (by simp [hx])) _ fun a => ?_
      unfold updO
      dsimp only
      rw [if_neg fun h' => hb e (by simp) (h'.1.symm.trans h'.2)]
      exact h a
  exact key b he _ (fun a => if_pos rfl) a
theorem lim_inv {n : Nat} {m : Mo} (hd : DgO n m) (hb : BdO (bdB 0) m) : ∀ k, k ≤ n → (∀ k', k' < k → okR n m k' = true) → DgO n (rndO n m k) ∧ BdO (bdB k) (rndO n m k)
  | 0, _, _ => ⟨hd, hb⟩
  | k + 1, hk, ho => by
    obtain ⟨h1, h2⟩ := lim_inv hd hb k (by omega) fun k' h => ho k' (by omega)
    refine ⟨okR_dg (by omega) h1 (ho k (by omega)), ?_⟩
    rw [rndO_succ, bdB_succ]
    exact h2.round (bdB_pos k) (h1 k (by omega))
end Go.Proofs.Ytdmngdphgnnoiaa

