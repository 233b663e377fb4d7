/-
  Lemmas for the proof: no statement of its own.
-/
import Derived.Test.YtcimlelkeppoiaaPlainB
import Derived.Test.YtcimlelkeppoiaaPlainC
import Derived.Test.YtcimlelkeppoiaaPlainD
import Derived.Test.YtcimlelkeppoiaaCodeA
set_option linter.unusedVariables false
set_option linter.unusedSimpArgs false
open Go Go.AL
namespace Go.Proofs.Ytcimlelkeppoiaa
set_option maxRecDepth 100000
abbrev ren (p : List Nat) : Nat → Nat := fun i => p.getD i 99
structure okP (n : Nat) (p : List Nat) : Prop where
  len : p.length = n
  lt : ∀ x ∈ p, x < n
  all : ∀ x, x < n → x ∈ p
theorem okQ_iff {n : Nat} {o : List Nat} : okQ n o = true ↔ o.length = n ∧ ∀ x ∈ o, x < n := by
  unfold okQ
  rw [Bool.and_eq_true, List.all_eq_true]
  refine and_congr ⟨Nat.eq_of_beq_eq_true, fun h => h ▸ Nat.beq_refl _⟩ ?_
  exact ⟨fun h x hx => Nat.le_of_ble_eq_true (h x hx), fun h x hx => Nat.ble_eq_true_of_le (h x hx)⟩
theorem memN_iff {o : Nat} : ∀ {l : List Nat}, memN o l = true ↔ o ∈ l
  | [] => by simp [memN]
  | x :: l => by
    simp only [memN, List.mem_cons]
    cases h : Nat.beq o x with
    | true => simp [Nat.eq_of_beq_eq_true h]
    | false =>
      simp only [cond_false]
      rw [memN_iff]
      refine ⟨Or.inr, fun hh => hh.resolve_left fun e => ?_⟩
      rw [e, Nat.beq_refl] at h; cases h
theorem ren_lt {n : Nat} {p : List Nat} (h : okP n p) {i : Nat} (hi : i < n) : ren p i < n := by
  have : i < p.length := by rw [h.len]; exact hi
  show p.getD i 99 < n
  rw [List.getD_eq_getElem?_getD, List.getElem?_eq_getElem this]
  exact h.lt _ (List.getElem_mem this)
theorem ren_ge {n : Nat} {p : List Nat} (h : okP n p) {i : Nat} (hi : n ≤ i) : ren p i = 99 := by
  show p.getD i 99 = 99
  rw [List.getD_eq_getElem?_getD, List.getElem?_eq_none (by rw [h.len]; exact hi)]; rfl
theorem ren_sur {n : Nat} {p : List Nat} (h : okP n p) {x : Nat} (hx : x < n) : ∃ i, i < n ∧ ren p i = x := by
  obtain ⟨i, hi, e⟩ := List.getElem_of_mem (h.all x hx)
  refine ⟨i, by rw [h.len] at hi; exact hi, ?_⟩
  show p.getD i 99 = x
  rw [List.getD_eq_getElem?_getD, List.getElem?_eq_getElem hi]; exact e
theorem ren_map {n : Nat} {p f : List Nat} (hp : okP n p) (hf : okP n f) (hn : n ≤ 99) : okP n (f.map (ren p)) ∧ ∀ i, ren (f.map (ren p)) i = ren p (ren f i) := by
  have e : ∀ i, ren (f.map (ren p)) i = ren p (ren f i) := fun i => by
    rcases Nat.lt_or_ge i n with h | h
    · have hl : i < f.length := by rw [hf.len]; exact h
      show (f.map (ren p)).getD i 99 = ren p (f.getD i 99)
      rw [List.getD_eq_getElem?_getD, List.getD_eq_getElem?_getD, List.getElem?_eq_getElem (by simpa using hl), List.getElem?_eq_getElem hl, List.getElem_map]; rfl
    · rw [ren_ge hf h, ren_ge hp (by omega)]
      show (f.map (ren p)).getD i 99 = 99
      rw [List.getD_eq_getElem?_getD, List.getElem?_eq_none (by rw [List.length_map, hf.len]; exact h)]; rfl
  refine ⟨⟨by rw [List.length_map, hf.len], fun x hx => ?_, fun x hx => ?_⟩, e⟩
  · obtain ⟨y, hy, rfl⟩ := List.mem_map.1 hx
    exact ren_lt hp (hf.lt y hy)
  · obtain ⟨i, hi, rfl⟩ := ren_sur hp hx
    exact List.mem_map.2 ⟨i, hf.all i hi, rfl⟩
theorem enc_inj {n : Nat} : ∀ {a b : List Nat}, a.length = b.length → (∀ x ∈ a, x < 5) → (∀ x ∈ b, x < 5) → enc a = enc b → a = b
  | [], [], _, _, _, _ => rfl
  | [], _ :: _, h, _, _, _ => by simp at h
  | _ :: _, [], h, _, _, _ => by simp at h
  | x :: a, y :: b, h, ha, hb, e => by
    have e' : 5 * enc a + x = 5 * enc b + y := e
    have hx := ha x (by simp)
    have hy := hb y (by simp)
    obtain rfl : x = y := by omega
    have := enc_inj (n := n) (by simpa using h) (fun z hz => ha z (by simp [hz])) (fun z hz => hb z (by simp [hz])) (show enc a = enc b by omega)
    rw [this]
theorem msk_iff {k : Nat} : ∀ {F : List (List Nat)}, (msk F).testBit k = true ↔ ∃ o ∈ F, enc o = k
  | [] => by simp [msk]
  | o :: l => by
    show (msk l ||| 1 <<< enc o).testBit k = true ↔ _
    rw [Nat.testBit_or, Bool.or_eq_true, msk_iff, Nat.one_shiftLeft, Nat.testBit_two_pow]
    simp only [decide_eq_true_eq, List.mem_cons]
    constructor
    · rintro (⟨o', h, e⟩ | h)
      · exact ⟨o', Or.inr h, e⟩
      · exact ⟨o, Or.inl rfl, h⟩
    · rintro ⟨o', rfl | h, e⟩
      · exact Or.inr e
      · exact Or.inl ⟨o', h, e⟩
theorem mskC_eq (bl : List Bool) : ∀ F : List (List Nat), mskC bl F = msk (F.filter (con (pr bl)))
  | [] => rfl
  | o :: l => by
    simp only [mskC, List.filter_cons]
    rw [mskC_eq bl l]
    cases con (pr bl) o <;> rfl
theorem msk_mem {n : Nat} (hn : n ≤ 5) {F G : List (List Nat)} (hF : ∀ o ∈ F, okQ n o = true) (hG : ∀ o ∈ G, okQ n o = true) (h : msk F = msk G) {o : List Nat} (ho : o ∈ F) : o ∈ G := by
  have h1 : (msk F).testBit (enc o) = true := msk_iff.2 ⟨o, ho, rfl⟩
  rw [h] at h1
  obtain ⟨o', h2, e⟩ := msk_iff.1 h1
  have a := okQ_iff.1 (hF o ho)
  have b := okQ_iff.1 (hG o' h2)
  have := enc_inj (n := n) (by rw [a.1, b.1]) (fun x hx => Nat.lt_of_lt_of_le (b.2 x hx) hn) (fun x hx => Nat.lt_of_lt_of_le (a.2 x hx) hn) e
  exact this ▸ h2
theorem bls_mem : ∀ {n : Nat} {l : List Bool}, l.length = n → l ∈ bls n
  | 0, l, h => by obtain rfl := List.length_eq_zero_iff.1 h; simp [bls]
  | n + 1, [], h => by simp at h
  | n + 1, b :: l, h => by
    simp only [bls, List.mem_flatMap]
    refine ⟨l, bls_mem (by simpa using h), ?_⟩
    cases b <;> simp
theorem anyS_iff {T : N} {p : List Nat} : ∀ {l : List N}, anyS T p l = true → ∃ s ∈ l, T = mapN (ren p) s
  | [], h => by simp [anyS] at h
  | s :: l, h => by
    simp only [anyS] at h
    cases hb : beqN T (mapN (fun i => p.getD i 99) s) with
    | true => exact ⟨s, by simp, beqN_eq hb⟩
    | false =>
      rw [hb] at h
      obtain ⟨s', h1, h2⟩ := anyS_iff (l := l) (by simpa using h)
      exact ⟨s', by simp [h1], h2⟩
theorem chk_all {n : Nat} (h1 : 1 ≤ n) (h5 : n ≤ 5) : ∀ s ∈ shp n, chkS n s = true := by
  rcases (by omega : n = 1 ∨ n = 2 ∨ n = 3 ∨ n = 4 ∨ n = 5) with rfl | rfl | rfl | rfl | rfl
  · exact List.all_eq_true.1 chk_1
  · exact List.all_eq_true.1 chk_2
  · exact List.all_eq_true.1 chk_3
  · exact List.all_eq_true.1 chk_4
  · intro s hs
    have e : shp 5 = sh5.getD 0 a0 :: ((sh5.drop 1).take 16 ++ sh5.drop 17) := rfl
    rw [e] at hs
    rcases List.mem_cons.1 hs with rfl | hs
    · exact chk_5a
    · rcases List.mem_append.1 hs with hs | hs
      · exact List.all_eq_true.1 chk_5b s hs
      · exact List.all_eq_true.1 chk_5c s hs
theorem oks_all {n : Nat} (h1 : 1 ≤ n) (h5 : n ≤ 5) : ∀ s ∈ shp n, okS n s = true := by
  rcases (by omega : n = 1 ∨ n = 2 ∨ n = 3 ∨ n = 4 ∨ n = 5) with rfl | rfl | rfl | rfl | rfl
  · exact List.all_eq_true.1 oks_1
  · exact List.all_eq_true.1 oks_2
  · exact List.all_eq_true.1 oks_3
  · exact List.all_eq_true.1 oks_4
  · exact List.all_eq_true.1 oks_5
mutual
theorem smB_iff : ∀ {v : N}, smB v = true → ∀ g : Nat → Nat, (∀ i, g i ≤ 100) → Sm (mapN g v)
  | .nd l q ks, h, g, hg => by
    simp only [smB, Bool.and_eq_true] at h
    obtain ⟨⟨h1, h2⟩, h3⟩ := h
    rw [mapN_nd]
    refine .nd ?_ ?_ fun k hk => ?_
    · have := Nat.le_of_ble_eq_true h1
      cases ks with
      | nil => exact hg l
      | cons a b => show l ≤ 100; omega
    · rw [List.length_map]; exact Nat.le_of_ble_eq_true h2
    · obtain ⟨k', hk', rfl⟩ := List.mem_map.1 hk
      exact smBs_iff h3 g hg k' hk'
theorem smBs_iff : ∀ {ks : List N}, smBs ks = true → ∀ g : Nat → Nat, (∀ i, g i ≤ 100) → ∀ k ∈ ks, Sm (mapN g k)
  | [], _, _, _, k, hk => by simp at hk
  | a :: b, h, g, hg, k, hk => by
    simp only [smBs, Bool.and_eq_true] at h
    rcases List.mem_cons.1 hk with e | hk
    · rw [e]; exact smB_iff h.1 g hg
    · exact smBs_iff h.2 g hg k hk
end
mutual
theorem sz_mapN (g : Nat → Nat) : ∀ v : N, sz (mapN g v) = sz v
  | .nd l q ks => by
    rw [mapN_nd, sz_nd, sz_nd, ← mapNs_map, szs_mapN g ks]
theorem szs_mapN (g : Nat → Nat) : ∀ ks : List N, szs (mapNs g ks) = szs ks
  | [] => rfl
  | k :: ks => by simp only [mapNs, szs]; rw [sz_mapN g k, szs_mapN g ks]
end
theorem con_map (f : Nat → Bool) (g : Nat → Nat) (o : List Nat) : con f (o.map g) = con (rg f g) o := by
  unfold con; rw [List.map_map]; rfl
structure RI (n : Nat) (P : List Nat → Prop) (acc : List (List Nat)) (T : N) : Prop where
  shape : ∃ s ∈ shp n, ∃ p, okP n p ∧ T = mapN (ren p) s
  iff : ∀ o, o ∈ frs T ↔ P o ∧ ∀ r ∈ acc, con (inR r) o = true
theorem RI.some {n : Nat} (h1 : 1 ≤ n) (h5 : n ≤ 5) {P : List Nat → Prop} {acc : List (List Nat)} {T : N} (h : RI n P acc T) : ∃ o, P o ∧ ∀ r ∈ acc, con (inR r) o = true := by
  obtain ⟨s, hs, p, hp, rfl⟩ := h.shape
  have := oks_all h1 h5 s hs
  simp only [okS, Bool.and_eq_true] at this
  obtain ⟨⟨_, h2⟩, _⟩ := this
  have hi := h.iff
  rw [frs_map] at hi
  cases hF : frs s with
  | nil => rw [hF] at h2; simp at h2
  | cons o l => exact ⟨o.map (ren p), (hi _).1 (by rw [hF]; simp)⟩
theorem RI.small {n : Nat} (h1 : 1 ≤ n) (h5 : n ≤ 5) {P : List Nat → Prop} {acc : List (List Nat)} {T : N} (h : RI n P acc T) : Sm T ∧ sz T ≤ 100 := by
  obtain ⟨s, hs, p, hp, rfl⟩ := h.shape
  have := oks_all h1 h5 s hs
  simp only [okS, Bool.and_eq_true] at this
  obtain ⟨⟨⟨h2, h3⟩, _⟩, _⟩ := this
  refine ⟨smB_iff h3 _ fun i => ?_, by rw [sz_mapN]; exact Nat.le_of_ble_eq_true h2⟩
  rcases Nat.lt_or_ge i n with h | h
  · have := ren_lt hp h; omega
  · rw [ren_ge hp h]; omega
theorem RI.step {n : Nat} (h1 : 1 ≤ n) (h5 : n ≤ 5) {P : List Nat → Prop} {acc : List (List Nat)} {T : N} (h : RI n P acc T) {r : List Nat} (hr : ∀ x ∈ r, x < n) (h0 : r ≠ []) :
    st (inR r) T ≠ 0 ∧ (red (inR r) T = none → ∀ o, P o → (∀ r ∈ acc, con (inR r) o = true) → con (inR r) o = false) ∧ ∀ T1, red (inR r) T = .some T1 → RI n P (acc ++ [r]) T1 := by
  obtain ⟨s, hs, p, hp, rfl⟩ := h.shape
  have hi := h.iff
  have hc := chk_all h1 h5 s hs
  have hok := oks_all h1 h5 s hs
  simp only [okS, Bool.and_eq_true, List.all_eq_true] at hok
  have e : rg (inR r) (ren p) = pr ((List.range n).map fun i => inR r (ren p i)) := by
    funext i
    show inR r (ren p i) = ((List.range n).map fun i => inR r (ren p i)).getD i false
    rcases Nat.lt_or_ge i n with h | h
    · rw [List.getD_eq_getElem?_getD, List.getElem?_eq_getElem (by simpa using h)]; simp
    · rw [List.getD_eq_getElem?_getD, List.getElem?_eq_none (by simpa using h), ren_ge hp h]
      refine decide_eq_false fun hm => ?_
      have := hr 99 hm; omega
  generalize hbl : ((List.range n).map fun i => inR r (ren p i)) = bl at e
  have hm : bl ∈ bls n := bls_mem (by rw [← hbl]; simp)
  have hany : bl.any id = true := by
    rw [List.any_eq_true]
    obtain ⟨x, hx⟩ : ∃ x, x ∈ r := by cases r with
      | nil => exact absurd rfl h0
      | cons a b => exact ⟨a, by simp⟩
    obtain ⟨i, hi, e⟩ := ren_sur hp (hr x hx)
    refine ⟨true, ?_, rfl⟩
    rw [← hbl]
    exact List.mem_map.2 ⟨i, List.mem_range.2 hi, by rw [e]; exact decide_eq_true hx⟩
  have hck := List.all_eq_true.1 hc bl hm
  rw [hany] at hck
  simp only [Bool.not_true, Bool.false_or, Bool.and_eq_true] at hck
  obtain ⟨hst, hck⟩ := hck
  have hcon : ∀ o, con (inR r) (o.map (ren p)) = con (pr bl) o := fun o => by rw [con_map, e]
  rw [st_map, red_map, e]
  rw [frs_map] at hi
  refine ⟨fun hz => by rw [hz] at hst; simp at hst, fun hn o ho ha => ?_, fun T1 hT => ?_⟩
  · have hn' : red (pr bl) s = none := by
      cases hh : red (pr bl) s with
      | none => rfl
      | some x => rw [hh] at hn; cases hn
    unfold chk1 at hck
    rw [hn'] at hck
    obtain ⟨o', ho', rfl⟩ := List.mem_map.1 ((hi o).2 ⟨ho, ha⟩)
    have := List.all_eq_true.1 hck o' ho'
    rw [hcon]
    simpa using this
  · cases hh : red (pr bl) s with
    | none => rw [hh] at hT; cases hT
    | some T2 =>
      rw [hh] at hT
      simp only [Option.map_some, Option.some.injEq] at hT
      subst hT
      unfold chk1 at hck
      rw [hh] at hck
      simp only [chkP, Bool.and_eq_true, List.all_eq_true] at hck
      obtain ⟨⟨⟨⟨k1, k2⟩, k3⟩, k4⟩, k5⟩ := hck
      have hf : okP n (lf T2) := ⟨Nat.eq_of_beq_eq_true k1, fun x hx => Nat.le_of_ble_eq_true (k3 x hx), fun x hx => memN_iff.1 (k2 x (List.mem_range.2 hx))⟩
      obtain ⟨s', hs', e2⟩ := anyS_iff k4
      obtain ⟨g1, g2⟩ := ren_map hp hf (by omega)
      refine ⟨⟨s', hs', (lf T2).map (ren p), g1, ?_⟩, fun o => ?_⟩
      · rw [e2, mapN_comp]
        congr 1
        rw [← e2]
        exact funext fun i => (g2 i).symm
      · have hok' := oks_all h1 h5 s' hs'
        simp only [okS, Bool.and_eq_true, List.all_eq_true] at hok'
        have hF' : ∀ o ∈ frs T2, okQ n o = true := fun o ho => by
          rw [e2, frs_map] at ho
          obtain ⟨o', ho', rfl⟩ := List.mem_map.1 ho
          have := okQ_iff.1 (hok'.2 o' ho')
          refine okQ_iff.2 ⟨by rw [List.length_map]; exact this.1, fun x hx => ?_⟩
          obtain ⟨y, hy, rfl⟩ := List.mem_map.1 hx
          exact ren_lt hf (this.2 y hy)
        have hFc : ∀ o ∈ (frs s).filter (con (pr bl)), okQ n o = true := fun o ho => hok.2 o (List.mem_filter.1 ho).1
        have hmm : msk (frs T2) = msk ((frs s).filter (con (pr bl))) := by rw [← mskC_eq]; exact Nat.eq_of_beq_eq_true k5
        have hiff : ∀ o, o ∈ frs T2 ↔ o ∈ frs s ∧ con (pr bl) o = true := fun o => by
          rw [← List.mem_filter]
          exact ⟨msk_mem h5 hF' hFc hmm, msk_mem h5 hFc hF' hmm.symm⟩
        rw [frs_map]
        constructor
        · intro ho
          obtain ⟨o', ho', rfl⟩ := List.mem_map.1 ho
          obtain ⟨q1, q2⟩ := (hiff o').1 ho'
          obtain ⟨q3, q4⟩ := (hi _).1 (List.mem_map.2 ⟨o', q1, rfl⟩)
          refine ⟨q3, fun r' hr' => ?_⟩
          rcases List.mem_append.1 hr' with h | h
          · exact q4 r' h
          · obtain rfl := List.mem_singleton.1 h
            rw [hcon]; exact q2
        · rintro ⟨ho, ha⟩
          obtain ⟨o', ho', rfl⟩ := List.mem_map.1 ((hi o).2 ⟨ho, fun r' hr' => ha r' (by simp [hr'])⟩)
          have := ha r (by simp)
          rw [hcon] at this
          exact List.mem_map.2 ⟨o', (hiff o').2 ⟨ho', this⟩, rfl⟩
end Go.Proofs.Ytcimlelkeppoiaa

