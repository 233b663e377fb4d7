/-
  Lemmas for the proof: no statement of its own.
-/
import Derived.Test.YtgldpbghbkoolaaWalkC
import Derived.Test.YtgldpbghbkoolaaCodeB
import Derived.Test.YtgldpbghbkoolaaPlainC
import Derived.Test.YtgldpbghbkoolaaCutA
set_option linter.unusedVariables false
set_option linter.unusedSimpArgs false
-- P p_15.txt
open Go Go.AL Go.RowKit
namespace Go.Proofs.Ytgldpbghbkoolaa
set_option maxRecDepth 20000
/-! ### the net -/
abbrev iN (l : List Nat) : List (List CD) := l.map fun x : Nat => [CD.I (x : Int)]
abbrev bR (l : List Bool) : List (List CD) := l.map fun b => [CD.B b]
abbrev eR (l : Es) : List (List CD) := l.map fun e : Nat × Nat => [CD.I (e.1 : Int), CD.I (e.2 : Int)]
abbrev BL (l : List Bool) : CD := .sl 1 (bR l)
abbrev EL (l : Es) : CD := .sl 2 (eR l)
abbrev netAV (n : Nat) (ids : List Int) (es : Es) : AV := .agg [.I n, .c (Row ids), .c (EL es)]
def seenL (n : Nat) (q : List Nat) : List Bool := (List.range n).map fun v => decide (v ∈ q)
theorem seenL_len (n : Nat) (q : List Nat) : (seenL n q).length = n := by simp [seenL]
theorem seenL_nth {n : Nat} {q : List Nat} {v : Nat} (h : v < n) : nth (seenL n q) v = decide (v ∈ q) := by
  rw [nth_eq _ v (by simpa [seenL] using h)]; simp [seenL]
theorem seenL_set {n : Nat} {q : List Nat} {y : Nat} (h : y < n) : (bR (seenL n q)).set y [CD.B true] = bR (seenL n (q ++ [y])) := by
  unfold seenL
  apply List.ext_getElem (by simp)
  intro i h1 h2
  simp at h1
  rw [List.getElem_set]
  by_cases e : y = i
  · subst e; simp
  · rw [if_neg e]
    simp [show ¬ i = y from fun h => e h.symm]
theorem seen_getD {n : Nat} {q : List Nat} {v : Nat} (h : v < n) : (bR (seenL n q)).getD v [] = [CD.B (decide (v ∈ q))] := by
  have := getD_map (fun b : Bool => [CD.B b]) (seenL n q) v [] (by rw [seenL_len]; exact h)
  rw [this, seenL_nth h]
theorem seenL_rep (n : Nat) : List.replicate n [CD.B false] = bR (seenL n []) := by
  unfold seenL
  apply List.ext_getElem (by simp)
  intro i h1 h2
  simp
theorem iN_app (q : List Nat) (h y : Nat) (hh : h ≤ q.length) : iN (q.drop h) ++ [[CD.I y]] = iN ((q ++ [y]).drop h) := by
  rw [List.drop_append_of_le_length hh]; unfold iN; rw [List.map_append]; rfl
theorem iset (l : List Int) (i : Nat) (v : Int) : (iRow l).set i [CD.I v] = iRow (l.set i v) := by unfold iRow; rw [List.map_set]
theorem rep_set (n i : Nat) (hi : i < n) (a b : Int) : (List.replicate i a ++ List.replicate (n - i) b).set i a = List.replicate (i + 1) a ++ List.replicate (n - (i + 1)) b := by
  rw [List.set_append_right _ _ (by simp)]
  simp only [List.length_replicate, Nat.sub_self]
  obtain ⟨k, hk⟩ : ∃ k, n - i = k + 1 := ⟨n - i - 1, by omega⟩
  rw [hk, show n - (i + 1) = k by omega, List.replicate_succ, List.set_cons_zero, List.replicate_succ' (n := i)]
  simp
theorem drop_cons' {q : List Nat} {h : Nat} (hh : h < q.length) : iN (q.drop h) = [CD.I ((nth q h : Nat) : Int)] :: iN (q.drop (h + 1)) := by
  rw [List.drop_eq_getElem_cons hh, nth_eq q h hh]; rfl
theorem hop_p {fl : List Int} {cur k x y : Nat} {sg : Int} {s : Sr} (h : ((x : Int) = (cur : Int) ∧ ¬ nth fl k = sg) ∧ ¬ y ∈ s.q) : hop fl cur k x y sg s = ⟨s.fr.set y k, s.q ++ [y]⟩ := if_pos ⟨by omega, h.1.2, h.2⟩
theorem hop_n {fl : List Int} {cur k x y : Nat} {sg : Int} {s : Sr} (h : (¬ (x : Int) = (cur : Int) ∨ nth fl k = sg) ∨ y ∈ s.q) : hop fl cur k x y sg s = s := if_neg fun ⟨h1, h2, h3⟩ => by
  rcases h with (h | h) | h
  · omega
  · exact h2 h
  · exact h3 h
theorem no2 {cur x y : Nat} {q : List Nat} {A B C : Prop} (hq : cur ∈ q) (h1 : ((x : Int) = (cur : Int) ∧ A) ∧ ¬ y ∈ q) (h2 : ((y : Int) = (cur : Int) ∧ B) ∧ C) : False := by
  have : y = cur := by omega
  exact h1.2 (this ▸ hq)
theorem ext_new {s s' : Sr} {b h : Nat} (hx : s.ext s') (hb : b ∉ s.q) (hh : h < s.q.length) (hb' : b ∈ s'.q) : h + 1 < s'.q.length := by
  obtain ⟨⟨z, hz⟩, _⟩ := hx
  rw [hz] at hb' ⊢
  cases z with
  | nil => simp at hb'; exact absurd hb' hb
  | cons a z => simp; omega
theorem iRow_app' (l : List Int) (x : Int) : iRow (l ++ [x]) = iRow l ++ [[CD.I x]] := by unfold iRow; rw [List.map_append]; rfl
theorem eR_app (l : Es) (x y : Nat) : eR (l ++ [(x, y)]) = eR l ++ [[CD.I (x : Int), CD.I (y : Int)]] := by unfold eR; rw [List.map_append]; rfl
end Go.Proofs.Ytgldpbghbkoolaa

-- P p_15.txt
open Go Go.AL Go.RowKit
namespace Go.Proofs.Ytgldpbghbkoolaa
set_option maxRecDepth 20000
structure Wq where
  (f v : Nat) (fl : List Int) (i : Nat)
set_option maxHeartbeats 16000000 in
theorem n58 (n : Nat) (ids : List Int) (es : Es) (a b : Nat) (gone : List Bool) (fl : List Int) (v : Int) (hn : n ≤ 70) (he : EsLt es n) (ha : a < n) (hb : b < n) (hel : es.length ≤ 70) (hg : gone.length = es.length) (hf : IsFl es gone a b fl v) :
    FnW Try.prog 58 [netAV n ids es, .I a, .I b, .own 1000014, .c (BL gone)] [(1000014, .arr 3 1 (iRow fl))] [.c (.B (wid es n a b gone fl).isSome)] [(1000014, .arr 3 1 (iRow ((wid es n a b gone fl).getD fl)))] [1000014] := by
  refine fn_walkW code58 (by simp) (by rfl) ?_
  (repeat' (first | refine NextAt.mk (fun hc => ?_) (fun pre n v post hc hkey => ?_) | refine Sni.mk (fun hc => ?_) ?_ | refine Both.mk ?_ ?_ | refine AW_seq ?_ | refine AW_block ?_ | ((first | refine AW_reg ?_ | refine AW_cond ?_ | refine AW_skip ?_ | refine AW_exit ?_ | refine AW_ret ?_ | refine AW_regD (by kernel_rfl) ?_ | refine AW_regX (by kernel_rfl) ?_ | refine CallAtG.t (Eq.refl true) ?_ | refine CallAtG.f (Eq.refl false) ?_); try simp (disch := omega) only [go_sem, seval, reduceCtorEq, ↓reduceIte, beq_dec, Int.toNat_natCast, IntKind.signed, IntKind.bits, maxLen, List.length_map]) | refine And.intro (fun hc => (?_ : AW _ _ _ _)) (fun hc => (?_ : AW _ _ _ _)) | simp (disch := omega) only [go_sem, seval, reduceCtorEq, ↓reduceIte, beq_dec, Int.toNat_natCast, IntKind.signed, IntKind.bits, maxLen, List.length_map] | (refine And.intro ?_ ?_; focus (first | (intros; omega) | (intros; simp_all; done))) | refine And.intro (?_ : CallAt _ _ _ _ _ _ _ _) ?_ | refine And.intro (?_ : CallAt _ _ _ _ _ _ _ _ ∧ _) ?_ | refine And.intro (?_ : AW _ _ _ _) ?_ | fail))
  refine AW_loopK [1, 2, 3, 4, 5, 11, 25] [12, 26, 27, 28, 29, 30, 31, 32] (fun i : Nat => i ≤ n) (fun i => [(26, .I i)]) (fun i => [(23, .arr 3 1 (iRow (List.replicate i (-1) ++ List.replicate (n - i) 0)))]) (fun i => n - i) 0 (by omega) ?_ ?_
  · simp (disch := omega) only [go_sem, seval, reduceCtorEq, ↓reduceIte, beq_dec, Int.toNat_natCast, IntKind.signed, IntKind.bits, Int.natCast_zero, List.replicate_zero, List.nil_append, Nat.sub_zero, List.map_replicate]
  · intro i hi
    have hil2 : (List.replicate i (-1 : Int) ++ List.replicate (n - i) 0).length = n := by simp; omega
    rcases Nat.lt_or_ge i n with hin | hin
    · (repeat' (first | refine NextAt.mk (fun hc => ?_) (fun pre n v post hc hkey => ?_) | refine Sni.mk (fun hc => ?_) ?_ | refine Both.mk ?_ ?_ | refine AW_seq ?_ | refine AW_block ?_ | ((first | refine AW_reg ?_ | refine AW_cond ?_ | refine AW_skip ?_ | refine AW_exit ?_ | refine AW_ret ?_ | refine AW_regD (by kernel_rfl) ?_ | refine AW_regX (by kernel_rfl) ?_ | refine CallAtG.t (Eq.refl true) ?_ | refine CallAtG.f (Eq.refl false) ?_); try simp (disch := omega) only [go_sem, seval, reduceCtorEq, ↓reduceIte, beq_dec, Int.toNat_natCast, IntKind.signed, IntKind.bits, List.length_map, List.length_replicate, hil2, getD_map (fun x : Int => [CD.I x]), List.set_cons_zero, iset, Int.toNat_natCast]) | refine And.intro (fun hc => (?_ : AW _ _ _ _)) (fun hc => (?_ : AW _ _ _ _)) | simp (disch := omega) only [go_sem, seval, reduceCtorEq, ↓reduceIte, beq_dec, Int.toNat_natCast, IntKind.signed, IntKind.bits, List.length_map, List.length_replicate, hil2, getD_map (fun x : Int => [CD.I x]), List.set_cons_zero, iset, Int.toNat_natCast] | (refine And.intro ?_ ?_; focus (first | (intros; omega) | (intros; simp_all; done))) | refine And.intro (?_ : CallAt _ _ _ _ _ _ _ _) ?_ | refine And.intro (?_ : CallAt _ _ _ _ _ _ _ _ ∧ _) ?_ | refine And.intro (?_ : AW _ _ _ _) ?_ | fail))
      · refine .mk (i + 1) (by omega) (by omega) ?_
        rw [rep_set _ _ (by omega)]
        simp (disch := omega) only [go_sem, seval, reduceCtorEq, ↓reduceIte, beq_dec, Int.toNat_natCast, IntKind.signed, IntKind.bits, Int.natCast_add, Int.natCast_one]
      · exfalso; omega
    · obtain rfl : i = n := by omega
      have h0 := seenL_rep i
      have h1 := seenL_set (n := i) (q := []) ha
      rw [Nat.sub_self, List.replicate_zero, List.append_nil]
      (repeat' (first | refine NextAt.mk (fun hc => ?_) (fun pre n v post hc hkey => ?_) | refine Sni.mk (fun hc => ?_) ?_ | refine Both.mk ?_ ?_ | refine AW_seq ?_ | refine AW_block ?_ | ((first | refine AW_reg ?_ | refine AW_cond ?_ | refine AW_skip ?_ | refine AW_exit ?_ | refine AW_ret ?_ | refine AW_regD (by kernel_rfl) ?_ | refine AW_regX (by kernel_rfl) ?_ | refine CallAtG.t (Eq.refl true) ?_ | refine CallAtG.f (Eq.refl false) ?_); try simp (disch := omega) only [go_sem, seval, reduceCtorEq, ↓reduceIte, beq_dec, Int.toNat_natCast, IntKind.signed, IntKind.bits, List.length_map, List.length_replicate, maxLen, h0, seenL_len, List.nil_append, seen_getD, seenL_set, List.set_cons_zero]) | refine And.intro (fun hc => (?_ : AW _ _ _ _)) (fun hc => (?_ : AW _ _ _ _)) | simp (disch := omega) only [go_sem, seval, reduceCtorEq, ↓reduceIte, beq_dec, Int.toNat_natCast, IntKind.signed, IntKind.bits, List.length_map, List.length_replicate, maxLen, h0, seenL_len, List.nil_append, seen_getD, seenL_set, List.set_cons_zero] | (refine And.intro ?_ ?_; focus (first | (intros; omega) | (intros; simp_all; done))) | refine And.intro (?_ : CallAt _ _ _ _ _ _ _ _) ?_ | refine And.intro (?_ : CallAt _ _ _ _ _ _ _ _ ∧ _) ?_ | refine And.intro (?_ : AW _ _ _ _) ?_ | fail))
      · exfalso; omega
      clear h0 h1 hil2 hi hin hc
      refine AW_loopK [1, 2, 3, 4, 5, 11, 13] [14, 15, 16, 17, 18, 41, 42, 43, 44, 45, 46, 47, 48, 49, 50, 51, 52, 53, 54, 55, 56, 57, 58, 59, 60, 61, 62, 63, 64, 65, 66, 67, 68, 69, 70, 71, 72, 73, 74, 75, 76, 77, 78, 79, 80, 81, 82, 83, 84, 85, 86, 87, 88, 89, 90, 91, 92, 93, 94, 95, 96, 97, 98, 99, 100, 101, 102, 103, 104, 105, 106, 107, 108, 109, 110, 111, 112, 113, 114, 115, 116] (fun h : Nat => h ≤ (srS es fl gone i a h).q.length ∧ (b ∈ (srS es fl gone i a h).q → h < (srS es fl gone i a h).q.length)) (fun h => [(14, .own 40)]) (fun h => [(40, .arr 3 1 (iN ((srS es fl gone i a h).q.drop h))), (35, .arr 4 1 (bR (seenL i (srS es fl gone i a h).q))), (23, .arr 3 1 (iRow (srS es fl gone i a h).fr))]) (fun h => i - h) 0 ⟨by simp, fun _ => by simp [srS]⟩ ?_ ?_
      · simp (disch := omega) only [go_sem, seval, reduceCtorEq, ↓reduceIte, beq_dec, Int.toNat_natCast, IntKind.signed, IntKind.bits, srS, List.drop_zero, List.map_cons, List.map_nil, List.nil_append, seen_getD, seenL_set, List.set_cons_zero]
      · rintro h ⟨hh, hbh⟩
        obtain ⟨hs, _⟩ := srS_inv (fl := fl) (gone := gone) he ha h
        have hle := hs.le
        have hext := srS_ext (fl := fl) (gone := gone) he ha (by omega : h ≤ i)
        by_cases hbq : b ∈ (srS es fl gone i a h).q
        · have hlt := hbh hbq
          have e1 : ((0 : Int) < ((srS es fl gone i a h).q.length - h : Nat)) = True := by simp; omega
          have e2 : (b ∈ (srS es fl gone i a h).q) = True := eq_true hbq
          obtain ⟨i0, hi0, hib⟩ := mem_nth hbq
          have hw : wid es i a b gone fl = some (bt es (srS es fl gone i a h).fr a i b fl) := by
            unfold wid
            rw [if_pos (hext.ext_mem hbq)]
            have := bt_ext hext hs i i0 fl hi0
            rw [hib] at this
            rw [this]
          rw [hw]
          have hB0 : BtI es gone b fl (srS es fl gone i a h) i0 fl := ⟨hi0, hf.len, hf.bnd, hf.gon, fun _ _ _ => rfl, fun T => by rw [hib]; omega⟩
          generalize hfin : bt es (srS es fl gone i a h).fr a i b fl = fin
          clear hw hext
          generalize srS es fl gone i a h = s at *
          (repeat' (first | refine NextAt.mk (fun hc => ?_) (fun pre n v post hc hkey => ?_) | refine Sni.mk (fun hc => ?_) ?_ | refine Both.mk ?_ ?_ | refine AW_seq ?_ | refine AW_block ?_ | ((first | refine AW_reg ?_ | refine AW_cond ?_ | refine AW_skip ?_ | refine AW_exit ?_ | refine AW_ret ?_ | refine AW_regD (by kernel_rfl) ?_ | refine AW_regX (by kernel_rfl) ?_ | refine CallAtG.t (Eq.refl true) ?_ | refine CallAtG.f (Eq.refl false) ?_); try simp (disch := omega) only [go_sem, seval, reduceCtorEq, ↓reduceIte, beq_dec, Int.toNat_natCast, IntKind.signed, IntKind.bits, List.length_map, List.length_drop, e1, e2, seenL_len, seen_getD, seenL_set, decide_true, decide_false]) | refine And.intro (fun hc => (?_ : AW _ _ _ _)) (fun hc => (?_ : AW _ _ _ _)) | simp (disch := omega) only [go_sem, seval, reduceCtorEq, ↓reduceIte, beq_dec, Int.toNat_natCast, IntKind.signed, IntKind.bits, List.length_map, List.length_drop, e1, e2, seenL_len, seen_getD, seenL_set, decide_true, decide_false] | (refine And.intro ?_ ?_; focus (first | (intros; omega) | (intros; simp_all; done))) | refine And.intro (?_ : CallAt _ _ _ _ _ _ _ _) ?_ | refine And.intro (?_ : CallAt _ _ _ _ _ _ _ _ ∧ _) ?_ | refine And.intro (?_ : AW _ _ _ _) ?_ | fail))
          refine AW_loopK [1, 3, 5, 11] [19, 20, 123, 124, 125, 126, 127, 128, 129, 130, 131, 132, 133, 134, 135, 136, 137, 138, 139, 140, 141, 142, 143, 144, 145, 146, 147, 148, 149, 150, 151, 152, 153, 154, 155, 156, 157, 158, 159] (fun w : Wq => w.i < w.f ∧ BtI es gone b fl s w.i w.fl ∧ bt es s.fr a w.f (nth s.q w.i) w.fl = fin) (fun w => [(19, .I (nth s.q w.i : Nat))]) (fun w => [(1000014, .arr 3 1 (iRow w.fl))]) (fun w => w.f) ⟨i, 0, fl, i0⟩ ⟨by simp only []; omega, hB0, by simp only []; rw [hib]; exact hfin⟩ ?_ ?_
          · simp (disch := omega) only [go_sem, seval, reduceCtorEq, ↓reduceIte, beq_dec, Int.toNat_natCast, IntKind.signed, IntKind.bits, hib]
          · rintro ⟨f, v', fl', j⟩ ⟨hjf, hB, hbt⟩
            simp only at hjf hB hbt
            have hjl := hB.lt
            cases f with
            | zero => omega
            | succ f =>
              rcases Nat.eq_zero_or_pos j with rfl | hj0
              · have hq0 := hs.fst.2
                simp only [bt] at hbt
                rw [if_pos hq0] at hbt
                subst hbt
                rw [hq0]
                (repeat' (first | refine NextAt.mk (fun hc => ?_) (fun pre n v post hc hkey => ?_) | refine Sni.mk (fun hc => ?_) ?_ | refine Both.mk ?_ ?_ | refine AW_seq ?_ | refine AW_block ?_ | ((first | refine AW_reg ?_ | refine AW_cond ?_ | refine AW_skip ?_ | refine AW_exit ?_ | refine AW_ret ?_ | refine AW_regD (by kernel_rfl) ?_ | refine AW_regX (by kernel_rfl) ?_ | refine CallAtG.t (Eq.refl true) ?_ | refine CallAtG.f (Eq.refl false) ?_); try simp (disch := omega) only [go_sem, seval, reduceCtorEq, ↓reduceIte, beq_dec, Int.toNat_natCast, IntKind.signed, IntKind.bits]) | refine And.intro (fun hc => (?_ : AW _ _ _ _)) (fun hc => (?_ : AW _ _ _ _)) | simp (disch := omega) only [go_sem, seval, reduceCtorEq, ↓reduceIte, beq_dec, Int.toNat_natCast, IntKind.signed, IntKind.bits] | (refine And.intro ?_ ?_; focus (first | (intros; omega) | (intros; simp_all; done))) | refine And.intro (?_ : CallAt _ _ _ _ _ _ _ _) ?_ | refine And.intro (?_ : CallAt _ _ _ _ _ _ _ _ ∧ _) ?_ | refine And.intro (?_ : AW _ _ _ _) ?_ | fail))
                rfl
              · obtain ⟨h1, h2, h3, j', hj', h4⟩ := hB.step hs hj0
                obtain ⟨k, hk⟩ : ∃ k : Nat, nth s.fr (nth s.q j) = k := ⟨(nth s.fr (nth s.q j)).toNat, by omega⟩
                rw [hk, Int.toNat_natCast] at h2 h4
                have hvn := hs.lt _ (nth_mem'' s.q j hjl)
                have hfl := hs.len
                have hbd := hB.bnd k
                have hln := hB.len
                simp only [bt] at hbt
                rw [if_neg h1, hk, Int.toNat_natCast] at hbt
                have e3 : ((nth s.q j : Nat) : Int) ≠ (a : Int) := by omega
                rcases h4 with ⟨h5, h6, h7⟩ | ⟨h5, h6, h7⟩
                · rw [if_pos h5, h6] at hbt
                  (repeat' (first | refine NextAt.mk (fun hc => ?_) (fun pre n v post hc hkey => ?_) | refine Sni.mk (fun hc => ?_) ?_ | refine Both.mk ?_ ?_ | refine AW_seq ?_ | refine AW_block ?_ | ((first | refine AW_reg ?_ | refine AW_cond ?_ | refine AW_skip ?_ | refine AW_exit ?_ | refine AW_ret ?_ | refine AW_regD (by kernel_rfl) ?_ | refine AW_regX (by kernel_rfl) ?_ | refine CallAtG.t (Eq.refl true) ?_ | refine CallAtG.f (Eq.refl false) ?_); try simp (disch := omega) only [go_sem, seval, reduceCtorEq, ↓reduceIte, beq_dec, Int.toNat_natCast, IntKind.signed, IntKind.bits, e3, List.length_map, getD_map (fun x : Int => [CD.I x]), getD_map (fun e : Nat × Nat => [CD.I (e.1 : Int), CD.I (e.2 : Int)]), hk, h5, h6, Int.toNat_natCast, List.set_cons_zero, iset, inK, maxLen]) | refine And.intro (fun hc => (?_ : AW _ _ _ _)) (fun hc => (?_ : AW _ _ _ _)) | simp (disch := omega) only [go_sem, seval, reduceCtorEq, ↓reduceIte, beq_dec, Int.toNat_natCast, IntKind.signed, IntKind.bits, e3, List.length_map, getD_map (fun x : Int => [CD.I x]), getD_map (fun e : Nat × Nat => [CD.I (e.1 : Int), CD.I (e.2 : Int)]), hk, h5, h6, Int.toNat_natCast, List.set_cons_zero, iset, inK, maxLen] | (refine And.intro ?_ ?_; focus (first | (intros; omega) | (intros; simp_all; done))) | refine And.intro (?_ : CallAt _ _ _ _ _ _ _ _) ?_ | refine And.intro (?_ : CallAt _ _ _ _ _ _ _ _ ∧ _) ?_ | refine And.intro (?_ : AW _ _ _ _) ?_ | refine And.intro (?_ : _ ∧ _) ?_ | fail))
                  all_goals first
                    | (exfalso; omega)
                    | (refine .mk ⟨f, v', _, j'⟩ ⟨by simp only []; omega, h7, hbt⟩ (by simp only []; omega) ?_
                       simp (disch := omega) only [go_sem, seval, reduceCtorEq, ↓reduceIte, beq_dec, Int.toNat_natCast, IntKind.signed, IntKind.bits])
                    | trace_state
                · rw [if_neg h5, h6] at hbt
                  have e4 : ((nth s.q j' : Nat) : Int) ≠ ((nth s.q j : Nat) : Int) := by rw [← h6]; omega
                  (repeat' (first | refine NextAt.mk (fun hc => ?_) (fun pre n v post hc hkey => ?_) | refine Sni.mk (fun hc => ?_) ?_ | refine Both.mk ?_ ?_ | refine AW_seq ?_ | refine AW_block ?_ | ((first | refine AW_reg ?_ | refine AW_cond ?_ | refine AW_skip ?_ | refine AW_exit ?_ | refine AW_ret ?_ | refine AW_regD (by kernel_rfl) ?_ | refine AW_regX (by kernel_rfl) ?_ | refine CallAtG.t (Eq.refl true) ?_ | refine CallAtG.f (Eq.refl false) ?_); try simp (disch := omega) only [go_sem, seval, reduceCtorEq, ↓reduceIte, beq_dec, Int.toNat_natCast, IntKind.signed, IntKind.bits, e3, e4, List.length_map, getD_map (fun x : Int => [CD.I x]), getD_map (fun e : Nat × Nat => [CD.I (e.1 : Int), CD.I (e.2 : Int)]), hk, h6, Int.toNat_natCast, List.set_cons_zero, iset, inK, maxLen]) | refine And.intro (fun hc => (?_ : AW _ _ _ _)) (fun hc => (?_ : AW _ _ _ _)) | simp (disch := omega) only [go_sem, seval, reduceCtorEq, ↓reduceIte, beq_dec, Int.toNat_natCast, IntKind.signed, IntKind.bits, e3, e4, List.length_map, getD_map (fun x : Int => [CD.I x]), getD_map (fun e : Nat × Nat => [CD.I (e.1 : Int), CD.I (e.2 : Int)]), hk, h6, Int.toNat_natCast, List.set_cons_zero, iset, inK, maxLen] | (refine And.intro ?_ ?_; focus (first | (intros; omega) | (intros; simp_all; done))) | refine And.intro (?_ : CallAt _ _ _ _ _ _ _ _) ?_ | refine And.intro (?_ : CallAt _ _ _ _ _ _ _ _ ∧ _) ?_ | refine And.intro (?_ : AW _ _ _ _) ?_ | refine And.intro (?_ : _ ∧ _) ?_ | fail))
                  all_goals first
                    | (exfalso; omega)
                    | (refine .mk ⟨f, v', _, j'⟩ ⟨by simp only []; omega, h7, hbt⟩ (by simp only []; omega) ?_
                       simp (disch := omega) only [go_sem, seval, reduceCtorEq, ↓reduceIte, beq_dec, Int.toNat_natCast, IntKind.signed, IntKind.bits])
                    | trace_state
        · have e2 : (b ∈ (srS es fl gone i a h).q) = False := eq_false hbq
          rcases Nat.lt_or_ge h (srS es fl gone i a h).q.length with hlt | hge
          · have e1 : ((0 : Int) < ((srS es fl gone i a h).q.length - h : Nat)) = True := by simp; omega
            have hnext : srS es fl gone i a (h + 1) = rnd es fl gone (nth (srS es fl gone i a h).q h) (srS es fl gone i a h) es.length := by
              show (if _ then _ else _) = _
              rw [if_pos hlt]
            have hrn := fun k hk => hs.rnd he hlt k hk
            have hdc := drop_cons' hlt
            have hcur := hs.lt _ (nth_mem'' _ h hlt)
            generalize hM : nth (srS es fl gone i a h).q h = cur at *
            generalize srS es fl gone i a h = s at *
            (repeat' (first | refine NextAt.mk (fun hc => ?_) (fun pre n v post hc hkey => ?_) | refine Sni.mk (fun hc => ?_) ?_ | refine Both.mk ?_ ?_ | refine AW_seq ?_ | refine AW_block ?_ | ((first | refine AW_reg ?_ | refine AW_cond ?_ | refine AW_skip ?_ | refine AW_exit ?_ | refine AW_ret ?_ | refine AW_regD (by kernel_rfl) ?_ | refine AW_regX (by kernel_rfl) ?_ | refine CallAtG.t (Eq.refl true) ?_ | refine CallAtG.f (Eq.refl false) ?_); try simp (disch := omega) only [go_sem, seval, reduceCtorEq, ↓reduceIte, beq_dec, Int.toNat_natCast, IntKind.signed, IntKind.bits, List.length_map, List.length_drop, e1, e2, seenL_len, seen_getD, seenL_set, decide_true, decide_false]) | refine And.intro (fun hc => (?_ : AW _ _ _ _)) (fun hc => (?_ : AW _ _ _ _)) | simp (disch := omega) only [go_sem, seval, reduceCtorEq, ↓reduceIte, beq_dec, Int.toNat_natCast, IntKind.signed, IntKind.bits, List.length_map, List.length_drop, e1, e2, seenL_len, seen_getD, seenL_set, decide_true, decide_false] | (refine And.intro ?_ ?_; focus (first | (intros; omega) | (intros; simp_all; done))) | refine And.intro (?_ : CallAt _ _ _ _ _ _ _ _) ?_ | refine And.intro (?_ : CallAt _ _ _ _ _ _ _ _ ∧ _) ?_ | refine And.intro (?_ : AW _ _ _ _) ?_ | fail))
            rw [hdc]
            refine AW_loopK [1, 2, 3, 4, 5, 11, 13, 54, 55] [14, 15, 16, 17, 18, 56, 57, 58, 59, 60, 61, 62, 63, 64, 65, 66, 67, 68, 69, 70, 71, 72, 73, 74, 75, 76, 77, 78, 79, 80, 81, 82, 83, 84, 85, 86, 87, 88, 89, 90, 91, 92, 93, 94, 95, 96, 97, 98, 99, 100, 101, 102, 103, 104, 105, 106, 107, 108, 109, 110, 111, 112, 113, 114, 115, 116] (fun k : Nat => k ≤ es.length) (fun k => [(56, .I k), (14, .own 40)]) (fun k => [(40, .arr 3 1 ([CD.I cur] :: iN ((rnd es fl gone cur s k).q.drop (h + 1)))), (35, .arr 4 1 (bR (seenL i (rnd es fl gone cur s k).q))), (23, .arr 3 1 (iRow (rnd es fl gone cur s k).fr))]) (fun k => es.length - k) 0 (by omega) ?_ ?_
            · simp (disch := omega) only [go_sem, seval, reduceCtorEq, ↓reduceIte, beq_dec, Int.toNat_natCast, IntKind.signed, IntKind.bits, Int.natCast_zero, rnd]
            · intro k hk
              obtain ⟨r1, r2, r3⟩ := hrn k hk
              have rle := r1.le
              have rn := (r2.ext_nth hlt).2
              have rfl' := r1.len
              have hdl : (List.drop (h + 1) (rnd es fl gone cur s k).q).length ≤ 70 := by simp; omega
              rcases Nat.lt_or_ge k es.length with hkl | hkl
              · have hsuc : rnd es fl gone cur s (k + 1) = hopK es fl gone cur (rnd es fl gone cur s k) k := rfl
                obtain ⟨x1, x2⟩ := he k hkl
                have hcs : cur ∈ s.q := hM ▸ nth_mem'' s.q h hlt
                have hcq : cur ∈ (rnd es fl gone cur s k).q := r2.ext_mem hcs
                have hbd := hf.bnd k
                have hln := hf.len
                unfold hopK at hsuc
                generalize rnd es fl gone cur s k = s1 at *
                generalize hE : nth es k = e at *
                obtain ⟨x, y⟩ := e
                simp only at x1 x2 hsuc
                cases hgk : nth gone k with
                | true =>
                  rw [hgk, if_pos rfl] at hsuc
                  (repeat' (first | refine NextAt.mk (fun hc => ?_) (fun pre n v post hc hkey => ?_) | refine Sni.mk (fun hc => ?_) ?_ | refine Both.mk ?_ ?_ | refine AW_seq ?_ | refine AW_block ?_ | ((first | refine AW_reg ?_ | refine AW_cond ?_ | refine AW_skip ?_ | refine AW_exit ?_ | refine AW_ret ?_ | refine AW_regD (by kernel_rfl) ?_ | refine AW_regX (by kernel_rfl) ?_ | refine CallAtG.t (Eq.refl true) ?_ | refine CallAtG.f (Eq.refl false) ?_); try simp (disch := omega) only [go_sem, seval, reduceCtorEq, ↓reduceIte, beq_dec, Int.toNat_natCast, IntKind.signed, IntKind.bits, List.length_map, List.length_cons, getD_map (fun e : Nat × Nat => [CD.I (e.1 : Int), CD.I (e.2 : Int)]), getD_map (fun b : Bool => [CD.B b]), hE, hgk]) | refine And.intro (fun hc => (?_ : AW _ _ _ _)) (fun hc => (?_ : AW _ _ _ _)) | simp (disch := omega) only [go_sem, seval, reduceCtorEq, ↓reduceIte, beq_dec, Int.toNat_natCast, IntKind.signed, IntKind.bits, List.length_map, List.length_cons, getD_map (fun e : Nat × Nat => [CD.I (e.1 : Int), CD.I (e.2 : Int)]), getD_map (fun b : Bool => [CD.B b]), hE, hgk] | (refine And.intro ?_ ?_; focus (first | (intros; omega) | (intros; simp_all; done))) | refine And.intro (?_ : CallAt _ _ _ _ _ _ _ _) ?_ | refine And.intro (?_ : CallAt _ _ _ _ _ _ _ _ ∧ _) ?_ | refine And.intro (?_ : AW _ _ _ _) ?_ | fail))
                  · refine .mk (k + 1) (by omega) (by omega) ?_
                    rw [hsuc]
                    simp (disch := omega) only [go_sem, seval, reduceCtorEq, ↓reduceIte, beq_dec, Int.toNat_natCast, IntKind.signed, IntKind.bits, Int.natCast_add, Int.natCast_one]
                  · exfalso; omega
                | false =>
                  rw [hgk, if_neg (by simp)] at hsuc
                  (repeat' (first | refine NextAt.mk (fun hc => ?_) (fun pre n v post hc hkey => ?_) | refine Sni.mk (fun hc => ?_) ?_ | refine Both.mk ?_ ?_ | refine AW_seq ?_ | refine AW_block ?_ | refine AW_enter ?_ | refine AWin_round ?_ | ((first | refine AW_reg ?_ | refine AW_cond ?_ | refine AW_skip ?_ | refine AW_exit ?_ | refine AW_ret ?_ | refine AW_regD (by kernel_rfl) ?_ | refine AW_regX (by kernel_rfl) ?_ | refine CallAtG.t (Eq.refl true) ?_ | refine CallAtG.f (Eq.refl false) ?_); try simp (disch := omega) only [go_sem, seval, reduceCtorEq, ↓reduceIte, beq_dec, Int.toNat_natCast, IntKind.signed, IntKind.bits, List.length_map, List.length_cons, List.length_drop, getD_map (fun e : Nat × Nat => [CD.I (e.1 : Int), CD.I (e.2 : Int)]), getD_map (fun b : Bool => [CD.B b]), getD_map (fun x : Int => [CD.I x]), List.getD_cons_zero, hE, hgk, seen_getD, seenL_set, seenL_len, List.set_cons_zero, iset, Int.toNat_natCast, maxLen, List.length_append, List.length_nil]) | refine And.intro (fun hc => (?_ : AW _ _ _ _)) (fun hc => (?_ : AW _ _ _ _)) | simp (disch := omega) only [go_sem, seval, reduceCtorEq, ↓reduceIte, beq_dec, Int.toNat_natCast, IntKind.signed, IntKind.bits, List.length_map, List.length_cons, List.length_drop, getD_map (fun e : Nat × Nat => [CD.I (e.1 : Int), CD.I (e.2 : Int)]), getD_map (fun b : Bool => [CD.B b]), getD_map (fun x : Int => [CD.I x]), List.getD_cons_zero, hE, hgk, seen_getD, seenL_set, seenL_len, List.set_cons_zero, iset, Int.toNat_natCast, maxLen, List.length_append, List.length_nil] | (refine And.intro ?_ ?_; focus (first | (intros; omega) | (intros; simp_all; done))) | refine And.intro (?_ : CallAt _ _ _ _ _ _ _ _) ?_ | refine And.intro (?_ : CallAt _ _ _ _ _ _ _ _ ∧ _) ?_ | refine And.intro (?_ : AW _ _ _ _) ?_ | refine And.intro (?_ : _ ∧ _) ?_ | fail))
                  all_goals first
                    | (exfalso; omega)
                    | (exfalso; exact no2 (x := x) (y := y) hcq (by assumption) (by assumption))
                    | (refine .mk (k + 1) (by omega) (by omega) ?_
                       rw [hsuc]
                       first
                         | rw [hop_p (x := x) (y := y) (s := s1) (by assumption), hop_n (x := y) (y := x) (by assumption)]
                         | rw [hop_n (x := x) (y := y) (s := s1) (by assumption), hop_p (x := y) (y := x) (s := s1) (by assumption)]
                         | rw [hop_n (x := x) (y := y) (s := s1) (by assumption), hop_n (x := y) (y := x) (s := s1) (by assumption)]
                       simp (disch := omega) only [go_sem, seval, reduceCtorEq, ↓reduceIte, beq_dec, Int.toNat_natCast, IntKind.signed, IntKind.bits, Int.natCast_add, Int.natCast_one]
                       try rw [iN_app _ _ _ (by omega)])
                    | trace_state
              · obtain rfl : k = es.length := by omega
                (repeat' (first | refine NextAt.mk (fun hc => ?_) (fun pre n v post hc hkey => ?_) | refine Sni.mk (fun hc => ?_) ?_ | refine Both.mk ?_ ?_ | refine AW_seq ?_ | refine AW_block ?_ | ((first | refine AW_reg ?_ | refine AW_cond ?_ | refine AW_skip ?_ | refine AW_exit ?_ | refine AW_ret ?_ | refine AW_regD (by kernel_rfl) ?_ | refine AW_regX (by kernel_rfl) ?_ | refine CallAtG.t (Eq.refl true) ?_ | refine CallAtG.f (Eq.refl false) ?_); try simp (disch := omega) only [go_sem, seval, reduceCtorEq, ↓reduceIte, beq_dec, Int.toNat_natCast, IntKind.signed, IntKind.bits, List.length_map, List.length_cons]) | refine And.intro (fun hc => (?_ : AW _ _ _ _)) (fun hc => (?_ : AW _ _ _ _)) | simp (disch := omega) only [go_sem, seval, reduceCtorEq, ↓reduceIte, beq_dec, Int.toNat_natCast, IntKind.signed, IntKind.bits, List.length_map, List.length_cons] | (refine And.intro ?_ ?_; focus (first | (intros; omega) | (intros; simp_all; done))) | refine And.intro (?_ : CallAt _ _ _ _ _ _ _ _) ?_ | refine And.intro (?_ : CallAt _ _ _ _ _ _ _ _ ∧ _) ?_ | refine And.intro (?_ : AW _ _ _ _) ?_ | fail))
                · exfalso; omega
                · refine .mk (h + 1) ⟨by rw [hnext]; exact rn, fun hb' => by rw [hnext] at hb' ⊢; exact ext_new r2 hbq hlt hb'⟩ (by omega) ?_
                  rw [hnext]
                  simp (disch := omega) only [go_sem, seval, reduceCtorEq, ↓reduceIte, beq_dec, Int.toNat_natCast, IntKind.signed, IntKind.bits]
                  rw [List.take_of_length_le (by simp)]
          · have e1 : ((0 : Int) < ((srS es fl gone i a h).q.length - h : Nat)) = False := by simp; omega
            have hstop := srS_stop hge i (by omega)
            have hw : wid es i a b gone fl = none := by
              unfold wid
              rw [hstop, if_neg hbq]
            rw [hw]
            (repeat' (first | refine NextAt.mk (fun hc => ?_) (fun pre n v post hc hkey => ?_) | refine Sni.mk (fun hc => ?_) ?_ | refine Both.mk ?_ ?_ | refine AW_seq ?_ | refine AW_block ?_ | ((first | refine AW_reg ?_ | refine AW_cond ?_ | refine AW_skip ?_ | refine AW_exit ?_ | refine AW_ret ?_ | refine AW_regD (by kernel_rfl) ?_ | refine AW_regX (by kernel_rfl) ?_ | refine CallAtG.t (Eq.refl true) ?_ | refine CallAtG.f (Eq.refl false) ?_); try simp (disch := omega) only [go_sem, seval, reduceCtorEq, ↓reduceIte, beq_dec, Int.toNat_natCast, IntKind.signed, IntKind.bits, List.length_map, List.length_drop, e1, e2, seenL_len, seen_getD, decide_false]) | refine And.intro (fun hc => (?_ : AW _ _ _ _)) (fun hc => (?_ : AW _ _ _ _)) | simp (disch := omega) only [go_sem, seval, reduceCtorEq, ↓reduceIte, beq_dec, Int.toNat_natCast, IntKind.signed, IntKind.bits, List.length_map, List.length_drop, e1, e2, seenL_len, seen_getD, decide_false] | (refine And.intro ?_ ?_; focus (first | (intros; omega) | (intros; simp_all; done))) | refine And.intro (?_ : CallAt _ _ _ _ _ _ _ _) ?_ | refine And.intro (?_ : CallAt _ _ _ _ _ _ _ _ ∧ _) ?_ | refine And.intro (?_ : AW _ _ _ _) ?_ | fail))
            rfl
end Go.Proofs.Ytgldpbghbkoolaa

