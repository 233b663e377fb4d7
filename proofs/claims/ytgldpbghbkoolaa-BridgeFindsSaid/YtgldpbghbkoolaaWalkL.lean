/-
  Lemmas for the proof: no statement of its own.
-/
import Derived.Test.YtgldpbghbkoolaaWalkK
set_option linter.unusedVariables false
set_option linter.unusedSimpArgs false
-- P p_15.txt
open Go Go.AL Go.RowKit
namespace Go.Proofs.Ytgldpbghbkoolaa
set_option maxRecDepth 20000
abbrev rR (s : List (List Int)) : List (List (List CD)) := s.map fun r => r.map fun x => [CD.I x]
abbrev CLi (s : List (List Int)) : CD := .sl 1 (s.map fun r => [Row r])
theorem rowsCD_rR (s : List (List Int)) : rowsCD 1 (rR s) = CLi s := by unfold rowsCD; rw [List.map_map]; rfl
theorem rR_get (T : List (List Int)) (h : Nat) : (rR T).getD h [] = (T.getD h []).map fun x => [CD.I x] := by
  simp only [rR, List.getD, List.getElem?_map]
  cases T[h]? <;> rfl
theorem rR_set (T : List (List Int)) (h : Nat) (x : Int) : (rR T).set h ((rR T).getD h [] ++ [[CD.I x]]) = rR (T.set h (T.getD h [] ++ [x])) := by
  rw [rR_get]
  simp [rR, List.map_set]
theorem hold19a {Q : Exit → St → Prop} {σ : St} (h : Hold (AW Try.prog c19_9 Q σ)) : AW Try.prog c19_9 Q σ := h.out
theorem hold19b {Q : Exit → St → Prop} {σ : St} (h : Hold (AW Try.prog c19_28 Q σ)) : AW Try.prog c19_28 Q σ := h.out
theorem hold19c {Q : Exit → St → Prop} {σ : St} (h : Hold (AW Try.prog c19_34 Q σ)) : AW Try.prog c19_34 Q σ := h.out
theorem hold19d {Q : Exit → St → Prop} {σ : St} (h : Hold (AW Try.prog c19_41 Q σ)) : AW Try.prog c19_41 Q σ := h.out
/-- whether a link is a bridge; the name of a link -/
def isG (g : Gr) : List Bool := brL (esG g) (nG g)
def nmG (g : Gr) : List Nat := (ptS (esG g) (fun k => !nth (isG g) k) (nG g) (esG g).length).nm
def clG (g : Gr) (k : Nat) : Nat := nth (nmG g) (nth (esG g) k).1
def blG (g : Gr) : List (List Int) := (blS (nth (isG g)) (clG g) (idsG g) g.links.length).rows
theorem n19e (g : Gr) (hv : validG g = false) : FnR Try.prog 19 [g.av] [.c .nil, .c (.I 1)] := by
  have g32 := f32 g
  rw [hv] at g32
  refine fn_walk code19 (by simp) ?_
  (repeat' (first | refine NextAt.mk (fun hc => ?_) (fun pre n v post hc hkey => ?_) | refine Sni.mk (fun hc => ?_) ?_ | refine Both.mk ?_ ?_ | refine AW_seq ?_ | refine AW_block ?_ | ((first | refine AW_reg ?_ | refine AW_cond ?_ | refine AW_skip ?_ | refine AW_exit ?_ | refine AW_ret ?_ | refine AW_regD (by kernel_rfl) ?_ | refine AW_regX (by kernel_rfl) ?_ | refine CallAtG.t (Eq.refl true) ?_ | refine CallAtG.f (Eq.refl false) ?_ | refine CallAt.mk _ (g32 ..) (by first | (intro h; cases h; done) | (intro _; repeat' (first | exact List.forall_mem_nil _ | trivial | refine List.forall_mem_cons.2 ⟨?_, ?_⟩)) | (intro _; simp [RV.flatP, CD.flatP]; done)) ?_ | refine CallAtG.mk _ (fun _ => g32 ..) ?_ | refine CallDS.mk _ (by simp [RV.data]) (fun _ => g32 ..) (by first | (intro h; cases h; done) | (intro _; repeat' (first | exact List.forall_mem_nil _ | trivial | refine List.forall_mem_cons.2 ⟨?_, ?_⟩)) | (intro _; simp [RV.flatP, CD.flatP]; done)) ?_); try simp (disch := omega) only [go_sem, seval, reduceCtorEq, ↓reduceIte, beq_dec, Int.toNat_natCast, IntKind.signed, IntKind.bits]) | refine And.intro (fun hc => (?_ : AW _ _ _ _)) (fun hc => (?_ : AW _ _ _ _)) | simp (disch := omega) only [go_sem, seval, reduceCtorEq, ↓reduceIte, beq_dec, Int.toNat_natCast, IntKind.signed, IntKind.bits] | (refine And.intro ?_ ?_; focus (first | (intros; omega) | (intros; simp_all; done))) | refine And.intro (?_ : CallAt _ _ _ _ _ _ _ _) ?_ | refine And.intro (?_ : CallAt _ _ _ _ _ _ _ _ ∧ _) ?_ | refine And.intro (?_ : AW _ _ _ _) ?_ | fail))
structure Wb where
  (k : Nat) (es : List (List Int × Sum CD (List CD)))
set_option maxHeartbeats 8000000 in
theorem n19 (g : Gr) (hv : validG g = true) : FnR Try.prog 19 [g.av] [.c (CLi (blG g)), .c (.I 0)] := by
  have g32 := f32 g
  rw [hv] at g32
  have hsm := valid_small hv
  have g34 := n34 g hv
  have hl := esG_len g
  have hid : (idsG g).length = g.links.length := by simp [idsG]
  have hlt := esG_lt hv
  have g39 := n39 (nG g) (idsG g) (esG g) (by unfold nG; omega) hlt (by omega) (by rw [hl, hid])
  have hbl : (isG g).length = g.links.length := by simp [isG, brL, hl]
  have g40 := FnW.low (n40d (nG g) (idsG g) (esG g) (isG g) (by rw [hbl, hl]) (by unfold nG; omega) hlt (by omega))
  have r5 : rn 1000005 = 5 := rfl
  simp only [netAV, renL, AV.ren, renOb, AO.ren, List.map_cons, List.map_nil, r5] at g40
  have hpl := (ptS_len (esG g) (fun k => !nth (isG g) k) (nG g) (esG g).length).1
  unfold blG clG nmG
  rw [show bR (brL (esG g) (nG g)) = bR (isG g) from rfl] at g39
  generalize ptS (esG g) (fun k => !nth (isG g) k) (nG g) (esG g).length = pt at *
  generalize hN : nG g = n at *
  refine fn_walk code19 (by simp) ?_
  (repeat' (first | (with_reducible refine hold19a ?_; try simp (disch := omega) only [go_sem, seval, reduceCtorEq, ↓reduceIte, beq_dec, Int.toNat_natCast, IntKind.signed, IntKind.bits]) | refine NextAt.mk (fun hc => ?_) (fun pre n v post hc hkey => ?_) | refine Sni.mk (fun hc => ?_) ?_ | refine Both.mk ?_ ?_ | refine AW_seq ?_ | refine AW_block ?_ | ((first | refine AW_reg ?_ | refine AW_cond ?_ | refine AW_skip ?_ | refine AW_exit ?_ | refine AW_ret ?_ | refine AW_regD (by kernel_rfl) ?_ | refine AW_regX (by kernel_rfl) ?_ | refine CallAtG.t (Eq.refl true) ?_ | refine CallAtG.f (Eq.refl false) ?_ | refine CallAt.mk _ (g32 ..) (by first | (intro h; cases h; done) | (intro _; repeat' (first | exact List.forall_mem_nil _ | trivial | refine List.forall_mem_cons.2 ⟨?_, ?_⟩)) | (intro _; simp [RV.flatP, CD.flatP]; done)) ?_ | refine CallAtG.mk _ (fun _ => g32 ..) ?_ | refine CallDS.mk _ (by simp [RV.data]) (fun _ => g32 ..) (by first | (intro h; cases h; done) | (intro _; repeat' (first | exact List.forall_mem_nil _ | trivial | refine List.forall_mem_cons.2 ⟨?_, ?_⟩)) | (intro _; simp [RV.flatP, CD.flatP]; done)) ?_ | refine CallAt.mk _ (g34 ..) (by first | (intro h; cases h; done) | (intro _; repeat' (first | exact List.forall_mem_nil _ | trivial | refine List.forall_mem_cons.2 ⟨?_, ?_⟩)) | (intro _; simp [RV.flatP, CD.flatP]; done)) ?_ | refine CallAtG.mk _ (fun _ => g34 ..) ?_ | refine CallDS.mk _ (by simp [RV.data]) (fun _ => g34 ..) (by first | (intro h; cases h; done) | (intro _; repeat' (first | exact List.forall_mem_nil _ | trivial | refine List.forall_mem_cons.2 ⟨?_, ?_⟩)) | (intro _; simp [RV.flatP, CD.flatP]; done)) ?_ | refine CallAt.mk _ (g39 ..) (by first | (intro h; cases h; done) | (intro _; repeat' (first | exact List.forall_mem_nil _ | trivial | refine List.forall_mem_cons.2 ⟨?_, ?_⟩)) | (intro _; simp [RV.flatP, CD.flatP]; done)) ?_ | refine CallAtG.mk _ (fun _ => g39 ..) ?_ | refine CallDS.mk _ (by simp [RV.data]) (fun _ => g39 ..) (by first | (intro h; cases h; done) | (intro _; repeat' (first | exact List.forall_mem_nil _ | trivial | refine List.forall_mem_cons.2 ⟨?_, ?_⟩)) | (intro _; simp [RV.flatP, CD.flatP]; done)) ?_); try simp (disch := omega) only [go_sem, seval, reduceCtorEq, ↓reduceIte, beq_dec, Int.toNat_natCast, IntKind.signed, IntKind.bits]) | refine And.intro (fun hc => (?_ : AW _ _ _ _)) (fun hc => (?_ : AW _ _ _ _)) | simp (disch := omega) only [go_sem, seval, reduceCtorEq, ↓reduceIte, beq_dec, Int.toNat_natCast, IntKind.signed, IntKind.bits] | (refine And.intro ?_ ?_; focus (first | (intros; omega) | (intros; simp_all; done))) | refine And.intro (?_ : CallAt _ _ _ _ _ _ _ _) ?_ | refine And.intro (?_ : CallAt _ _ _ _ _ _ _ _ ∧ _) ?_ | refine And.intro (?_ : AW _ _ _ _) ?_ | fail))
  refine ⟨AW_frz [20] ?_⟩
  simp (disch := omega) only [go_sem, seval, reduceCtorEq, ↓reduceIte, beq_dec, Int.toNat_natCast, IntKind.signed, IntKind.bits]
  (repeat' (first | refine NextAt.mk (fun hc => ?_) (fun pre n v post hc hkey => ?_) | refine Sni.mk (fun hc => ?_) ?_ | refine Both.mk ?_ ?_ | refine AW_seq ?_ | refine AW_block ?_ | ((first | refine AW_reg ?_ | refine AW_cond ?_ | refine AW_skip ?_ | refine AW_exit ?_ | refine AW_ret ?_ | refine AW_regD (by kernel_rfl) ?_ | refine AW_regX (by kernel_rfl) ?_ | refine CallAt.mkW (g40 ..) (by rfl) (by simp (disch := omega) only [go_sem, seval, reduceCtorEq, ↓reduceIte, beq_dec, Int.toNat_natCast, IntKind.signed, IntKind.bits, List.length_map, hid]) (by rfl) (by rfl) (by first | (intro h; cases h; done) | (intro _; simp [RV.flatP, CD.flatP, flatOb, AO.flatP, List.length_map, hid]; done)) ?_ | refine CallAtG.t (Eq.refl true) ?_ | refine CallAtG.f (Eq.refl false) ?_); try simp (disch := omega) only [go_sem, seval, reduceCtorEq, ↓reduceIte, beq_dec, Int.toNat_natCast, IntKind.signed, IntKind.bits, List.length_map, hid]) | refine And.intro (fun hc => (?_ : AW _ _ _ _)) (fun hc => (?_ : AW _ _ _ _)) | simp (disch := omega) only [go_sem, seval, reduceCtorEq, ↓reduceIte, beq_dec, Int.toNat_natCast, IntKind.signed, IntKind.bits, List.length_map, hid] | (refine And.intro ?_ ?_; focus (first | (intros; omega) | (intros; simp_all; done))) | refine And.intro (?_ : CallAt _ _ _ _ _ _ _ _) ?_ | refine And.intro (?_ : CallAt _ _ _ _ _ _ _ _ ∧ _) ?_ | refine And.intro (?_ : AW _ _ _ _) ?_ | fail))
  refine AW_nil 9 900 22 1 (by rfl) ?_
  refine AW_toRows 900 3 1 (by rfl) (by simp) ?_
  generalize hcl : (fun k => nth pt.nm (nth (esG g) k).fst) = cls at *
  refine AW_loopK [4, 5, 6, 8, 29, 30] [9, 10, 11, 12, 13, 31, 32, 33, 34, 35, 36, 37, 38, 39, 40, 41, 42, 43, 44, 45, 46, 47, 48, 49, 50, 51, 52, 53, 54, 55, 56, 57, 58, 59, 60, 61, 62, 63, 64, 65, 66, 67, 68, 69, 70, 71, 72, 73, 74, 75, 76, 77, 78, 79, 80, 81, 82] (fun w : Wb => w.k ≤ g.links.length ∧ BSay w.es (blS (nth (isG g)) cls (idsG g) w.k)) (fun w => [(31, .I w.k), (9, .own 900), (8, .own 27)]) (fun w => [(900, .rows 22 3 1 (rR (blS (nth (isG g)) cls (idsG g) w.k).rows) none none), (27, .map (.one .i64) w.es)]) (fun w => g.links.length - w.k) ⟨0, []⟩ ⟨by simp, fun c => by simp [blS, mlook]⟩ ?_ ?_
  · simp (disch := omega) only [go_sem, seval, reduceCtorEq, ↓reduceIte, beq_dec, Int.toNat_natCast, IntKind.signed, IntKind.bits, Int.natCast_zero, blS, List.map_nil]
  · rintro ⟨k, es⟩ ⟨hk, hsay⟩
    simp only at hk hsay
    obtain ⟨p1, p2, p3⟩ := blS_len (nth (isG g)) cls (idsG g) k
    rcases Nat.lt_or_ge k g.links.length with hkl | hkl
    · have hsuc : blS (nth (isG g)) cls (idsG g) (k + 1) = blK (nth (isG g)) cls (idsG g) (blS (nth (isG g)) cls (idsG g) k) k := rfl
      obtain ⟨x1, x2⟩ := hlt k (by omega)
      have hgis := getD_map (fun b : Bool => [CD.B b]) (isG g) k [] (by omega)
      have hclk : cls k = nth pt.nm (nth (esG g) k).1 := by rw [← hcl]
      unfold blK at hsuc
      rw [hclk] at hsuc
      generalize blS (nth (isG g)) cls (idsG g) k = s at *
      cases his : nth (isG g) k with
      | true =>
        rw [his, if_pos rfl] at hsuc
        rw [his] at hgis
        (repeat' (first | refine NextAt.mk (fun hc => ?_) (fun pre n v post hc hkey => ?_) | refine Sni.mk (fun hc => ?_) ?_ | refine Both.mk ?_ ?_ | refine AW_seq ?_ | refine AW_block ?_ | ((first | refine AW_reg ?_ | refine AW_cond ?_ | refine AW_skip ?_ | refine AW_exit ?_ | refine AW_ret ?_ | refine AW_regD (by kernel_rfl) ?_ | refine AW_regX (by kernel_rfl) ?_ | refine CallAtG.t (Eq.refl true) ?_ | refine CallAtG.f (Eq.refl false) ?_); try simp (disch := omega) only [go_sem, seval, reduceCtorEq, ↓reduceIte, beq_dec, Int.toNat_natCast, IntKind.signed, IntKind.bits, List.length_map, getD_map (fun x : Int => [CD.I x]), hgis, hid, hbl]) | refine And.intro (fun hc => (?_ : AW _ _ _ _)) (fun hc => (?_ : AW _ _ _ _)) | simp (disch := omega) only [go_sem, seval, reduceCtorEq, ↓reduceIte, beq_dec, Int.toNat_natCast, IntKind.signed, IntKind.bits, List.length_map, getD_map (fun x : Int => [CD.I x]), hgis, hid, hbl] | (refine And.intro ?_ ?_; focus (first | (intros; omega) | (intros; simp_all; done))) | refine And.intro (?_ : CallAt _ _ _ _ _ _ _ _) ?_ | refine And.intro (?_ : CallAt _ _ _ _ _ _ _ _ ∧ _) ?_ | refine And.intro (?_ : AW _ _ _ _) ?_ | fail))
        · refine .mk ⟨k + 1, es⟩ ⟨by simp only []; omega, by rw [hsuc]; exact hsay⟩ (by simp only []; omega) ?_
          simp only [hsuc]
          simp (disch := omega) only [go_sem, seval, reduceCtorEq, ↓reduceIte, beq_dec, Int.toNat_natCast, IntKind.signed, IntKind.bits, Int.natCast_add, Int.natCast_one]
        · exfalso; omega
      | false =>
        rw [his, if_neg (by simp)] at hsuc
        rw [his] at hgis
        generalize hE : nth (esG g) k = e at *
        obtain ⟨x, y⟩ := e
        simp only at x1 x2 hsuc
        have gx := getD_map (fun x : Nat => [CD.I (x : Int)]) pt.nm x [] (by omega)
        generalize nth pt.nm x = c at *
        have hT := bsT_lt p1 c
        have p3' : ∀ h, ((bsN s c).rows.getD h []).length ≤ k := by
          intro h
          have := p3 h
          unfold bsN
          split
          · exact this
          · simp only [List.getD, List.getElem?_append] at this ⊢
            split
            · exact this
            · rcases hh : h - s.rows.length with _ | n <;> simp
        have p3'' := p3' (bsT s c)
        have hlk := hsay c
        by_cases hc : c ∈ s.ks
        · rw [if_pos hc] at hlk
          have hbT : bsT s c = s.ks.idxOf c := by unfold bsT; rw [if_pos hc]
          have hbN : bsN s c = s := by unfold bsN; rw [if_pos hc]
          have hsn := hsay.old hc
          rw [← hbT] at hlk
          (repeat' (first | (with_reducible refine hold19b ?_; try simp (disch := omega) only [go_sem, seval, reduceCtorEq, ↓reduceIte, beq_dec, Int.toNat_natCast, IntKind.signed, IntKind.bits, List.length_map, getD_map (fun x : Int => [CD.I x]), getD_map (fun e : Nat × Nat => [CD.I (e.1 : Int), CD.I (e.2 : Int)]), hgis, hid, hbl, hE, gx, Int.toNat_natCast, hl, hpl, hlk, lookAV, argAV, Option.getD_some, Option.isSome_some, Bool.not_true]) | refine NextAt.mk (fun hc => ?_) (fun pre n v post hc hkey => ?_) | refine Sni.mk (fun hc => ?_) ?_ | refine Both.mk ?_ ?_ | refine AW_seq ?_ | refine AW_block ?_ | ((first | refine AW_reg ?_ | refine AW_cond ?_ | refine AW_skip ?_ | refine AW_exit ?_ | refine AW_ret ?_ | refine AW_regD (by kernel_rfl) ?_ | refine AW_regX (by kernel_rfl) ?_ | refine CallAtG.t (Eq.refl true) ?_ | refine CallAtG.f (Eq.refl false) ?_); try simp (disch := omega) only [go_sem, seval, reduceCtorEq, ↓reduceIte, beq_dec, Int.toNat_natCast, IntKind.signed, IntKind.bits, List.length_map, getD_map (fun x : Int => [CD.I x]), getD_map (fun e : Nat × Nat => [CD.I (e.1 : Int), CD.I (e.2 : Int)]), hgis, hid, hbl, hE, gx, Int.toNat_natCast, hl, hpl, hlk, lookAV, argAV, Option.getD_some, Option.isSome_some, Bool.not_true]) | refine And.intro (fun hc => (?_ : AW _ _ _ _)) (fun hc => (?_ : AW _ _ _ _)) | simp (disch := omega) only [go_sem, seval, reduceCtorEq, ↓reduceIte, beq_dec, Int.toNat_natCast, IntKind.signed, IntKind.bits, List.length_map, getD_map (fun x : Int => [CD.I x]), getD_map (fun e : Nat × Nat => [CD.I (e.1 : Int), CD.I (e.2 : Int)]), hgis, hid, hbl, hE, gx, Int.toNat_natCast, hl, hpl, hlk, lookAV, argAV, Option.getD_some, Option.isSome_some, Bool.not_true] | (refine And.intro ?_ ?_; focus (first | (intros; omega) | (intros; simp_all; done))) | refine And.intro (?_ : CallAt _ _ _ _ _ _ _ _) ?_ | refine And.intro (?_ : CallAt _ _ _ _ _ _ _ _ ∧ _) ?_ | refine And.intro (?_ : AW _ _ _ _) ?_ | fail))
          · rw [← hbN]
            rw [hbN]
            have e : rR s.rows = rR (bsN s c).rows := by rw [hbN]
            rw [e]
            refine ⟨?_⟩
            have hrow := rR_set (bsN s c).rows (bsT s c) (nth (idsG g) k)
            have hgt := rR_get (bsN s c).rows (bsT s c)
            have hlen : ((rR (bsN s c).rows).getD (bsT s c) []).length ≤ 70 := by rw [hgt, List.length_map]; omega
            have hlr : (rR (bsN s c).rows).length = (bsN s c).rows.length := by simp
            refine AW_out 900 901 (bsT s c) (by rfl) (by rw [hlr]; exact hT) ?_
            (repeat' (first | (with_reducible refine hold19c ?_; try simp (disch := omega) only [go_sem, seval, reduceCtorEq, ↓reduceIte, beq_dec, Int.toNat_natCast, IntKind.signed, IntKind.bits, List.length_map, maxLen, hlr]) | refine NextAt.mk (fun hc => ?_) (fun pre n v post hc hkey => ?_) | refine Sni.mk (fun hc => ?_) ?_ | refine Both.mk ?_ ?_ | refine AW_seq ?_ | refine AW_block ?_ | ((first | refine AW_reg ?_ | refine AW_cond ?_ | refine AW_skip ?_ | refine AW_exit ?_ | refine AW_ret ?_ | refine AW_regD (by kernel_rfl) ?_ | refine AW_regX (by kernel_rfl) ?_ | refine CallAtG.t (Eq.refl true) ?_ | refine CallAtG.f (Eq.refl false) ?_); try simp (disch := omega) only [go_sem, seval, reduceCtorEq, ↓reduceIte, beq_dec, Int.toNat_natCast, IntKind.signed, IntKind.bits, List.length_map, maxLen, hlr]) | refine And.intro (fun hc => (?_ : AW _ _ _ _)) (fun hc => (?_ : AW _ _ _ _)) | simp (disch := omega) only [go_sem, seval, reduceCtorEq, ↓reduceIte, beq_dec, Int.toNat_natCast, IntKind.signed, IntKind.bits, List.length_map, maxLen, hlr] | (refine And.intro ?_ ?_; focus (first | (intros; omega) | (intros; simp_all; done))) | refine And.intro (?_ : CallAt _ _ _ _ _ _ _ _) ?_ | refine And.intro (?_ : CallAt _ _ _ _ _ _ _ _ ∧ _) ?_ | refine And.intro (?_ : AW _ _ _ _) ?_ | fail))
            repeat' apply And.intro
            all_goals first | assumption | omega | skip
            all_goals (
              refine ⟨AW_inn 900 901 (bsT s c) (by rfl) (by rfl) ?_⟩
              (repeat' (first | refine NextAt.mk (fun hc => ?_) (fun pre n v post hc hkey => ?_) | refine Sni.mk (fun hc => ?_) ?_ | refine Both.mk ?_ ?_ | refine AW_seq ?_ | refine AW_block ?_ | ((first | refine AW_reg ?_ | refine AW_cond ?_ | refine AW_skip ?_ | refine AW_exit ?_ | refine AW_ret ?_ | refine AW_regD (by kernel_rfl) ?_ | refine AW_regX (by kernel_rfl) ?_ | refine CallAtG.t (Eq.refl true) ?_ | refine CallAtG.f (Eq.refl false) ?_); try simp (disch := omega) only [go_sem, seval, reduceCtorEq, ↓reduceIte, beq_dec, Int.toNat_natCast, IntKind.signed, IntKind.bits]) | refine And.intro (fun hc => (?_ : AW _ _ _ _)) (fun hc => (?_ : AW _ _ _ _)) | simp (disch := omega) only [go_sem, seval, reduceCtorEq, ↓reduceIte, beq_dec, Int.toNat_natCast, IntKind.signed, IntKind.bits] | (refine And.intro ?_ ?_; focus (first | (intros; omega) | (intros; simp_all; done))) | refine And.intro (?_ : CallAt _ _ _ _ _ _ _ _) ?_ | refine And.intro (?_ : CallAt _ _ _ _ _ _ _ _ ∧ _) ?_ | refine And.intro (?_ : AW _ _ _ _) ?_ | fail))
              refine .mk ⟨k + 1, _⟩ ⟨by simp only []; omega, by rw [hsuc]; exact hsn⟩ (by simp only []; omega) ?_
              simp only [hsuc]
              rw [← hrow]
              simp (disch := omega) only [go_sem, seval, reduceCtorEq, ↓reduceIte, beq_dec, Int.toNat_natCast, IntKind.signed, IntKind.bits, Int.natCast_add, Int.natCast_one])
          all_goals (exfalso; omega)
        · rw [if_neg hc] at hlk
          have hbT : bsT s c = s.rows.length := by unfold bsT; rw [if_neg hc, p1]
          have hbN : rR s.rows ++ [[]] = rR (bsN s c).rows := by unfold bsN; rw [if_neg hc]; simp [rR]
          have hsn := hsay.new hc
          rw [p1, ← hbT] at hsn
          have hlr0 : (rR s.rows).length = s.rows.length := by simp
          (repeat' (first | (with_reducible refine hold19b ?_; try simp (disch := omega) only [go_sem, seval, reduceCtorEq, ↓reduceIte, beq_dec, Int.toNat_natCast, IntKind.signed, IntKind.bits, List.length_map, getD_map (fun x : Int => [CD.I x]), getD_map (fun e : Nat × Nat => [CD.I (e.1 : Int), CD.I (e.2 : Int)]), hgis, hid, hbl, hE, gx, Int.toNat_natCast, hl, hpl, hlk, hlr0, lookAV, argAV, Option.getD_none, Option.isSome_none, Bool.not_false, maxLen]) | refine NextAt.mk (fun hc => ?_) (fun pre n v post hc hkey => ?_) | refine Sni.mk (fun hc => ?_) ?_ | refine Both.mk ?_ ?_ | refine AW_seq ?_ | refine AW_block ?_ | ((first | refine AW_reg ?_ | refine AW_cond ?_ | refine AW_skip ?_ | refine AW_exit ?_ | refine AW_ret ?_ | refine AW_regD (by kernel_rfl) ?_ | refine AW_regX (by kernel_rfl) ?_ | refine CallAtG.t (Eq.refl true) ?_ | refine CallAtG.f (Eq.refl false) ?_); try simp (disch := omega) only [go_sem, seval, reduceCtorEq, ↓reduceIte, beq_dec, Int.toNat_natCast, IntKind.signed, IntKind.bits, List.length_map, getD_map (fun x : Int => [CD.I x]), getD_map (fun e : Nat × Nat => [CD.I (e.1 : Int), CD.I (e.2 : Int)]), hgis, hid, hbl, hE, gx, Int.toNat_natCast, hl, hpl, hlk, hlr0, lookAV, argAV, Option.getD_none, Option.isSome_none, Bool.not_false, maxLen]) | refine And.intro (fun hc => (?_ : AW _ _ _ _)) (fun hc => (?_ : AW _ _ _ _)) | simp (disch := omega) only [go_sem, seval, reduceCtorEq, ↓reduceIte, beq_dec, Int.toNat_natCast, IntKind.signed, IntKind.bits, List.length_map, getD_map (fun x : Int => [CD.I x]), getD_map (fun e : Nat × Nat => [CD.I (e.1 : Int), CD.I (e.2 : Int)]), hgis, hid, hbl, hE, gx, Int.toNat_natCast, hl, hpl, hlk, hlr0, lookAV, argAV, Option.getD_none, Option.isSome_none, Bool.not_false, maxLen] | (refine And.intro ?_ ?_; focus (first | (intros; omega) | (intros; simp_all; done))) | refine And.intro (?_ : CallAt _ _ _ _ _ _ _ _) ?_ | refine And.intro (?_ : CallAt _ _ _ _ _ _ _ _ ∧ _) ?_ | refine And.intro (?_ : AW _ _ _ _) ?_ | fail))
          · rw [hbN, ← hbT]
            refine ⟨?_⟩
            have hrow := rR_set (bsN s c).rows (bsT s c) (nth (idsG g) k)
            have hgt := rR_get (bsN s c).rows (bsT s c)
            have hlen : ((rR (bsN s c).rows).getD (bsT s c) []).length ≤ 70 := by rw [hgt, List.length_map]; omega
            have hlr : (rR (bsN s c).rows).length = (bsN s c).rows.length := by simp
            refine AW_out 900 901 (bsT s c) (by rfl) (by rw [hlr]; exact hT) ?_
            (repeat' (first | (with_reducible refine hold19c ?_; try simp (disch := omega) only [go_sem, seval, reduceCtorEq, ↓reduceIte, beq_dec, Int.toNat_natCast, IntKind.signed, IntKind.bits, List.length_map, maxLen, hlr]) | refine NextAt.mk (fun hc => ?_) (fun pre n v post hc hkey => ?_) | refine Sni.mk (fun hc => ?_) ?_ | refine Both.mk ?_ ?_ | refine AW_seq ?_ | refine AW_block ?_ | ((first | refine AW_reg ?_ | refine AW_cond ?_ | refine AW_skip ?_ | refine AW_exit ?_ | refine AW_ret ?_ | refine AW_regD (by kernel_rfl) ?_ | refine AW_regX (by kernel_rfl) ?_ | refine CallAtG.t (Eq.refl true) ?_ | refine CallAtG.f (Eq.refl false) ?_); try simp (disch := omega) only [go_sem, seval, reduceCtorEq, ↓reduceIte, beq_dec, Int.toNat_natCast, IntKind.signed, IntKind.bits, List.length_map, maxLen, hlr]) | refine And.intro (fun hc => (?_ : AW _ _ _ _)) (fun hc => (?_ : AW _ _ _ _)) | simp (disch := omega) only [go_sem, seval, reduceCtorEq, ↓reduceIte, beq_dec, Int.toNat_natCast, IntKind.signed, IntKind.bits, List.length_map, maxLen, hlr] | (refine And.intro ?_ ?_; focus (first | (intros; omega) | (intros; simp_all; done))) | refine And.intro (?_ : CallAt _ _ _ _ _ _ _ _) ?_ | refine And.intro (?_ : CallAt _ _ _ _ _ _ _ _ ∧ _) ?_ | refine And.intro (?_ : AW _ _ _ _) ?_ | fail))
            repeat' apply And.intro
            all_goals first | assumption | omega | skip
            all_goals (
              refine ⟨AW_inn 900 901 (bsT s c) (by rfl) (by rfl) ?_⟩
              (repeat' (first | refine NextAt.mk (fun hc => ?_) (fun pre n v post hc hkey => ?_) | refine Sni.mk (fun hc => ?_) ?_ | refine Both.mk ?_ ?_ | refine AW_seq ?_ | refine AW_block ?_ | ((first | refine AW_reg ?_ | refine AW_cond ?_ | refine AW_skip ?_ | refine AW_exit ?_ | refine AW_ret ?_ | refine AW_regD (by kernel_rfl) ?_ | refine AW_regX (by kernel_rfl) ?_ | refine CallAtG.t (Eq.refl true) ?_ | refine CallAtG.f (Eq.refl false) ?_); try simp (disch := omega) only [go_sem, seval, reduceCtorEq, ↓reduceIte, beq_dec, Int.toNat_natCast, IntKind.signed, IntKind.bits]) | refine And.intro (fun hc => (?_ : AW _ _ _ _)) (fun hc => (?_ : AW _ _ _ _)) | simp (disch := omega) only [go_sem, seval, reduceCtorEq, ↓reduceIte, beq_dec, Int.toNat_natCast, IntKind.signed, IntKind.bits] | (refine And.intro ?_ ?_; focus (first | (intros; omega) | (intros; simp_all; done))) | refine And.intro (?_ : CallAt _ _ _ _ _ _ _ _) ?_ | refine And.intro (?_ : CallAt _ _ _ _ _ _ _ _ ∧ _) ?_ | refine And.intro (?_ : AW _ _ _ _) ?_ | fail))
              refine .mk ⟨k + 1, _⟩ ⟨by simp only []; omega, by rw [hsuc]; exact hsn⟩ (by simp only []; omega) ?_
              simp only [hsuc]
              rw [← hrow]
              simp (disch := omega) only [go_sem, seval, reduceCtorEq, ↓reduceIte, beq_dec, Int.toNat_natCast, IntKind.signed, IntKind.bits, Int.natCast_add, Int.natCast_one])
          all_goals (exfalso; omega)
    · obtain rfl : k = g.links.length := by omega
      (repeat' (first | (with_reducible refine hold19d ?_; try simp (disch := omega) only [go_sem, seval, reduceCtorEq, ↓reduceIte, beq_dec, Int.toNat_natCast, IntKind.signed, IntKind.bits, List.length_map]) | refine NextAt.mk (fun hc => ?_) (fun pre n v post hc hkey => ?_) | refine Sni.mk (fun hc => ?_) ?_ | refine Both.mk ?_ ?_ | refine AW_seq ?_ | refine AW_block ?_ | ((first | refine AW_reg ?_ | refine AW_cond ?_ | refine AW_skip ?_ | refine AW_exit ?_ | refine AW_ret ?_ | refine AW_regD (by kernel_rfl) ?_ | refine AW_regX (by kernel_rfl) ?_ | refine CallAtG.t (Eq.refl true) ?_ | refine CallAtG.f (Eq.refl false) ?_); try simp (disch := omega) only [go_sem, seval, reduceCtorEq, ↓reduceIte, beq_dec, Int.toNat_natCast, IntKind.signed, IntKind.bits, List.length_map]) | refine And.intro (fun hc => (?_ : AW _ _ _ _)) (fun hc => (?_ : AW _ _ _ _)) | simp (disch := omega) only [go_sem, seval, reduceCtorEq, ↓reduceIte, beq_dec, Int.toNat_natCast, IntKind.signed, IntKind.bits, List.length_map] | (refine And.intro ?_ ?_; focus (first | (intros; omega) | (intros; simp_all; done))) | refine And.intro (?_ : CallAt _ _ _ _ _ _ _ _) ?_ | refine And.intro (?_ : CallAt _ _ _ _ _ _ _ _ ∧ _) ?_ | refine And.intro (?_ : AW _ _ _ _) ?_ | fail))
      · exfalso; omega
      refine ⟨AW_frzR 900 (by rfl) ?_⟩
      rw [← rowsCD_rR]
      (repeat' (first | refine NextAt.mk (fun hc => ?_) (fun pre n v post hc hkey => ?_) | refine Sni.mk (fun hc => ?_) ?_ | refine Both.mk ?_ ?_ | refine AW_seq ?_ | refine AW_block ?_ | ((first | refine AW_reg ?_ | refine AW_cond ?_ | refine AW_skip ?_ | refine AW_exit ?_ | refine AW_ret ?_ | refine AW_regD (by kernel_rfl) ?_ | refine AW_regX (by kernel_rfl) ?_ | refine CallAtG.t (Eq.refl true) ?_ | refine CallAtG.f (Eq.refl false) ?_); try simp (disch := omega) only [go_sem, seval, reduceCtorEq, ↓reduceIte, beq_dec, Int.toNat_natCast, IntKind.signed, IntKind.bits, St.frzR, rowsCD]) | refine And.intro (fun hc => (?_ : AW _ _ _ _)) (fun hc => (?_ : AW _ _ _ _)) | simp (disch := omega) only [go_sem, seval, reduceCtorEq, ↓reduceIte, beq_dec, Int.toNat_natCast, IntKind.signed, IntKind.bits, St.frzR, rowsCD] | (refine And.intro ?_ ?_; focus (first | (intros; omega) | (intros; simp_all; done))) | refine And.intro (?_ : CallAt _ _ _ _ _ _ _ _) ?_ | refine And.intro (?_ : CallAt _ _ _ _ _ _ _ _ ∧ _) ?_ | refine And.intro (?_ : AW _ _ _ _) ?_ | fail))
end Go.Proofs.Ytgldpbghbkoolaa

