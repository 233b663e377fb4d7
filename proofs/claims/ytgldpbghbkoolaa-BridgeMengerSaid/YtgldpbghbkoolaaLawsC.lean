/-
  A cut has as many links as the flow, and separates both dies.
-/
import Derived.Test.YtgldpbghbkoolaaWalkI
import Derived.Test.YtgldpbghbkoolaaWalkF
import Derived.Test.YtgldpbghbkoolaaWalkH
import Derived.KernelRfl
set_option linter.unusedVariables false
set_option linter.unusedSimpArgs false
-- P p_15.txt
open Go Go.AL Go.RowKit
namespace Go.Proofs.Ytgldpbghbkoolaa
set_option maxRecDepth 20000
/- coinage/coinagelaw15.BridgeMenger -/
abbrev c6_1 : AC := .reg [⟨(some 3), .box 25 (some 3) (.t 0), none⟩,
  ⟨(some 4), .box 27 (some 2) (.t 1), none⟩,
  ⟨(some 5), .box 27 (some 2) (.t 2), none⟩,
  ⟨(some 6), .mv (.k (.B false)), none⟩] false
abbrev c6_2 : AC := .reg [⟨(some 15), .call 9 [], none⟩,
  ⟨(some 16), .not (.t 15), none⟩,
  ⟨(some 17), .mv (.t 16), none⟩,
  ⟨(some 18), .ld (some 3) (.t 3), (some (17, false))⟩,
  ⟨(some 19), .call 10 [(.t 18)], (some (17, false))⟩,
  ⟨(some 20), .not (.t 19), (some (17, false))⟩,
  ⟨(some 21), .pick (.t 17) (.k (.B true)) (.t 20), none⟩] false
abbrev c6_3 : AC := .reg [⟨(some 22), .call 9 [], none⟩,
  ⟨(some 6), .mv (.t 22), none⟩] false
abbrev c6_4 : AC := .seq c6_3 .ret
abbrev c6_5 : AC := .cond (.t 21) c6_4 .skip
abbrev c6_6 : AC := .seq c6_2 c6_5
abbrev c6_7 : AC := .reg [⟨(some 24), .ld (some 3) (.t 3), none⟩,
  ⟨(some 25), .ld (some 2) (.t 4), none⟩,
  ⟨(some 26), .ld (some 2) (.t 5), none⟩,
  ⟨(some 27), .call 11 [(.t 24), (.t 25), (.t 26)], none⟩,
  ⟨(some 23), .mv (.t 27), none⟩,
  ⟨(some 28), .ext (.t 23) 0, none⟩,
  ⟨(some 29), .ext (.t 23) 1, none⟩,
  ⟨(some 7), .mv (.t 28), none⟩,
  ⟨(some 8), .mv (.t 29), none⟩] false
abbrev c6_8 : AC := .reg [⟨(some 31), .ld (some 3) (.t 3), none⟩,
  ⟨(some 32), .ld (some 2) (.t 5), none⟩,
  ⟨(some 33), .ld (some 2) (.t 4), none⟩,
  ⟨(some 34), .call 11 [(.t 31), (.t 32), (.t 33)], none⟩,
  ⟨(some 30), .mv (.t 34), none⟩,
  ⟨(some 35), .ext (.t 30) 0, none⟩,
  ⟨(some 36), .ext (.t 30) 1, none⟩,
  ⟨(some 9), .mv (.t 35), none⟩,
  ⟨(some 10), .mv (.t 36), none⟩] false
abbrev c6_9 : AC := .reg [⟨(some 38), .ld (some 3) (.t 3), none⟩,
  ⟨(some 39), .ld (some 2) (.t 4), none⟩,
  ⟨(some 40), .ld (some 2) (.t 5), none⟩,
  ⟨(some 41), .call 13 [(.t 38), (.t 39), (.t 40)], none⟩,
  ⟨(some 37), .mv (.t 41), none⟩,
  ⟨(some 42), .ext (.t 37) 0, none⟩,
  ⟨(some 43), .ext (.t 37) 1, none⟩,
  ⟨(some 11), .mv (.t 42), none⟩,
  ⟨(some 12), .mv (.t 43), none⟩] false
abbrev c6_10 : AC := .reg [⟨(some 44), .mv (.t 8), none⟩,
  ⟨(some 45), .mv (.t 10), none⟩,
  ⟨(some 46), .bin .neq (.t 44) (.t 45), none⟩,
  ⟨(some 47), .mv (.t 46), none⟩,
  ⟨(some 48), .mv (.t 8), (some (47, false))⟩,
  ⟨(some 49), .mv (.t 12), (some (47, false))⟩,
  ⟨(some 50), .bin .neq (.t 48) (.t 49), (some (47, false))⟩,
  ⟨(some 51), .pick (.t 47) (.k (.B true)) (.t 50), none⟩,
  ⟨(some 52), .mv (.t 51), none⟩,
  ⟨(some 53), .mv (.t 7), (some (52, false))⟩,
  ⟨(some 54), .mv (.t 9), (some (52, false))⟩,
  ⟨(some 55), .bin .neq (.t 53) (.t 54), (some (52, false))⟩,
  ⟨(some 56), .pick (.t 52) (.k (.B true)) (.t 55), none⟩] false
abbrev c6_11 : AC := .reg [⟨(some 6), .mv (.k (.B false)), none⟩] false
abbrev c6_12 : AC := .seq c6_11 .ret
abbrev c6_13 : AC := .cond (.t 56) c6_12 .skip
abbrev c6_14 : AC := .seq c6_10 c6_13
abbrev c6_15 : AC := .reg [⟨(some 57), .mv (.t 8), none⟩,
  ⟨(some 58), .bin .neq (.t 57) (.k (.I 0)), none⟩] false
abbrev c6_16 : AC := .reg [⟨(some 59), .mv (.t 7), none⟩,
  ⟨(some 60), .bin .eql (.t 59) (.k (.I 0)), none⟩,
  ⟨(some 61), .mv (.t 60), none⟩,
  ⟨(some 62), .mv (.t 11), (some (61, true))⟩,
  ⟨(some 63), .len (.t 62), (some (61, true))⟩,
  ⟨(some 64), .bin .eql (.t 63) (.k (.I 0)), (some (61, true))⟩,
  ⟨(some 65), .pick (.t 61) (.t 64) (.k (.B false)), none⟩,
  ⟨(some 6), .mv (.t 65), none⟩] false
abbrev c6_17 : AC := .seq c6_16 .ret
abbrev c6_18 : AC := .cond (.t 58) c6_17 .skip
abbrev c6_19 : AC := .seq c6_15 c6_18
abbrev c6_20 : AC := .reg [⟨(some 66), .mv (.t 11), none⟩,
  ⟨(some 67), .len (.t 66), none⟩,
  ⟨(some 68), .mv (.t 7), none⟩,
  ⟨(some 69), .bin .neq (.t 67) (.t 68), none⟩,
  ⟨(some 70), .mv (.t 69), none⟩,
  ⟨(some 71), .mv (.t 7), (some (70, false))⟩,
  ⟨(some 72), .ld (some 3) (.t 3), (some (70, false))⟩,
  ⟨(some 73), .ld (some 2) (.t 4), (some (70, false))⟩,
  ⟨(some 74), .call 22 [(.t 72), (.t 73)], (some (70, false))⟩,
  ⟨(some 75), .bin .gtr (.t 71) (.t 74), (some (70, false))⟩,
  ⟨(some 76), .pick (.t 70) (.k (.B true)) (.t 75), none⟩,
  ⟨(some 77), .mv (.t 76), none⟩,
  ⟨(some 78), .mv (.t 7), (some (77, false))⟩,
  ⟨(some 79), .ld (some 3) (.t 3), (some (77, false))⟩,
  ⟨(some 80), .ld (some 2) (.t 5), (some (77, false))⟩,
  ⟨(some 81), .call 22 [(.t 79), (.t 80)], (some (77, false))⟩,
  ⟨(some 82), .bin .gtr (.t 78) (.t 81), (some (77, false))⟩,
  ⟨(some 83), .pick (.t 77) (.k (.B true)) (.t 82), none⟩,
  ⟨(some 84), .mv (.t 83), none⟩,
  ⟨(some 85), .ld (some 3) (.t 3), (some (84, false))⟩,
  ⟨(some 86), .call 23 [(.t 85)], (some (84, false))⟩,
  ⟨(some 87), .not (.t 86), (some (84, false))⟩,
  ⟨(some 88), .pick (.t 84) (.k (.B true)) (.t 87), none⟩,
  ⟨(some 89), .mv (.t 88), none⟩,
  ⟨(some 90), .ld (some 3) (.t 3), (some (89, false))⟩,
  ⟨(some 91), .mv (.t 11), (some (89, false))⟩,
  ⟨(some 92), .ld (some 2) (.t 4), (some (89, false))⟩,
  ⟨(some 93), .ld (some 2) (.t 5), (some (89, false))⟩,
  ⟨(some 94), .call 24 [(.t 90), (.t 91), (.t 92), (.t 93)], (some (89, false))⟩,
  ⟨(some 95), .pick (.t 89) (.k (.B true)) (.t 94), none⟩] false
abbrev c6_21 : AC := .reg [⟨(some 6), .mv (.k (.B false)), none⟩] false
abbrev c6_22 : AC := .seq c6_21 .ret
abbrev c6_23 : AC := .cond (.t 95) c6_22 .skip
abbrev c6_24 : AC := .seq c6_20 c6_23
abbrev c6_25 : AC := .reg [⟨(some 13), .mv (.k (.I 0)), none⟩] false
abbrev c6_26 : AC := .reg [⟨(some 96), .mv (.t 13), none⟩,
  ⟨(some 97), .mv (.t 11), none⟩,
  ⟨(some 98), .len (.t 97), none⟩,
  ⟨(some 99), .bin .lss (.t 96) (.t 98), none⟩] false
abbrev c6_27 : AC := .cond (.t 99) .skip (.exit 0)
abbrev c6_28 : AC := .seq c6_26 c6_27
abbrev c6_29 : AC := .regX (.first ⟨(some 103), .mv (.t 11), none⟩
  (.first ⟨(some 104), .mv (.t 13), none⟩
  (.first ⟨(some 107), .mv (.t 11), none⟩
  (.first ⟨(some 108), .mv (.t 13), none⟩
  (.first ⟨(some 109), .bin .add (.t 108) (.k (.I 1)), none⟩
  (.fork ⟨(some 102), .bslice 3 1 [], none⟩
  (.fork ⟨(some 105), .slc 1 (.t 103) none (some (.t 104)), none⟩
  (.fork ⟨(some 106), .app 3 1 8 (.t 102) (.t 105), none⟩
  (.fork ⟨(some 110), .slc 1 (.t 107) (some (.t 109)) none, none⟩
  (.fork ⟨(some 111), .app 3 1 8 (.t 106) (.t 110), none⟩
  (.first ⟨(some 14), .mv (.t 111), none⟩
  .done)
  .nope)
  .nope)
  (.fork ⟨(some 110), .slc 1 (.t 107) (some (.t 109)) none, none⟩
  (.fork ⟨(some 106), .app 3 1 8 (.t 102) (.t 105), none⟩
  (.fork ⟨(some 111), .app 3 1 8 (.t 106) (.t 110), none⟩
  (.first ⟨(some 14), .mv (.t 111), none⟩
  .done)
  .nope)
  .nope)
  .nope))
  (.fork ⟨(some 110), .slc 1 (.t 107) (some (.t 109)) none, none⟩
  (.fork ⟨(some 105), .slc 1 (.t 103) none (some (.t 104)), none⟩
  (.fork ⟨(some 106), .app 3 1 8 (.t 102) (.t 105), none⟩
  (.fork ⟨(some 111), .app 3 1 8 (.t 106) (.t 110), none⟩
  (.first ⟨(some 14), .mv (.t 111), none⟩
  .done)
  .nope)
  .nope)
  .nope)
  .nope))
  (.fork ⟨(some 105), .slc 1 (.t 103) none (some (.t 104)), none⟩
  (.fork ⟨(some 102), .bslice 3 1 [], none⟩
  (.fork ⟨(some 106), .app 3 1 8 (.t 102) (.t 105), none⟩
  (.fork ⟨(some 110), .slc 1 (.t 107) (some (.t 109)) none, none⟩
  (.fork ⟨(some 111), .app 3 1 8 (.t 106) (.t 110), none⟩
  (.first ⟨(some 14), .mv (.t 111), none⟩
  .done)
  .nope)
  .nope)
  (.fork ⟨(some 110), .slc 1 (.t 107) (some (.t 109)) none, none⟩
  (.fork ⟨(some 106), .app 3 1 8 (.t 102) (.t 105), none⟩
  (.fork ⟨(some 111), .app 3 1 8 (.t 106) (.t 110), none⟩
  (.first ⟨(some 14), .mv (.t 111), none⟩
  .done)
  .nope)
  .nope)
  .nope))
  (.fork ⟨(some 110), .slc 1 (.t 107) (some (.t 109)) none, none⟩
  (.fork ⟨(some 102), .bslice 3 1 [], none⟩
  (.fork ⟨(some 106), .app 3 1 8 (.t 102) (.t 105), none⟩
  (.fork ⟨(some 111), .app 3 1 8 (.t 106) (.t 110), none⟩
  (.first ⟨(some 14), .mv (.t 111), none⟩
  .done)
  .nope)
  .nope)
  .nope)
  .nope))
  (.fork ⟨(some 110), .slc 1 (.t 107) (some (.t 109)) none, none⟩
  (.fork ⟨(some 102), .bslice 3 1 [], none⟩
  (.fork ⟨(some 105), .slc 1 (.t 103) none (some (.t 104)), none⟩
  (.fork ⟨(some 106), .app 3 1 8 (.t 102) (.t 105), none⟩
  (.fork ⟨(some 111), .app 3 1 8 (.t 106) (.t 110), none⟩
  (.first ⟨(some 14), .mv (.t 111), none⟩
  .done)
  .nope)
  .nope)
  .nope)
  (.fork ⟨(some 105), .slc 1 (.t 103) none (some (.t 104)), none⟩
  (.fork ⟨(some 102), .bslice 3 1 [], none⟩
  (.fork ⟨(some 106), .app 3 1 8 (.t 102) (.t 105), none⟩
  (.fork ⟨(some 111), .app 3 1 8 (.t 106) (.t 110), none⟩
  (.first ⟨(some 14), .mv (.t 111), none⟩
  .done)
  .nope)
  .nope)
  .nope)
  .nope))
  .nope))))))))
abbrev c6_30 : AC := .reg [⟨(some 112), .ld (some 3) (.t 3), none⟩,
  ⟨(some 113), .mv (.t 14), none⟩,
  ⟨(some 114), .ld (some 2) (.t 4), none⟩,
  ⟨(some 115), .ld (some 2) (.t 5), none⟩,
  ⟨(some 116), .call 24 [(.t 112), (.t 113), (.t 114), (.t 115)], none⟩,
  ⟨(some 117), .not (.t 116), none⟩] false
abbrev c6_31 : AC := .reg [⟨(some 6), .mv (.k (.B false)), none⟩] false
abbrev c6_32 : AC := .seq c6_31 .ret
abbrev c6_33 : AC := .cond (.t 117) c6_32 .skip
abbrev c6_34 : AC := .seq c6_30 c6_33
abbrev c6_35 : AC := .seq c6_29 c6_34
abbrev c6_36 : AC := .block 1 c6_35
abbrev c6_37 : AC := .reg [⟨(some 100), .mv (.t 13), none⟩,
  ⟨(some 101), .bin .add (.t 100) (.k (.I 1)), none⟩,
  ⟨(some 13), .mv (.t 101), none⟩] false
abbrev c6_38 : AC := .seq c6_36 c6_37
abbrev c6_39 : AC := .seq c6_28 c6_38
abbrev c6_40 : AC := .loop c6_39
abbrev c6_41 : AC := .block 0 c6_40
abbrev c6_42 : AC := .seq c6_25 c6_41
abbrev c6_43 : AC := .reg [⟨(some 6), .mv (.k (.B true)), none⟩] false
abbrev c6_44 : AC := .seq c6_43 .ret
abbrev c6_45 : AC := .seq c6_42 c6_44
abbrev c6_46 : AC := .seq c6_24 c6_45
abbrev c6_47 : AC := .seq c6_19 c6_46
abbrev c6_48 : AC := .seq c6_14 c6_47
abbrev c6_49 : AC := .seq c6_9 c6_48
abbrev c6_50 : AC := .seq c6_8 c6_49
abbrev c6_51 : AC := .seq c6_7 c6_50
abbrev c6_52 : AC := .seq c6_6 c6_51
abbrev c6_53 : AC := .seq c6_1 c6_52
abbrev c6 : AC := c6_53
theorem code6 : fnCode Try.prog 6 = some (c6, [6], 118) := by kernel_rfl

theorem degI_sum (ls : List Lk) (d : Die) : ∀ m, m ≤ ls.length → sumI (fun k => if endD (nth ls k) d.side = d.num then 1 else 0) m = degI (ls.take m) d
  | 0, _ => by simp [sumI, degI]
  | m + 1, h => by
    have ih := degI_sum ls d m (by omega)
    have := degI_take ls d m (by omega)
    simp only [sumI, ih, this]
    split <;> simp
theorem flow_deg {g : Gr} {a b : Die} (h : flowE g a b = 0) : flowV g a b ≤ degI g.links a := by
  obtain ⟨hv, ha, hb, hab⟩ := flowE_zero.1 h
  have hen := valid_ends hv
  have h1 := (flow_mc (noG g) hv ha hb hab).2 (fun v => decide (v = plN (diesG g) a)) (by simp) (by simp; exact fun e => hab ((plc_ne ha hb).1 e.symm))
  unfold flowV
  rw [if_pos h]
  have h2 := degI_sum g.links a g.links.length (Nat.le_refl _)
  rw [List.take_length] at h2
  have h3 : cutN (esG g) (noG g) (fun v => decide (v = plN (diesG g) a)) ≤ sumI (fun k => if endD (nth g.links k) a.side = a.num then 1 else 0) g.links.length := by
    unfold cutN
    rw [esG_len]
    refine sumI_le _ fun k hk => ?_
    have hm := hen _ (nth_mem'' g.links k hk)
    rw [esG_nth hv hk]
    split
    · rename_i hc
      have hc2 := hc.2
      simp only [ne_eq, decide_eq_decide] at hc2
      rw [plc_ne hm.1 ha, plc_ne hm.2 ha] at hc2
      have : (nth g.links k).o = a ∨ (nth g.links k).r = a := by
        by_cases e1 : (nth g.links k).o = a
        · exact .inl e1
        · by_cases e2 : (nth g.links k).r = a
          · exact .inr e2
          · exact absurd ⟨fun h => absurd h e1, fun h => absurd h e2⟩ hc2
      have he : endD (nth g.links k) a.side = a.num := by
        rcases this with e | e
        · rw [← e]; simp [endD, Lk.o]
        · rw [← e]; simp [endD, Lk.r]
      rw [if_pos he]; exact Int.le_refl _
    · split <;> omega
  omega
theorem cutV_len {g : Gr} {a b : Die} (h : flowE g a b = 0) : ((cutV g a b).length : Int) = flowV g a b := by
  obtain ⟨hv, ha, hb, hab⟩ := flowE_zero.1 h
  unfold cutV flowV
  rw [if_pos h, if_pos h]
  exact cut_full hv ha hb hab
theorem cutV_sep {g : Gr} {a b : Die} (h : flowE g a b = 0) : decide (Jn (notIn (cutV g a b) g.links) a b) = false := by
  obtain ⟨hv, ha, hb, hab⟩ := flowE_zero.1 h
  rw [decide_eq_false_iff_not, jn_flow hv ha hb hab]
  have h1 := cut_full hv ha hb hab
  have h2 := cutI_flow hv ha hb hab g.links.length (Nat.le_refl _)
  unfold cutV
  rw [if_pos h]
  omega
theorem cutV_less {g : Gr} {a b : Die} (h : flowE g a b = 0) (z : List Int) (hz : z.length + 1 = (cutV g a b).length) : decide (Jn (notIn z g.links) a b) = true := by
  obtain ⟨hv, ha, hb, hab⟩ := flowE_zero.1 h
  rw [decide_eq_true_eq, jn_flow hv ha hb hab]
  have h1 := cutV_len h
  have h2 := flow_app hv ha hb hab z
  unfold flowV at h1
  rw [if_pos h] at h1
  omega
theorem dies_side {g : Gr} {a : Die} (h : a ∈ diesG g) : a.side = 0 ∨ a.side = 1 := by
  unfold diesG at h
  rw [List.mem_append, List.mem_map, List.mem_map] at h
  rcases h with ⟨n, _, rfl⟩ | ⟨n, _, rfl⟩
  · exact .inl rfl
  · exact .inr rfl
def in6 (g : Gr) (a b : Die) (cut : List Int) (i : Int) : St := ⟨118, [(3, .ptr 3 0), (4, .ptr 4 0), (5, .ptr 5 0), (11, .c (Row cut)), (13, .I i)], [(3, .box 25 [.c (Row g.obv), .c (Row g.rev), .c (LL g.links)]), (4, .box 27 [.I a.side, .I a.num]), (5, .box 27 [.I b.side, .I b.num])]⟩
def ou6 (g : Gr) (a b : Die) (cut : List Int) (i : Int) (less : List Int) : St := ⟨118, [(3, .ptr 3 0), (4, .ptr 4 0), (5, .ptr 5 0), (11, .c (Row cut)), (13, .I i), (14, .own 102)], [(3, .box 25 [.c (Row g.obv), .c (Row g.rev), .c (LL g.links)]), (4, .box 27 [.I a.side, .I a.num]), (5, .box 27 [.I b.side, .I b.num]), (102, .arr 3 1 (iRow less))]⟩
theorem take_mapL {α β : Type} (f : α → β) (l : List α) : (l.map f).take l.length = l.map f := by rw [← List.map_take, List.take_length]
set_option maxHeartbeats 8000000 in
theorem r6 (g : Gr) (a b : Die) (cut : List Int) (i : Nat) (hi : i < cut.length) (hl : cut.length ≤ 1000) : AW Try.prog c6_29 (cutQ (ou6 g a b cut i (cut.take i ++ cut.drop (i + 1)))) (in6 g a b cut i) := by
  refine AW_regX (by kernel_rfl) ?_
  unfold in6
  have e : ((i : Int) + 1).toNat = i + 1 := by omega
  (repeat' (first | refine NextAt.mk (fun hc => ?_) (fun pre n v post hc hkey => ?_) | refine Sni.mk (fun hc => ?_) ?_ | refine Both.mk ?_ ?_ | refine AW_seq ?_ | refine AW_block ?_ | ((first | refine AW_reg ?_ | refine AW_cond ?_ | refine AW_skip ?_ | refine AW_exit ?_ | refine AW_ret ?_ | refine AW_regD (by kernel_rfl) ?_ | refine AW_regX (by kernel_rfl) ?_ | refine CallAtG.t (Eq.refl true) ?_ | refine CallAtG.f (Eq.refl false) ?_); try simp (disch := omega) only [go_sem, seval, reduceCtorEq, ↓reduceIte, beq_dec, Int.toNat_natCast, IntKind.signed, IntKind.bits, ou6, e, inK, List.length_map, List.length_append, List.length_take, List.length_drop, maxLen, List.nil_append, List.map_append, List.map_take, List.map_drop, take_mapL]) | refine And.intro (fun hc => (?_ : AW _ _ _ _)) (fun hc => (?_ : AW _ _ _ _)) | simp (disch := omega) only [go_sem, seval, reduceCtorEq, ↓reduceIte, beq_dec, Int.toNat_natCast, IntKind.signed, IntKind.bits, ou6, e, inK, List.length_map, List.length_append, List.length_take, List.length_drop, maxLen, List.nil_append, List.map_append, List.map_take, List.map_drop, take_mapL] | (refine And.intro ?_ ?_; focus (first | (intros; omega) | (intros; simp_all; done))) | refine And.intro (?_ : CallAt _ _ _ _ _ _ _ _) ?_ | refine And.intro (?_ : CallAt _ _ _ _ _ _ _ _ ∧ _) ?_ | refine And.intro (?_ : AW _ _ _ _) ?_ | refine And.intro (?_ : _ ∧ _) ?_ | fail))
  all_goals first
    | omega
    | (refine ⟨?_, ?_⟩ <;> omega)
    | trace_state
theorem hold6 {Q : Exit → St → Prop} {σ : St} (h : Hold (AW Try.prog c6_29 Q σ)) : AW Try.prog c6_29 Q σ := h.out
set_option maxHeartbeats 8000000 in
theorem n6 (g : Gr) (a b : Die) : FnR Try.prog 6 [g.av, a.av, b.av] [.c (.B true)] := by
  have h1 := n11 g a b
  have h2 := n11 g b a
  rw [← flowE_symm, ← flowV_symm] at h2
  by_cases h : flowE g a b = 0
  · have h3 := n13 g a b h
    obtain ⟨hv, ha, hb, hab⟩ := flowE_zero.1 h
    have hsm := valid_small hv
    have h4 := n22 g a hv (dies_side ha)
    have h5 := n22 g b hv (dies_side hb)
    have h6 := f26 g
    rw [hv] at h6
    have d1 := flow_deg h
    have d2 : flowV g a b ≤ degI g.links b := by rw [flowV_symm]; exact flow_deg (by rw [flowE_symm]; exact h)
    have cl := cutV_len h
    have h7 := n24 g (cutV g a b) a b hsm.2.2
    rw [cutV_sep h] at h7
    have h8 := fun z hz => (cutV_less h z hz)
    have h9 := fun z => n24 g z a b hsm.2.2
    have hbn := flowV_nonneg g a b
    rw [h] at h1 h2
    generalize flowV g a b = v at *
    generalize cutV g a b = cut at *
    refine fn_walk code6 (by simp) ?_
    have e1 : (((cut.length : Int) = v)) = True := eq_true cl
    have e2 : (((degI g.links a : Nat) : Int) < v) = False := eq_false (by omega)
    have e3 : (((degI g.links b : Nat) : Int) < v) = False := eq_false (by omega)
    (repeat' (first | refine NextAt.mk (fun hc => ?_) (fun pre n v post hc hkey => ?_) | refine Sni.mk (fun hc => ?_) ?_ | refine Both.mk ?_ ?_ | refine AW_seq ?_ | refine AW_block ?_ | ((first | refine AW_reg ?_ | refine AW_cond ?_ | refine AW_skip ?_ | refine AW_exit ?_ | refine AW_ret ?_ | refine AW_regD (by kernel_rfl) ?_ | refine AW_regX (by kernel_rfl) ?_ | refine CallAtG.t (Eq.refl true) ?_ | refine CallAtG.f (Eq.refl false) ?_ | refine CallAt.mk _ (n9 ..) (by first | (intro h; cases h; done) | (intro _; repeat' (first | exact List.forall_mem_nil _ | trivial | refine List.forall_mem_cons.2 ⟨?_, ?_⟩)) | (intro _; simp [RV.flatP, CD.flatP, List.length_map, e1, e2, e3]; done)) ?_ | refine CallAtG.mk _ (fun _ => n9 ..) ?_ | refine CallDS.mk _ (by simp [RV.data]) (fun _ => n9 ..) (by first | (intro h; cases h; done) | (intro _; repeat' (first | exact List.forall_mem_nil _ | trivial | refine List.forall_mem_cons.2 ⟨?_, ?_⟩)) | (intro _; simp [RV.flatP, CD.flatP, List.length_map, e1, e2, e3]; done)) ?_ | refine CallAt.mk _ (n10 ..) (by first | (intro h; cases h; done) | (intro _; repeat' (first | exact List.forall_mem_nil _ | trivial | refine List.forall_mem_cons.2 ⟨?_, ?_⟩)) | (intro _; simp [RV.flatP, CD.flatP, List.length_map, e1, e2, e3]; done)) ?_ | refine CallAtG.mk _ (fun _ => n10 ..) ?_ | refine CallDS.mk _ (by simp [RV.data]) (fun _ => n10 ..) (by first | (intro h; cases h; done) | (intro _; repeat' (first | exact List.forall_mem_nil _ | trivial | refine List.forall_mem_cons.2 ⟨?_, ?_⟩)) | (intro _; simp [RV.flatP, CD.flatP, List.length_map, e1, e2, e3]; done)) ?_ | refine CallAt.mk _ (h1 ..) (by first | (intro h; cases h; done) | (intro _; repeat' (first | exact List.forall_mem_nil _ | trivial | refine List.forall_mem_cons.2 ⟨?_, ?_⟩)) | (intro _; simp [RV.flatP, CD.flatP, List.length_map, e1, e2, e3]; done)) ?_ | refine CallAtG.mk _ (fun _ => h1 ..) ?_ | refine CallDS.mk _ (by simp [RV.data]) (fun _ => h1 ..) (by first | (intro h; cases h; done) | (intro _; repeat' (first | exact List.forall_mem_nil _ | trivial | refine List.forall_mem_cons.2 ⟨?_, ?_⟩)) | (intro _; simp [RV.flatP, CD.flatP, List.length_map, e1, e2, e3]; done)) ?_ | refine CallAt.mk _ (h2 ..) (by first | (intro h; cases h; done) | (intro _; repeat' (first | exact List.forall_mem_nil _ | trivial | refine List.forall_mem_cons.2 ⟨?_, ?_⟩)) | (intro _; simp [RV.flatP, CD.flatP, List.length_map, e1, e2, e3]; done)) ?_ | refine CallAtG.mk _ (fun _ => h2 ..) ?_ | refine CallDS.mk _ (by simp [RV.data]) (fun _ => h2 ..) (by first | (intro h; cases h; done) | (intro _; repeat' (first | exact List.forall_mem_nil _ | trivial | refine List.forall_mem_cons.2 ⟨?_, ?_⟩)) | (intro _; simp [RV.flatP, CD.flatP, List.length_map, e1, e2, e3]; done)) ?_ | refine CallAt.mk _ (h3 ..) (by first | (intro h; cases h; done) | (intro _; repeat' (first | exact List.forall_mem_nil _ | trivial | refine List.forall_mem_cons.2 ⟨?_, ?_⟩)) | (intro _; simp [RV.flatP, CD.flatP, List.length_map, e1, e2, e3]; done)) ?_ | refine CallAtG.mk _ (fun _ => h3 ..) ?_ | refine CallDS.mk _ (by simp [RV.data]) (fun _ => h3 ..) (by first | (intro h; cases h; done) | (intro _; repeat' (first | exact List.forall_mem_nil _ | trivial | refine List.forall_mem_cons.2 ⟨?_, ?_⟩)) | (intro _; simp [RV.flatP, CD.flatP, List.length_map, e1, e2, e3]; done)) ?_ | refine CallAt.mk _ (h4 ..) (by first | (intro h; cases h; done) | (intro _; repeat' (first | exact List.forall_mem_nil _ | trivial | refine List.forall_mem_cons.2 ⟨?_, ?_⟩)) | (intro _; simp [RV.flatP, CD.flatP, List.length_map, e1, e2, e3]; done)) ?_ | refine CallAtG.mk _ (fun _ => h4 ..) ?_ | refine CallDS.mk _ (by simp [RV.data]) (fun _ => h4 ..) (by first | (intro h; cases h; done) | (intro _; repeat' (first | exact List.forall_mem_nil _ | trivial | refine List.forall_mem_cons.2 ⟨?_, ?_⟩)) | (intro _; simp [RV.flatP, CD.flatP, List.length_map, e1, e2, e3]; done)) ?_ | refine CallAt.mk _ (h5 ..) (by first | (intro h; cases h; done) | (intro _; repeat' (first | exact List.forall_mem_nil _ | trivial | refine List.forall_mem_cons.2 ⟨?_, ?_⟩)) | (intro _; simp [RV.flatP, CD.flatP, List.length_map, e1, e2, e3]; done)) ?_ | refine CallAtG.mk _ (fun _ => h5 ..) ?_ | refine CallDS.mk _ (by simp [RV.data]) (fun _ => h5 ..) (by first | (intro h; cases h; done) | (intro _; repeat' (first | exact List.forall_mem_nil _ | trivial | refine List.forall_mem_cons.2 ⟨?_, ?_⟩)) | (intro _; simp [RV.flatP, CD.flatP, List.length_map, e1, e2, e3]; done)) ?_ | refine CallAt.mk _ (h6 ..) (by first | (intro h; cases h; done) | (intro _; repeat' (first | exact List.forall_mem_nil _ | trivial | refine List.forall_mem_cons.2 ⟨?_, ?_⟩)) | (intro _; simp [RV.flatP, CD.flatP, List.length_map, e1, e2, e3]; done)) ?_ | refine CallAtG.mk _ (fun _ => h6 ..) ?_ | refine CallDS.mk _ (by simp [RV.data]) (fun _ => h6 ..) (by first | (intro h; cases h; done) | (intro _; repeat' (first | exact List.forall_mem_nil _ | trivial | refine List.forall_mem_cons.2 ⟨?_, ?_⟩)) | (intro _; simp [RV.flatP, CD.flatP, List.length_map, e1, e2, e3]; done)) ?_ | refine CallAt.mk _ (h7 ..) (by first | (intro h; cases h; done) | (intro _; repeat' (first | exact List.forall_mem_nil _ | trivial | refine List.forall_mem_cons.2 ⟨?_, ?_⟩)) | (intro _; simp [RV.flatP, CD.flatP, List.length_map, e1, e2, e3]; done)) ?_ | refine CallAtG.mk _ (fun _ => h7 ..) ?_ | refine CallDS.mk _ (by simp [RV.data]) (fun _ => h7 ..) (by first | (intro h; cases h; done) | (intro _; repeat' (first | exact List.forall_mem_nil _ | trivial | refine List.forall_mem_cons.2 ⟨?_, ?_⟩)) | (intro _; simp [RV.flatP, CD.flatP, List.length_map, e1, e2, e3]; done)) ?_); try simp (disch := omega) only [go_sem, seval, reduceCtorEq, ↓reduceIte, beq_dec, Int.toNat_natCast, IntKind.signed, IntKind.bits, List.length_map, e1, e2, e3]) | refine And.intro (fun hc => (?_ : AW _ _ _ _)) (fun hc => (?_ : AW _ _ _ _)) | simp (disch := omega) only [go_sem, seval, reduceCtorEq, ↓reduceIte, beq_dec, Int.toNat_natCast, IntKind.signed, IntKind.bits, List.length_map, e1, e2, e3] | (refine And.intro ?_ ?_; focus (first | (intros; omega) | (intros; simp_all; done))) | refine And.intro (?_ : CallAt _ _ _ _ _ _ _ _) ?_ | refine And.intro (?_ : CallAt _ _ _ _ _ _ _ _ ∧ _) ?_ | refine And.intro (?_ : AW _ _ _ _) ?_ | fail))
    refine AW_frz [41] ?_
    simp (disch := omega) only [go_sem, seval, reduceCtorEq, ↓reduceIte, beq_dec, Int.toNat_natCast, IntKind.signed, IntKind.bits]
    refine AW_loopK [3, 4, 5, 11] [6, 13, 14, 96, 97, 98, 99, 100, 101, 102, 103, 104, 105, 106, 107, 108, 109, 110, 111, 112, 113, 114, 115, 116, 117] (fun i : Nat => i ≤ cut.length) (fun i => [(13, .I i)]) (fun _ => []) (fun i => cut.length - i) 0 (by omega) ?_ ?_
    · simp (disch := omega) only [go_sem, seval, reduceCtorEq, ↓reduceIte, beq_dec, Int.toNat_natCast, IntKind.signed, IntKind.bits, Int.natCast_zero]
    · intro i hi
      rcases Nat.lt_or_ge i cut.length with hil | hil
      · have g24 := h9 (cut.take i ++ cut.drop (i + 1))
        rw [h8 _ (by simp; omega)] at g24
        (repeat' (first | (with_reducible refine hold6 ?_; try simp (disch := omega) only [go_sem, seval, reduceCtorEq, ↓reduceIte, beq_dec, Int.toNat_natCast, IntKind.signed, IntKind.bits, List.length_map]) | refine NextAt.mk (fun hc => ?_) (fun pre n v post hc hkey => ?_) | refine Sni.mk (fun hc => ?_) ?_ | refine Both.mk ?_ ?_ | refine AW_seq ?_ | refine AW_block ?_ | ((first | refine AW_reg ?_ | refine AW_cond ?_ | refine AW_skip ?_ | refine AW_exit ?_ | refine AW_ret ?_ | refine AW_regD (by kernel_rfl) ?_ | refine AW_regX (by kernel_rfl) ?_ | refine CallAtG.t (Eq.refl true) ?_ | refine CallAtG.f (Eq.refl false) ?_); try simp (disch := omega) only [go_sem, seval, reduceCtorEq, ↓reduceIte, beq_dec, Int.toNat_natCast, IntKind.signed, IntKind.bits, List.length_map]) | refine And.intro (fun hc => (?_ : AW _ _ _ _)) (fun hc => (?_ : AW _ _ _ _)) | simp (disch := omega) only [go_sem, seval, reduceCtorEq, ↓reduceIte, beq_dec, Int.toNat_natCast, IntKind.signed, IntKind.bits, List.length_map] | (refine And.intro ?_ ?_; focus (first | (intros; omega) | (intros; simp_all; done))) | refine And.intro (?_ : CallAt _ _ _ _ _ _ _ _) ?_ | refine And.intro (?_ : CallAt _ _ _ _ _ _ _ _ ∧ _) ?_ | refine And.intro (?_ : AW _ _ _ _) ?_ | fail))
        · refine ⟨AW_cut (ou6 g a b cut i (cut.take i ++ cut.drop (i + 1))) (in6 g a b cut i) (r6 g a b cut i hil (by omega)) ?_ ?_⟩
          · unfold in6
            simp (disch := omega) only [go_sem, seval, reduceCtorEq, ↓reduceIte, beq_dec, Int.toNat_natCast, IntKind.signed, IntKind.bits]
          · unfold ou6
            (repeat' (first | refine NextAt.mk (fun hc => ?_) (fun pre n v post hc hkey => ?_) | refine Sni.mk (fun hc => ?_) ?_ | refine Both.mk ?_ ?_ | refine AW_seq ?_ | refine AW_block ?_ | ((first | refine AW_reg ?_ | refine AW_cond ?_ | refine AW_skip ?_ | refine AW_exit ?_ | refine AW_ret ?_ | refine AW_regD (by kernel_rfl) ?_ | refine AW_regX (by kernel_rfl) ?_ | refine CallAtG.t (Eq.refl true) ?_ | refine CallAtG.f (Eq.refl false) ?_ | refine CallAt.mk _ (g24 ..) (by first | (intro h; cases h; done) | (intro _; repeat' (first | exact List.forall_mem_nil _ | trivial | refine List.forall_mem_cons.2 ⟨?_, ?_⟩)) | (intro _; simp [RV.flatP, CD.flatP, List.length_map]; done)) ?_ | refine CallAtG.mk _ (fun _ => g24 ..) ?_ | refine CallDS.mk _ (by simp [RV.data]) (fun _ => g24 ..) (by first | (intro h; cases h; done) | (intro _; repeat' (first | exact List.forall_mem_nil _ | trivial | refine List.forall_mem_cons.2 ⟨?_, ?_⟩)) | (intro _; simp [RV.flatP, CD.flatP, List.length_map]; done)) ?_); try simp (disch := omega) only [go_sem, seval, reduceCtorEq, ↓reduceIte, beq_dec, Int.toNat_natCast, IntKind.signed, IntKind.bits, List.length_map]) | refine And.intro (fun hc => (?_ : AW _ _ _ _)) (fun hc => (?_ : AW _ _ _ _)) | simp (disch := omega) only [go_sem, seval, reduceCtorEq, ↓reduceIte, beq_dec, Int.toNat_natCast, IntKind.signed, IntKind.bits, List.length_map] | (refine And.intro ?_ ?_; focus (first | (intros; omega) | (intros; simp_all; done))) | refine And.intro (?_ : CallAt _ _ _ _ _ _ _ _) ?_ | refine And.intro (?_ : CallAt _ _ _ _ _ _ _ _ ∧ _) ?_ | refine And.intro (?_ : AW _ _ _ _) ?_ | fail))
            refine .mk (i + 1) (by omega) (by omega) ?_
            simp (disch := omega) only [go_sem, seval, reduceCtorEq, ↓reduceIte, beq_dec, Int.toNat_natCast, IntKind.signed, IntKind.bits, Int.natCast_add, Int.natCast_one]
        · exfalso; omega
      · obtain rfl : i = cut.length := by omega
        (repeat' (first | refine NextAt.mk (fun hc => ?_) (fun pre n v post hc hkey => ?_) | refine Sni.mk (fun hc => ?_) ?_ | refine Both.mk ?_ ?_ | refine AW_seq ?_ | refine AW_block ?_ | ((first | refine AW_reg ?_ | refine AW_cond ?_ | refine AW_skip ?_ | refine AW_exit ?_ | refine AW_ret ?_ | refine AW_regD (by kernel_rfl) ?_ | refine AW_regX (by kernel_rfl) ?_ | refine CallAtG.t (Eq.refl true) ?_ | refine CallAtG.f (Eq.refl false) ?_); try simp (disch := omega) only [go_sem, seval, reduceCtorEq, ↓reduceIte, beq_dec, Int.toNat_natCast, IntKind.signed, IntKind.bits, List.length_map]) | refine And.intro (fun hc => (?_ : AW _ _ _ _)) (fun hc => (?_ : AW _ _ _ _)) | simp (disch := omega) only [go_sem, seval, reduceCtorEq, ↓reduceIte, beq_dec, Int.toNat_natCast, IntKind.signed, IntKind.bits, List.length_map] | (refine And.intro ?_ ?_; focus (first | (intros; omega) | (intros; simp_all; done))) | refine And.intro (?_ : CallAt _ _ _ _ _ _ _ _) ?_ | refine And.intro (?_ : CallAt _ _ _ _ _ _ _ _ ∧ _) ?_ | refine And.intro (?_ : AW _ _ _ _) ?_ | fail))
        exfalso; omega
  · have h3 := n13e g a b h
    have z := flowV_err h
    generalize flowE g a b = e at *
    rw [z] at h1 h2
    refine fn_walk code6 (by simp) ?_
    have e1 : (e = 0) = False := eq_false h
    (repeat' (first | refine NextAt.mk (fun hc => ?_) (fun pre n v post hc hkey => ?_) | refine Sni.mk (fun hc => ?_) ?_ | refine Both.mk ?_ ?_ | refine AW_seq ?_ | refine AW_block ?_ | ((first | refine AW_reg ?_ | refine AW_cond ?_ | refine AW_skip ?_ | refine AW_exit ?_ | refine AW_ret ?_ | refine AW_regD (by kernel_rfl) ?_ | refine AW_regX (by kernel_rfl) ?_ | refine CallAtG.t (Eq.refl true) ?_ | refine CallAtG.f (Eq.refl false) ?_ | refine CallAt.mk _ (n9 ..) (by first | (intro h; cases h; done) | (intro _; repeat' (first | exact List.forall_mem_nil _ | trivial | refine List.forall_mem_cons.2 ⟨?_, ?_⟩)) | (intro _; simp [RV.flatP, CD.flatP, e1]; done)) ?_ | refine CallAtG.mk _ (fun _ => n9 ..) ?_ | refine CallDS.mk _ (by simp [RV.data]) (fun _ => n9 ..) (by first | (intro h; cases h; done) | (intro _; repeat' (first | exact List.forall_mem_nil _ | trivial | refine List.forall_mem_cons.2 ⟨?_, ?_⟩)) | (intro _; simp [RV.flatP, CD.flatP, e1]; done)) ?_ | refine CallAt.mk _ (n10 ..) (by first | (intro h; cases h; done) | (intro _; repeat' (first | exact List.forall_mem_nil _ | trivial | refine List.forall_mem_cons.2 ⟨?_, ?_⟩)) | (intro _; simp [RV.flatP, CD.flatP, e1]; done)) ?_ | refine CallAtG.mk _ (fun _ => n10 ..) ?_ | refine CallDS.mk _ (by simp [RV.data]) (fun _ => n10 ..) (by first | (intro h; cases h; done) | (intro _; repeat' (first | exact List.forall_mem_nil _ | trivial | refine List.forall_mem_cons.2 ⟨?_, ?_⟩)) | (intro _; simp [RV.flatP, CD.flatP, e1]; done)) ?_ | refine CallAt.mk _ (h1 ..) (by first | (intro h; cases h; done) | (intro _; repeat' (first | exact List.forall_mem_nil _ | trivial | refine List.forall_mem_cons.2 ⟨?_, ?_⟩)) | (intro _; simp [RV.flatP, CD.flatP, e1]; done)) ?_ | refine CallAtG.mk _ (fun _ => h1 ..) ?_ | refine CallDS.mk _ (by simp [RV.data]) (fun _ => h1 ..) (by first | (intro h; cases h; done) | (intro _; repeat' (first | exact List.forall_mem_nil _ | trivial | refine List.forall_mem_cons.2 ⟨?_, ?_⟩)) | (intro _; simp [RV.flatP, CD.flatP, e1]; done)) ?_ | refine CallAt.mk _ (h2 ..) (by first | (intro h; cases h; done) | (intro _; repeat' (first | exact List.forall_mem_nil _ | trivial | refine List.forall_mem_cons.2 ⟨?_, ?_⟩)) | (intro _; simp [RV.flatP, CD.flatP, e1]; done)) ?_ | refine CallAtG.mk _ (fun _ => h2 ..) ?_ | refine CallDS.mk _ (by simp [RV.data]) (fun _ => h2 ..) (by first | (intro h; cases h; done) | (intro _; repeat' (first | exact List.forall_mem_nil _ | trivial | refine List.forall_mem_cons.2 ⟨?_, ?_⟩)) | (intro _; simp [RV.flatP, CD.flatP, e1]; done)) ?_ | refine CallAt.mk _ (h3 ..) (by first | (intro h; cases h; done) | (intro _; repeat' (first | exact List.forall_mem_nil _ | trivial | refine List.forall_mem_cons.2 ⟨?_, ?_⟩)) | (intro _; simp [RV.flatP, CD.flatP, e1]; done)) ?_ | refine CallAtG.mk _ (fun _ => h3 ..) ?_ | refine CallDS.mk _ (by simp [RV.data]) (fun _ => h3 ..) (by first | (intro h; cases h; done) | (intro _; repeat' (first | exact List.forall_mem_nil _ | trivial | refine List.forall_mem_cons.2 ⟨?_, ?_⟩)) | (intro _; simp [RV.flatP, CD.flatP, e1]; done)) ?_); try simp (disch := omega) only [go_sem, seval, reduceCtorEq, ↓reduceIte, beq_dec, Int.toNat_natCast, IntKind.signed, IntKind.bits, e1]) | refine And.intro (fun hc => (?_ : AW _ _ _ _)) (fun hc => (?_ : AW _ _ _ _)) | simp (disch := omega) only [go_sem, seval, reduceCtorEq, ↓reduceIte, beq_dec, Int.toNat_natCast, IntKind.signed, IntKind.bits, e1] | (refine And.intro ?_ ?_; focus (first | (intros; omega) | (intros; simp_all; done))) | refine And.intro (?_ : CallAt _ _ _ _ _ _ _ _) ?_ | refine And.intro (?_ : CallAt _ _ _ _ _ _ _ _ ∧ _) ?_ | refine And.intro (?_ : AW _ _ _ _) ?_ | fail))
    all_goals trace_state
theorem BridgeMenger_fn : ∀ xs, TyArgs [(true, grSh), (true, [.int .i64, .int .i64]), (true, [.int .i64, .int .i64])] xs → FnR Try.prog 6 xs [.c (.B true)] := by
  intro xs h
  obtain ⟨d1, _, rfl, h1, h⟩ := h.cons_inv
  obtain ⟨d2, _, rfl, h2, h⟩ := h.cons_inv
  obtain ⟨d3, _, rfl, h3, h⟩ := h.cons_inv
  obtain rfl := h.nil_inv
  obtain ⟨g, rfl⟩ := gr_of h1
  obtain ⟨a, rfl⟩ := die_of h2
  obtain ⟨b, rfl⟩ := die_of h3
  exact n6 g a b
theorem BridgeMenger_holds : Rows.BridgeMengerSaid :=
  OpenClaim.holds_of_wide 6 Try.f6 rfl rfl rfl rfl rfl rfl rfl ⟨rfl, rfl, rfl, rfl, rfl⟩ rfl rfl rfl rfl rfl (by kernel_rfl) Try.func6 (by kernel_rfl)
    (of_decide_eq_true (by kernel_rfl)) (by unfold Func.isWrapper; first | (rw [if_pos (by decide +kernel)]; kernel_rfl) | (rw [if_neg (by decide +kernel)]; exact ⟨rfl, rfl⟩))
    (fun os started H enc _ => law_lifted (s := Rows.bridgeMengerSpec) (C := Try.checked) (n := 12) Try.own Try.laidOut (by kernel_rfl) Try.func6 (by decide +kernel) rfl (by kernel_rfl) rfl (by kernel_rfl) (fun H ds h => by
      match ds, h with
      | [d1, d2, d3], _ => rfl) BridgeMenger_fn os started H enc
      (ChangeSpec.witness6 (enc := enc) (C := Try.checked) false ⟨#[], #[.agg #[.slice none 0 0, .slice none 0 0, .slice none 0 0], .agg #[.int .i64 0, .int .i64 0], .agg #[.int .i64 0, .int .i64 0]], []⟩ 12 (by kernel_rfl) (by kernel_rfl) (by kernel_rfl) (by kernel_rfl)))
end Go.Proofs.Ytgldpbghbkoolaa

