/-
  Lemmas for the proof: no statement of its own.
-/
import Derived.Shelf.Sort.Plain
import Derived.Shelf.Slices.In.SortNone
import Derived.Ground.Names2Prog
import Derived.Ground.GgzProg
import Derived.Shelf.SlIterI.Sorted
import Derived.Shelf.Slices.CompactI
import Derived.Test.YtddhinbiahcjlaaProg
import Derived.Test.YtddhinbiahcjlaaAlD
import Derived.RangeFuncBox
import Derived.RangeFuncLeaves
import Derived.Shelf.Abstract
import Derived.OwnWalkIn
import Derived.TacticsInMore
import Derived.LoopNIn
import Derived.LoopIn
import Derived.Test.YtddhinbiahcjlaaCodeA
set_option linter.unusedVariables false
set_option linter.unusedSimpArgs false
namespace Go.Proofs
open Go.Shelf
def Try.sorted44_ren : Go.Shelf.Ren := ⟨fun | 6 => 54 | 8 => 61 | 9 => 15 | 11 => 64 | 13 => 29 | 12 => 28 | 23 => 47 | 24 => 48 | 14 => 39 | 15 => 40 | 16 => 41 | 17 => 42 | 18 => 43 | 19 => 44 | 20 => 30 | 21 => 45 | 22 => 46 | 25 => 56 | 26 => 57 | 27 => 58 | 28 => 59 | 29 => 60 | 30 => 49 | 31 => 63 | n => n, fun | 26 => 3 | 28 => 84 | 24 => 31 | 0 => 0 | 3 => 3 | 37 => 63 | 48 => 79 | 50 => 81 | 4 => 4 | 40 => 73 | 39 => 72 | 45 => 45 | 5 => 5 | 9 => 9 | 51 => 86 | 55 => 90 | 57 => 92 | 58 => 41 | 33 => 65 | n => n, fun | n => n⟩
theorem Try.sorted44 : Go.Proofs.SlLaysZI.n6 Try.prog Try.sorted44_ren := {
  mixed := by kernel_rfl
  f6 := ⟨Try.f54.name, by decide, Try.func54.trans (congrArg some (by kernel_rfl))⟩
  f8 := ⟨Try.f61.name, by decide, Try.func61.trans (congrArg some (by kernel_rfl))⟩
  f11 := ⟨Try.f64.name, by decide, Try.func64.trans (congrArg some (by kernel_rfl))⟩
  t0 := Try.underlying0
  a0 := Try.isAgg0
  z0 := Try.sizeOf0
  v0 := Try.zeroValue0
  t24 := Try.underlying31
  a24 := Try.isAgg31
  z24 := Try.sizeOf31
  v24 := Try.zeroValue31
  t26 := Try.underlying3
  a26 := Try.isAgg3
  z26 := Try.sizeOf3
  v26 := Try.zeroValue3
  t28 := Try.underlying84
  a28 := Try.isAgg84
  z28 := Try.sizeOf84
  v28 := Try.zeroValue84
  i26 := by kernel_rfl }
def Try.lays189_ren : Go.Shelf.Ren := ⟨fun | 189 => 15 | 125 => 29 | 257 => 28 | 128 => 47 | 129 => 48 | 294 => 39 | 295 => 40 | 296 => 41 | 297 => 42 | 298 => 43 | 299 => 44 | 216 => 30 | 300 => 45 | 301 => 46 | 328 => 56 | 329 => 57 | 330 => 58 | 331 => 59 | 332 => 60 | 215 => 49 | 343 => 63 | n => n, fun | 28 => 31 | 3 => 3 | 46 => 63 | 0 => 0 | 51 => 79 | 53 => 81 | 4 => 4 | 183 => 73 | 182 => 72 | 131 => 45 | 5 => 5 | 9 => 9 | 218 => 86 | 222 => 90 | 228 => 92 | 229 => 41 | n => n, fun | n => n⟩
theorem Try.lays189 : Go.Proofs.Lays.n189 Try.prog Try.lays189_ren := {
  mixed := by kernel_rfl
  f125 := Try.func29.trans (congrArg some (by kernel_rfl))
  f128 := Try.func47.trans (congrArg some (by kernel_rfl))
  f129 := Try.func48.trans (congrArg some (by kernel_rfl))
  f189 := Try.func15.trans (congrArg some (by kernel_rfl))
  f215 := Try.func49.trans (congrArg some (by kernel_rfl))
  f216 := Try.func30.trans (congrArg some (by kernel_rfl))
  f257 := Try.func28.trans (congrArg some (by kernel_rfl))
  f294 := Try.func39.trans (congrArg some (by kernel_rfl))
  f295 := Try.func40.trans (congrArg some (by kernel_rfl))
  f296 := Try.func41.trans (congrArg some (by kernel_rfl))
  f297 := Try.func42.trans (congrArg some (by kernel_rfl))
  f298 := Try.func43.trans (congrArg some (by kernel_rfl))
  f299 := Try.func44.trans (congrArg some (by kernel_rfl))
  f300 := Try.func45.trans (congrArg some (by kernel_rfl))
  f301 := Try.func46.trans (congrArg some (by kernel_rfl))
  f328 := Try.func56.trans (congrArg some (by kernel_rfl))
  f329 := Try.func57.trans (congrArg some (by kernel_rfl))
  f330 := Try.func58.trans (congrArg some (by kernel_rfl))
  f331 := Try.func59.trans (congrArg some (by kernel_rfl))
  f332 := Try.func60.trans (congrArg some (by kernel_rfl))
  f343 := Try.func63.trans (congrArg some (by kernel_rfl))
  t0 := Try.underlying0
  a0 := Try.isAgg0
  z0 := Try.sizeOf0
  v0 := Try.zeroValue0
  t3 := Try.underlying3
  a3 := Try.isAgg3
  z3 := Try.sizeOf3
  v3 := Try.zeroValue3
  t4 := Try.underlying4
  a4 := Try.isAgg4
  z4 := Try.sizeOf4
  v4 := Try.zeroValue4
  t5 := Try.underlying5
  a5 := Try.isAgg5
  z5 := Try.sizeOf5
  v5 := Try.zeroValue5
  t9 := Try.underlying9
  a9 := Try.isAgg9
  z9 := Try.sizeOf9
  v9 := Try.zeroValue9
  t28 := Try.underlying31
  a28 := Try.isAgg31
  z28 := Try.sizeOf31
  v28 := Try.zeroValue31
  t46 := Try.underlying63
  a46 := Try.isAgg63
  z46 := Try.sizeOf63
  v46 := Try.zeroValue63
  t51 := Try.underlying79
  a51 := Try.isAgg79
  z51 := Try.sizeOf79
  v51 := Try.zeroValue79
  t53 := Try.underlying81
  a53 := Try.isAgg81
  z53 := Try.sizeOf81
  v53 := Try.zeroValue81
  t131 := Try.underlying45
  a131 := Try.isAgg45
  z131 := Try.sizeOf45
  v131 := Try.zeroValue45
  t182 := Try.underlying72
  a182 := Try.isAgg72
  z182 := Try.sizeOf72
  v182 := Try.zeroValue72
  t183 := Try.underlying73
  a183 := Try.isAgg73
  z183 := Try.sizeOf73
  v183 := Try.zeroValue73
  t218 := Try.underlying86
  a218 := Try.isAgg86
  z218 := Try.sizeOf86
  v218 := Try.zeroValue86
  t222 := Try.underlying90
  a222 := Try.isAgg90
  z222 := Try.sizeOf90
  v222 := Try.zeroValue90
  t228 := Try.underlying92
  a228 := Try.isAgg92
  z228 := Try.sizeOf92
  v228 := Try.zeroValue92
  t229 := Try.underlying41
  a229 := Try.isAgg41
  z229 := Try.sizeOf41
  v229 := Try.zeroValue41 }
open Go.Sort Go.RowKit in
theorem Try.slices_Sort_int (blk off cap : Nat) (zs : List Int) (w : World) (hH : Holds (Value.int .i64) w blk off zs.toArray) (hblk : blk < w.heap.size) (hsz : zs.length < 4611686018427387904) :
    Calls Try.prog 15 #[.slice (some ⟨blk, off, none⟩) zs.length cap] w fun e w' =>
      e = .returned (.tuple #[]) ∧ ∃ n os, w' = grow (putRow (Value.int .i64) (Sort.ahead w n) blk off (zs.mergeSort fun x y => decide (x ≤ y)).toArray) os := Any.slices_Sort_int Try.lays189 blk off cap zs w hH hblk hsz
def Try.laysNm220_ren : Go.Shelf.Ren := ⟨fun | 20 => 16 | n => n, fun | 22 => 31 | 3 => 3 | 4 => 4 | 0 => 0 | n => n, fun | n => n⟩
theorem Try.laysNm220 : Go.Proofs.Lays2.n20 Try.prog Try.laysNm220_ren := {
  mixed := by kernel_rfl
  f20 := Try.func16.trans (congrArg some (by kernel_rfl))
  t0 := Try.underlying0
  a0 := Try.isAgg0
  z0 := Try.sizeOf0
  v0 := Try.zeroValue0
  t3 := Try.underlying3
  a3 := Try.isAgg3
  z3 := Try.sizeOf3
  v3 := Try.zeroValue3
  t4 := Try.underlying4
  a4 := Try.isAgg4
  z4 := Try.sizeOf4
  v4 := Try.zeroValue4
  t22 := Try.underlying31
  a22 := Try.isAgg31
  z22 := Try.sizeOf31
  v22 := Try.zeroValue31
  i3 := by kernel_rfl }
open Go.RowKit Go.Lib Go.Sort in
open Go.RowKit Go.Lib Go.Sort in
theorem Try.slices_Compact_int (blk off cap : Nat) (zs : List Int) (w : World) (hH : Holds (Value.int .i64) w blk off zs.toArray) (hsz : zs.length ≤ 9223372036854775807) (hcap : zs.length ≤ cap) :
    Calls Try.prog 16 #[.slice (some ⟨blk, off, none⟩) zs.length cap] w fun e w' => e = .returned (.slice (some ⟨blk, off, none⟩) (Lib.compact zs).length cap) ∧ ∃ q, w' = putRow (Value.int .i64) (Sort.ahead w q) blk off (Lib.compact zs ++ List.replicate (zs.length - (Lib.compact zs).length) 0).toArray := Any.slices_Compact_int Try.laysNm220 blk off cap zs w hH hsz hcap
open Go.RowKit Go.Lib Go.Sort in
theorem Try.slices_Compact_int_empty (a : Option Addr) (cap : Nat) (w : World) :
    Calls Try.prog 16 #[.slice a 0 cap] w fun e w' => e = .returned (.slice a 0 cap) ∧ w' = w := Any.slices_Compact_int_empty Try.laysNm220 a cap w
open Go.RowKit Go.Sort in
theorem Try.slices_Sort_int_none (p : Option Addr) (cap : Nat) (w : World) :
    Calls Try.prog 15 #[.slice p 0 cap] w fun e w' => e = .returned (.tuple #[]) ∧ w' = w := Any.slices_Sort_int_none Try.lays189 p cap w
end Go.Proofs

namespace Go.AL
open Go Go.RowKit Go.Maps Go.Sort Go.Shelf Go.Proofs

/-! ### slices.Sorted over an iterator that reads memory: the rounds leave what lay before the call as it was -/

variable {P : Program} {ρ : Ren}

/-- the iterator g gives zs, if what lay below w's heap stays between its rounds -/
def GivesB (F : Fence) (n : Nat) (P : Program) (g : Nat) (lb : Array Value) (zs : List Int) (w : World) : Prop :=
  ∀ (l : Nat) (J : List Int → World → Prop) (W : World), Below w.heap.size w W → AbidesFrom W.heap.size J → (∀ pre W1, J pre W1 → Below w.heap.size w W1) →
    (∀ pre x W1, J pre W1 → pre.length < zs.length → YieldAt F (n - 1) P l #[encZ x] W1 fun e W' => e = .returned (.bool true) ∧ J (pre ++ [x]) W') →
    J [] W → CallsIn F n P g (#[.func (.yield l) #[] #[]] ++ lb) W fun e W' => (∃ v, e = .returned v) ∧ J zs W'

set_option maxRecDepth 100000 in
set_option maxHeartbeats 2000000 in
theorem appendSeqB (L : SlLaysZI.n11 P ρ) (F : Fence) (n : Nat) (h11 : F.fn (ρ.f 11)) (hro : F.round = none) (hn : 2 ≤ n) (g : Nat) (lb : Array Value) (hFg : F.fn g) (eg : ∀ args w, (callFunc g args).run P w = .ok (.enter g args) w)
    (zs : List Int) (hN : zs.length ≤ maxLen) (hNb : zs.length * 8 ≤ 140737488355328) (w : World) (hseq : GivesB F (n - 1) P g lb zs w) :
    CallsIn F n P (ρ.f 11) #[.slice none 0 0, .func (.func g) #[] lb] w fun e w' => ∃ (v : Value), e = .returned v ∧ w'.ownsRow w.heap.size (ρ.t 26) 1 v zs.length (zs.map encZ) ∧ (v = .slice none 0 0 ↔ zs = []) ∧ Below w.heap.size w w' := by
  have h1 : 1 ≤ n := by omega
  have mixed := L.mixed; have t0 := L.t0; have a0 := L.a0; have z0 := L.z0; have v0 := L.v0; have t24 := L.t24; have a24 := L.a24; have z24 := L.z24; have v24 := L.v24; have t26 := L.t26; have a26 := L.a26; have z26 := L.z26; have v26 := L.v26; have t28 := L.t28; have a28 := L.a28; have z28 := L.z28; have v28 := L.v28
  have hne : ρ.t 24 ≠ ρ.t 26 := fun e => by have h := L.t24; rw [e, L.t26] at h; cases h
  have u0 := run_underlying L.t0; have u24 := run_underlying L.t24; have u26 := run_underlying L.t26; have u28 := run_underlying L.t28
  obtain ⟨_, _, FG⟩ := L.f11
  refine callsIn_of_wp_marks FG rfl h11 ?_ hro
  simp only [SlBodyZ.n11_ntmps ρ, List.size_toArray, List.length_cons, List.length_nil, Nat.reduceAdd, Nat.reduceSub, Array.replicate_succ, Array.replicate_zero, List.push_toArray, List.append_toArray, List.nil_append, List.cons_append]
  gi_wp2
  refine wpIn_rangeFunc ?_
  intro fn hfn
  rw [hro]
  obtain ⟨W0, hW0⟩ : ∃ W0, w.alloc (.cells #[.slice none 0 0] (ρ.t 24)) = W0 := ⟨_, rfl⟩
  have hs0 : W0.heap.size = w.heap.size + 1 := by rw [← hW0]; simp
  have hv0 : W0.heap[w.heap.size]? = some (.cells #[.slice none 0 0] (ρ.t 24) (0, 0)) := by rw [← hW0]; exact World.alloc_heap_new w _
  have hb0 : Below w.heap.size w W0 := by rw [← hW0]; exact (Below.refl _ w).alloc (Nat.le_refl _) _
  rw [hW0]
  obtain ⟨W1, hW1⟩ : ∃ W1, (W0.alloc (.deferred (some []))).alloc (.loop (AnyZI.apRec ρ fn (.func (.func g) #[] lb) w.heap.size W0.heap.size .ready none)) = W1 := ⟨_, rfl⟩
  have hold : ∀ k, k < W0.heap.size → W1.heap[k]? = W0.heap[k]? := fun k hk => by
    rw [← hW1]; exact (Below.heap_alloc _ _ k (by simp; omega)).trans (Below.heap_alloc _ _ k hk)
  have hb1 : Below w.heap.size w W1 := by rw [← hW1]; exact (hb0.alloc hb0.size _).alloc (by have := hb0.size; simp; omega) _
  have hs1 : W1.heap.size = W0.heap.size + 2 := by rw [← hW1]; simp
  have hM : AnyZI.ApAt ρ w fn (.func (.func g) #[] lb) w.heap.size (W0.heap.size + 1) W0.heap.size [] W1 :=
    ⟨⟨_, (hold w.heap.size (by omega)).trans hv0, ⟨rfl, .inl ⟨rfl, rfl⟩⟩, by simp⟩,
     by rw [← hW1]; have := World.alloc_heap_new (W0.alloc (.deferred (some []))) (.loop (AnyZI.apRec ρ fn (.func (.func g) #[] lb) w.heap.size W0.heap.size .ready none)); rwa [World.size_alloc] at this,
     by rw [← hW1]; exact (Below.heap_alloc _ _ _ (by simp)).trans (World.alloc_heap_new W0 _), hb1⟩
  refine ⟨W0.heap.size + 1, [{ target := .collected W0.heap.size, args := #[] }], W1, { target := .fn (.func g) lb, args := #[.func (.yield (W0.heap.size + 1)) #[] #[]] }, W1, g,
    #[.func (.yield (W0.heap.size + 1)) #[] #[]] ++ lb, W1, ?_, ?_, ?_, ?_, fun _ => h1, ?_⟩
  · rw [← hW1]; exact run_enterLoop_outer _ _ _ _ _
  · simp [resolve, go_sem]
  · intro f' hf'; simp [Target.leads] at hf'; subst hf'; exact hFg
  · simp [invoke, go_sem, eg]
  · refine (hseq (W0.heap.size + 1) (AnyZI.ApAt ρ w fn (.func (.func g) #[] lb) w.heap.size (W0.heap.size + 1) W0.heap.size) W1 hb1 (AnyZI.ap_abides ρ _ _ _ _ _ _ _ hb1.size) (fun _ _ h => h.below)
      (fun pre x W hJ hl => ?_) hM).mono ?_
    · have := AnyZI.apYield { L with } F (n - 1 - 1) w fn hfn (.func (.func g) #[] lb) w.heap.size (W0.heap.size + 1) W0.heap.size (by omega) (by omega) (by omega) (Nat.le_refl _) (by omega) zs.length hN hNb pre x W hJ hl
      obtain ⟨a1, a2, a3, a4, a5, a6⟩ := this
      refine ⟨a1, a2, a3, a4, a5, a6.mono ?_⟩
      rintro e W' ⟨rfl, h, _⟩
      exact ⟨rfl, h⟩
    rintro e W2 ⟨⟨v0, rfl⟩, h2⟩
    obtain ⟨v, hv, hrow, hnil⟩ := h2.box
    have hend := run_endLoop (P := P) h2.L (by simp [AnyZI.apRec])
    obtain ⟨W3, hW3⟩ : ∃ W3, W2.putObj (W0.heap.size + 1) (.loop { AnyZI.apRec ρ fn (.func (.func g) #[] lb) w.heap.size W0.heap.size .ready none with state := .exhausted }) = W3 := ⟨_, rfl⟩
    rw [hW3] at hend
    have hg3 : W2.grownBy W3 (some (W0.heap.size + 1)) := by rw [← hW3]; exact grownBy_putObj_a _ _ _
    have hv3 : W3.heap[w.heap.size]? = some (.cells #[v] (ρ.t 24) (0, 0)) := by rw [← hW3]; exact (World.putObj_heap_other (by omega)).trans hv
    have hK3 : W3.heap[W0.heap.size]? = some (.deferred (some [])) := by rw [← hW3]; exact (World.putObj_heap_other (by omega)).trans h2.K
    have hrow3 := hrow.kept hg3 (ownsRow_ne_a hrow h2.L (fun cur e => by first | cases e | exact hne (Obj.cells.inj e).2.1))
    have hb3 : Below w.heap.size w W3 := h2.below.grown hg3 h2.below.size (fun k e => by cases e; omega)
    obtain ⟨hc3, hf3⟩ := cell_of_box_a hv3
    clear hW3
    refine ⟨none, W3, hend, ?_⟩
    gi_wp2
    rw [← hs0]
    refine ⟨by simp, .inl ⟨_, _, rfl, run_takeDeferred hK3, ?_⟩⟩
    exact ⟨_, results_tmp rfl _ _ _, v, rfl, hrow3.kept (grownBy_putObj_a _ _ _) (ownsRow_ne_a hrow3 hK3 (fun cur e => by first | cases e | exact hne (Obj.cells.inj e).2.1)), hnil, hb3.grown (grownBy_putObj_a _ _ _) hb3.size (fun k e => by cases e; omega)⟩

set_option maxHeartbeats 1000000 in
theorem collectB (L : SlLaysZI.n8 P ρ) (F : Fence) (n : Nat) (h8 : F.fn (ρ.f 8)) (h11 : F.fn (ρ.f 11)) (hro : F.round = none) (hn : 3 ≤ n) (g : Nat) (lb : Array Value) (hFg : F.fn g) (eg : ∀ args w, (callFunc g args).run P w = .ok (.enter g args) w)
    (zs : List Int) (hN : zs.length ≤ maxLen) (hNb : zs.length * 8 ≤ 140737488355328) (w : World) (hseq : GivesB F (n - 1 - 1) P g lb zs w) :
    CallsIn F n P (ρ.f 8) #[.func (.func g) #[] lb] w fun e w' => ∃ (v : Value), e = .returned v ∧ w'.ownsRow w.heap.size (ρ.t 26) 1 v zs.length (zs.map encZ) ∧ (v = .slice none 0 0 ↔ zs = []) ∧ Below w.heap.size w w' := by
  have h1 : 1 ≤ n := by omega
  have e11 : ∀ args w, (callFunc (ρ.f 11) args).run P w = .ok (.enter (ρ.f 11) args) w := L.f11.enters rfl
  have mixed := L.mixed; have t0 := L.t0; have a0 := L.a0; have z0 := L.z0; have v0 := L.v0; have t24 := L.t24; have a24 := L.a24; have z24 := L.z24; have v24 := L.v24; have t26 := L.t26; have a26 := L.a26; have z26 := L.z26; have v26 := L.v26; have t28 := L.t28; have a28 := L.a28; have z28 := L.z28; have v28 := L.v28
  have u0 := run_underlying L.t0; have u24 := run_underlying L.t24; have u26 := run_underlying L.t26; have u28 := run_underlying L.t28
  obtain ⟨_, _, FG⟩ := L.f8
  refine callsIn_of_wp FG rfl h8 ?_ hro
  simp only [SlBodyZ.n8_ntmps ρ, List.size_toArray, List.length_cons, List.length_nil, Nat.reduceAdd, Nat.reduceSub, Array.replicate_succ, Array.replicate_zero, List.push_toArray, List.append_toArray, List.nil_append, List.cons_append]
  gi_wp2_with (gi_at_fn (ρ.f 11); refine (appendSeqB { L with } F (n - 1) h11 hro (by omega) g lb hFg eg zs hN hNb _ hseq).mono ?_; rintro e w' ⟨v, rfl, hrow, hnil, hb⟩)
  go_ret
  exact ⟨v, rfl, hrow, hnil, hb⟩

set_option maxRecDepth 100000 in
set_option maxHeartbeats 2000000 in
theorem sortedB (L : SlLaysZI.n6 P ρ) (F : Fence) (n : Nat) (h6 : F.fn (ρ.f 6)) (h8 : F.fn (ρ.f 8)) (h9 : F.fn (ρ.f 9)) (h11 : F.fn (ρ.f 11)) (hro : F.round = none) (hn : 4 ≤ n) (hsort : AnyZI.SortsIn P ρ F (n - 1)) (e9 : ∀ args w, (callFunc (ρ.f 9) args).run P w = .ok (.enter (ρ.f 9) args) w)
    (g : Nat) (lb : Array Value) (hFg : F.fn g) (eg : ∀ args w, (callFunc g args).run P w = .ok (.enter g args) w)
    (zs : List Int) (hN : zs.length ≤ maxLen) (hNb : zs.length * 8 ≤ 140737488355328) (w : World) (hseq : GivesB F (n - 1 - 1 - 1) P g lb zs w) :
    CallsIn F n P (ρ.f 6) #[.func (.func g) #[] lb] w fun e w' => ∃ (v : Value), e = .returned v ∧
      w'.ownsRow w.heap.size (ρ.t 26) 1 v zs.length ((zs.mergeSort (fun x y => decide (x ≤ y))).map encZ) ∧ Below w.heap.size w w' := by
  have h1 : 1 ≤ n := by omega
  have e8 : ∀ args w, (callFunc (ρ.f 8) args).run P w = .ok (.enter (ρ.f 8) args) w := L.f8.enters rfl
  have mixed := L.mixed; have t0 := L.t0; have a0 := L.a0; have z0 := L.z0; have v0 := L.v0; have t24 := L.t24; have a24 := L.a24; have z24 := L.z24; have v24 := L.v24; have t26 := L.t26; have a26 := L.a26; have z26 := L.z26; have v26 := L.v26; have t28 := L.t28; have a28 := L.a28; have z28 := L.z28; have v28 := L.v28
  have u0 := run_underlying L.t0; have u24 := run_underlying L.t24; have u26 := run_underlying L.t26; have u28 := run_underlying L.t28
  obtain ⟨_, _, FG⟩ := L.f6
  refine callsIn_of_wp FG rfl h6 ?_ hro
  simp only [SlBodyZ.n6_ntmps ρ, List.size_toArray, List.length_cons, List.length_nil, Nat.reduceAdd, Nat.reduceSub, Array.replicate_succ, Array.replicate_zero, List.push_toArray, List.append_toArray, List.nil_append, List.cons_append]
  gi_wp2_with (gi_at_fn (ρ.f 8); refine (collectB { L with } F (n - 1) h8 h11 hro (by omega) g lb hFg eg zs hN hNb _ hseq).mono ?_; rintro e W ⟨v, rfl, hrow, hnil, hb⟩)
  rcases hrow.2 with ⟨rfl, hz⟩ | ⟨gb, cap, cur, rfl, hbase, hgb, r1, r2, r3, r4⟩
  · have hss : zs = [] := List.eq_nil_of_length_eq_zero hz
    subst hss
    gi_wp2_with (gi_at_fn (ρ.f 9); refine (hsort.2 none 0 W).mono ?_; rintro e w' ⟨rfl, rfl⟩)
    go_ret
    exact ⟨.slice none 0 0, rfl, by simpa using hrow, hb⟩
  · have hH : Holds encZ W gb 0 zs.toArray := holds_of_block_i hgb (by simpa using r4)
    have hgl : gb < W.heap.size := (Array.getElem?_eq_some_iff.1 hgb).1
    have hsz : zs.length < 4611686018427387904 := by omega
    have cS := hsort.1 gb 0 cap zs W hH hgl hsz
    gi_wp2_with (gi_at_fn (ρ.f 9); refine cS.mono ?_; rintro e w' ⟨rfl, nn, os, rfl⟩)
    go_ret
    exact ⟨_, rfl, ownsRow_sorted_i (by simp) hbase hgb r1 r2 r3, hb.grown (grownBy_sorted_i _) hb.size (fun j hj => by cases hj; exact hbase)⟩

theorem addr_add0 (a : Addr) : a.add 0 = a := by unfold Addr.add; simp
/-- slices.Sorted at a closure over a list of ints: the sorted list, to be read -/
theorem FnR_sorted (L : SlLaysZI.n6 P ρ) (hcb : callB P (ρ.f 6) = true) (hsort : AnyZI.SortsIn P ρ Fence.wide 4) (e9 : ∀ args w, (callFunc (ρ.f 9) args).run P w = .ok (.enter (ρ.f 9) args) w) (g : Nat) (eg : ∀ args w, (callFunc g args).run P w = .ok (.enter g args) w)
    (l : List Int) (hl : l.length ≤ 1000000)
    (hit : ∀ (w : World) (S : Nat → Prop) (a : Addr) (sv : Value), (∀ b, S b → b < w.heap.size) → S a.block → w.cell? a = some sv → Rd w S (.sl 1 (iRow l)) sv → GivesB Fence.wide 2 P g #[.pointer (some a)] l w) :
    FnR P (ρ.f 6) [.fn g [.dptr [.sl 1 (iRow l)]]] [.c (.sl 1 (iRow (l.mergeSort fun x y => decide (x ≤ y))))] := by
  refine ⟨hcb, fun w S φ vs hS hlen hargs => ?_⟩
  obtain ⟨v0, rfl⟩ : ∃ v0, vs = [v0] := by
    cases vs with
    | nil => simp at hlen
    | cons v us => cases us with
      | nil => exact ⟨v, rfl⟩
      | cons => simp at hlen
  have h := hargs 0 _ v0 rfl rfl
  cases h with
  | @fn _ _ vs2 hl2 hr =>
  obtain ⟨p, rfl⟩ : ∃ p, vs2 = [p] := by
    cases vs2 with
    | nil => simp at hl2
    | cons v us => cases us with
      | nil => exact ⟨v, rfl⟩
      | cons => simp at hl2
  have hp := hr 0 _ p rfl rfl
  cases hp with
  | @dptr _ a us hSa hcell hrd =>
  have hc := hcell 0 (by simp)
  rw [addr_add0] at hc
  have hd := hrd 0 _ rfl
  generalize us 0 = sv at hc hd
  have hin : ∀ x ∈ l, inK .i64 x := fun x hx => by
    generalize hX : iRow l = X at hd
    cases hd with
    | sl0 => cases l with
      | nil => simp at hx
      | cons => simp at hX
    | @sl _ _ a2 cap us2 hn hc2 hS2 hk2 hcell2 hrd2 =>
      subst hX
      obtain ⟨i, hi, rfl⟩ := List.getElem_of_mem hx
      have := hrd2 i 0 [CD.I l[i]] (CD.I l[i]) (by simp [hi]) rfl
      generalize us2 i 0 = z at this
      cases this with
      | sc h => exact h
  have hml : l.length ≤ maxLen := by unfold maxLen; omega
  have hcall := sortedB L Fence.wide 5 trivial trivial trivial trivial rfl (by omega) hsort e9 g #[.pointer (some a)] trivial eg l hml (by omega) w (hit w S a _ hS hSa hc hd)
  refine (callsIn_wide.1 hcall).mono ?_
  rintro e w' ⟨v, rfl, hrow, hb⟩
  generalize hm : (l.mergeSort fun x y => decide (x ≤ y)) = m at hrow
  have hperm := List.mergeSort_perm l fun x y => decide (x ≤ y)
  rw [hm] at hperm
  have hmin : ∀ x ∈ m, inK .i64 x := fun x hx => hin x (hperm.mem_iff.1 hx)
  have hmlen : m.length = l.length := hperm.length_eq
  have hblk : ∀ b, Value.blk v = some b → w.heap.size ≤ b ∧ b < w'.heap.size := fun b hbv => by
    rcases hrow.2 with ⟨rfl, _⟩ | ⟨gb, cap, cur, rfl, h1, h2, _⟩
    · cases hbv
    · cases hbv
      exact ⟨h1, (Array.getElem?_eq_some_iff.1 h2).1⟩
  refine ⟨[v], fun b => S b ∨ Value.blk v = some b, rfl, ⟨fun b h => .inl h, fun b h => h.imp_right fun h => (hblk b h).1, fun b h => ?_, rfl, fun i r u hr hu => ?_, fun i e k xs u b hr hu hbv => ?_, fun i j e k xs e' k' xs' u u' b hr => ?_⟩, hb⟩
  · rcases h with h | h
    · exact Nat.lt_of_lt_of_le (hS b h) hb.size
    · exact (hblk b h).2
  · cases i with
    | succ i => simp at hr
    | zero =>
      simp at hr hu
      subst hr; subst hu
      show Rd w' _ _ v
      rcases hrow.2 with ⟨rfl, h0⟩ | ⟨gb, cap, cur, rfl, h1, h2, h3, h4, h5, h6⟩
      · have : m = [] := List.eq_nil_of_length_eq_zero (by omega)
        subst this
        exact .sl0 (Nat.zero_le _) fun _ => rfl
      · have hcur : ∀ i, i < m.length → cur[i]? = some (.int .i64 (nth m i)) := fun i hi => by
          have h := congrArg (fun z => z[i]?) h6
          simp only [List.getElem?_map] at h
          rw [List.getElem?_take_of_lt (by omega), Array.getElem?_toList, List.getElem?_eq_getElem hi] at h
          rw [h, nth_eq m i hi]; rfl
        rw [← hmlen]
        have hlm : (iRow m).length = m.length := by simp
        rw [← hlm]
        refine .sl (fun i _ => .int .i64 (nth m i)) (by rw [hlm]; omega) h4 (.inr rfl) (fun x hx => ?_) (fun i j hi hj => ?_) (fun i j x d hx hd => ?_)
        · simp only [List.mem_map] at hx
          obtain ⟨_, _, rfl⟩ := hx; rfl
        · obtain rfl : j = 0 := by omega
          rw [hlm] at hi
          have := hcur i hi
          simp [World.cell?, Addr.add, h2]
          by_cases h0 : i = 0
          · subst h0; simpa [h2] using this
          · simpa [h0, h2] using this
        · simp only [List.getElem?_map, Option.map_eq_some_iff] at hx
          obtain ⟨y, hy, rfl⟩ := hx
          obtain ⟨hil, e⟩ := List.getElem?_eq_some_iff.1 hy
          cases j with
          | succ j => simp at hd
          | zero =>
            simp only [List.getElem?_cons_zero, Option.some.injEq] at hd
            subst hd
            rw [nth_eq m i hil, e]
            exact .sc (hmin y (List.mem_of_getElem? hy))
  · cases i <;> simp at hr
  · cases i <;> simp at hr
end Go.AL

-- P p_27s.txt
open Go Go.AL Go.RowKit Go.Shelf
namespace Go.Proofs.Ytddhinbiahcjlaa

/-! ### slices.Values and its iterator -/
attribute [local go_sem] Oper.semAt_some

def uptoF {α : Type} (f : Nat → α) (k : Nat) : List α := (List.range k).map f
theorem uptoF_succ {α : Type} (f : Nat → α) (k : Nat) : uptoF f (k + 1) = uptoF f k ++ [f k] := by simp [uptoF, List.range_succ]
theorem uptoF_length {α : Type} (f : Nat → α) (k : Nat) : (uptoF f k).length = k := by simp [uptoF]
theorem uptoF_all (zs : List Int) : uptoF (fun j => nth zs j) zs.length = zs := by
  apply List.ext_getElem
  · simp [uptoF]
  · intro i h1 h2
    simp [uptoF, nth_eq zs i h2]

set_option maxRecDepth 100000 in
set_option maxHeartbeats 2000000 in
theorem values1 (n : Nat) (hn : 1 ≤ n) (l : Nat) (p ad : Addr) (len cap : Nat) (zs : List Int) (hcap : len ≤ cap) (hm : cap ≤ maxLen) (hlen : zs.length = len) (w : World) (J : List Int → World → Prop)
    (hJb : ∀ pre W1, J pre W1 → Below w.heap.size w W1) (hY : ∀ pre x W1, J pre W1 → pre.length < len → YieldAt Fence.wide (n - 1) Try.prog l #[encZ x] W1 fun e W' => e = .returned (.bool true) ∧ J (pre ++ [x]) W')
    (W : World) (hp : w.cell? p = some (.slice (some ad) len cap)) (hpl : p.block < w.heap.size) (hal : ad.block < w.heap.size) (hc : ∀ j, j < len → w.cell? (ad.add j) = some (.int .i64 (nth zs j))) (h0 : J [] W) :
    CallsIn Fence.wide n Try.prog 62 #[.func (.yield l) #[] #[], .pointer (some p)] W fun e W' => (∃ v, e = .returned v) ∧ J zs W' := by
  have hpW := ((hJb _ _ h0).cell (p := p) hpl).trans hp
  have hmb : maxLen ≤ 9223372036854775807 := by decide
  refine callsIn_of_wp Try.func62 rfl trivial ?_ rfl
  simp only [Try.ntmps62, List.size_toArray, List.length_cons, List.length_nil, Nat.reduceAdd, Nat.reduceSub, Array.replicate_succ, Array.replicate_zero, List.push_toArray, List.append_toArray, List.nil_append, List.cons_append]
  gi_wp2
  gi_loopw [7] (fun i wr => ∃ k : Nat, k ≤ len ∧ i = .int .i64 k ∧ J (uptoF (fun j => nth zs j) k) wr)
    (fun i _ => len - (intOf i).toNat)
  case atStart => exact ⟨0, Nat.zero_le _, rfl, h0⟩
  case round =>
    obtain ⟨k, hk, rfl, hJs⟩ := hrel
    by_cases hlt : k < len
    · obtain ⟨fn, tmps, assign, body, hy, hR⟩ := hY _ (nth zs k) wr hJs (by rw [uptoF_length]; exact hlt)
      have hcx : wr.cell? (ad.add k) = some (.int .i64 (nth zs k)) := ((hJb _ _ hJs).cell (p := ad.add k) (by rw [block_add]; exact hal)).trans (hc k hlt)
      gi_wp2
      refine hR.mono ?_
      rintro e W3 ⟨rfl, hJ3⟩
      gi_wp2
      go_roundw
      case rel => exact ⟨k + 1, by omega, by simp, by rw [uptoF_succ]; exact hJ3⟩
      case measure => simp [intOf]; omega
    · obtain rfl : k = len := by omega
      gi_wp2
      go_end0
      refine ⟨⟨_, rfl⟩, ?_⟩
      rw [← hlen, uptoF_all] at hJs
      exact hJs
set_option maxRecDepth 100000 in
set_option maxHeartbeats 2000000 in
theorem values1_nil (n : Nat) (l : Nat) (p : Addr) (A : Option Addr) (cap : Nat) (J : List Int → World → Prop)
    (W : World) (hp : W.cell? p = some (.slice A 0 cap)) (h0 : J [] W) :
    CallsIn Fence.wide n Try.prog 62 #[.func (.yield l) #[] #[], .pointer (some p)] W fun e W' => (∃ v, e = .returned v) ∧ J [] W' := by
  refine callsIn_of_wp Try.func62 rfl trivial ?_ rfl
  simp only [Try.ntmps62, List.size_toArray, List.length_cons, List.length_nil, Nat.reduceAdd, Nat.reduceSub, Array.replicate_succ, Array.replicate_zero, List.push_toArray, List.append_toArray, List.nil_append, List.cons_append]
  gi_wp2
  gi_loopw [7] (fun i wr => i = .int .i64 0 ∧ J [] wr) (fun _ _ => 0)
  case atStart => exact ⟨rfl, h0⟩
  case round =>
    obtain ⟨rfl, hJs⟩ := hrel
    gi_wp2
    go_end0
    exact ⟨⟨_, rfl⟩, hJs⟩
theorem values_gives (l : List Int) (n : Nat) (hn : 1 ≤ n) (w : World) (S : Nat → Prop) (a : Addr) (sv : Value) (hS : ∀ b, S b → b < w.heap.size) (hSa : S a.block) (hc : w.cell? a = some sv) (hd : Rd w S (.sl 1 (iRow l)) sv) : GivesB Fence.wide n Try.prog 62 #[.pointer (some a)] l w := by
  intro L J W hW hJ hJb hY h0
  have hcW := ((hJb _ _ h0).cell (p := a) (hS _ hSa)).trans hc
  generalize hX : iRow l = X at hd
  have hlX : X.length = l.length := by rw [← hX]; simp
  cases hd with
  | sl0 =>
    obtain rfl : l = [] := List.eq_nil_of_length_eq_zero (by simpa using hlX.symm)
    exact values1_nil n L a _ _ J W hcW h0
  | @sl _ _ a2 cap us hn2 hc2 hS2 hk2 hcell2 hrd2 =>
    subst hX
    rw [hlX] at hc hcW hn2
    refine values1 n hn L a a2 l.length cap l hn2 hc2 rfl w J hJb hY W hc (hS _ hSa) (hS _ hS2) (fun j hj => ?_) h0
    have h1 := hcell2 j 0 (by rw [hlX]; exact hj) (by omega)
    have h2 := hrd2 j 0 [CD.I l[j]] (CD.I l[j]) (by simp [hj]) rfl
    rw [Nat.mul_one, Nat.add_zero] at h1
    rw [h1, nth_eq l j hj]
    generalize us j 0 = z at h2
    cases h2
    rfl
set_option maxHeartbeats 1000000 in
theorem values_call (v : Value) (w : World) (h1 : v.oneCell' = true) (hv : ∃ a len cap, v = .slice a len cap) :
    Calls Try.prog 55 #[v] w fun e w' => e = .returned (.func (.func 62) #[] #[.pointer (some ⟨w.heap.size, 0, none⟩)]) ∧ w' = w.alloc (.cells #[v] 31) := by
  obtain ⟨a, len, cap, rfl⟩ := hv
  refine (callsIn_wide (n := 3)).1 (callsIn_of_wp Try.func55 rfl trivial ?_ rfl)
  simp only [Try.ntmps55, List.size_toArray, List.length_cons, List.length_nil, Nat.reduceAdd, Nat.reduceSub, Array.replicate_succ, Array.replicate_zero, List.push_toArray, List.append_toArray, List.nil_append, List.cons_append]
  gi_wp2
  go_ret
  exact ⟨rfl, rfl⟩
theorem sorts27 (m : Nat) : AnyZI.SortsIn Try.prog Try.sorted44_ren Fence.wide m :=
  ⟨fun blk off cap ss W hH hblk hsz => callsIn_wide.2 (Try.slices_Sort_int blk off cap ss W hH hblk hsz), fun p cap W => callsIn_wide.2 (Try.slices_Sort_int_none p cap W)⟩
theorem fvValues (l : List Int) : FnV Try.prog 55 [.c (.sl 1 (iRow l))] 62 31 [.sl 1 (iRow l)] := by
  refine ⟨by kernel_rfl, fun w S φ vs hS hlen hargs => ?_⟩
  obtain ⟨v0, rfl⟩ : ∃ v0, vs = [v0] := by
    cases vs with
    | nil => simp at hlen
    | cons v us => cases us with
      | nil => exact ⟨v, rfl⟩
      | cons => simp at hlen
  have h := hargs 0 _ v0 rfl rfl
  cases h with
  | c h =>
  refine (values_call v0 w h.oneCell (by generalize hX : iRow l = X at h; cases h <;> exact ⟨_, _, _, rfl⟩)).mono ?_
  rintro e w' ⟨rfl, rfl⟩
  refine ⟨[v0], rfl, rfl, rfl, fun j d u hd hu => ?_⟩
  cases j with
  | zero => simp at hd hu; subst hd; subst hu; exact h
  | succ j => simp at hd
theorem fSorted (l : List Int) (hl : l.length ≤ 1000000) : FnR Try.prog 54 [.fn 62 [.dptr [.sl 1 (iRow l)]]] [.c (.sl 1 (iRow (l.mergeSort fun x y => decide (x ≤ y))))] :=
  FnR_sorted Try.sorted44 (by kernel_rfl) (sorts27 _) (enters_of Try.func15 (by kernel_rfl) rfl) 62 (enters_of Try.func62 (by kernel_rfl) rfl) l hl fun w S a sv hS hSa hc hd => values_gives l 2 (by omega) w S a sv hS hSa hc hd
end Go.Proofs.Ytddhinbiahcjlaa

