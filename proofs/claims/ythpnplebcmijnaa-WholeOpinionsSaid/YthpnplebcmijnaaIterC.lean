/-
  Lemmas for the proof: no statement of its own.
-/
import Derived.Shelf.Sort.Plain
import Derived.Shelf.Slices.In.SortNone
import Derived.Ground.Names2Prog
import Derived.Ground.GgzProg
import Derived.Shelf.SlIterI.Sorted
import Derived.Test.YthpnplebcmijnaaProg
set_option linter.unusedVariables false
set_option linter.unusedSimpArgs false
namespace Go.Proofs
open Go.Shelf
def Try.sorted47_ren : Go.Shelf.Ren := ⟨fun | 6 => 19 | 8 => 23 | 9 => 24 | 11 => 28 | 13 => 30 | 12 => 29 | 23 => 40 | 24 => 41 | 14 => 31 | 15 => 32 | 16 => 33 | 17 => 34 | 18 => 35 | 19 => 36 | 20 => 37 | 21 => 38 | 22 => 39 | 25 => 42 | 26 => 43 | 27 => 44 | 28 => 45 | 29 => 46 | 30 => 47 | 31 => 48 | n => n, fun | 26 => 3 | 28 => 56 | 24 => 24 | 0 => 0 | 3 => 3 | 37 => 67 | 48 => 78 | 50 => 80 | 4 => 4 | 40 => 70 | 39 => 69 | 45 => 75 | 5 => 5 | 9 => 9 | 51 => 81 | 55 => 85 | 57 => 87 | 58 => 88 | 33 => 63 | n => n, fun | n => n⟩
theorem Try.sorted47 : Go.Proofs.SlLaysZI.n6 Try.prog Try.sorted47_ren := {
  mixed := by kernel_rfl
  f6 := ⟨Try.f19.name, by decide, Try.func19.trans (congrArg some (by kernel_rfl))⟩
  f8 := ⟨Try.f23.name, by decide, Try.func23.trans (congrArg some (by kernel_rfl))⟩
  f11 := ⟨Try.f28.name, by decide, Try.func28.trans (congrArg some (by kernel_rfl))⟩
  t0 := Try.underlying0
  a0 := Try.isAgg0
  z0 := Try.sizeOf0
  v0 := Try.zeroValue0
  t24 := Try.underlying24
  a24 := Try.isAgg24
  z24 := Try.sizeOf24
  v24 := Try.zeroValue24
  t26 := Try.underlying3
  a26 := Try.isAgg3
  z26 := Try.sizeOf3
  v26 := Try.zeroValue3
  t28 := Try.underlying56
  a28 := Try.isAgg56
  z28 := Try.sizeOf56
  v28 := Try.zeroValue56
  i26 := by kernel_rfl }
def Try.keys48_ren : Go.Shelf.Ren := ⟨fun | 7 => 20 | 10 => 25 | n => n, fun | 23 => 52 | 26 => 3 | 3 => 37 | 28 => 56 | 0 => 0 | 27 => 55 | 33 => 63 | 4 => 4 | n => n, fun | n => n⟩
theorem Try.keys48 : Go.Proofs.SlLaysZI.n7 Try.prog Try.keys48_ren := {
  mixed := by kernel_rfl
  f7 := ⟨Try.f20.name, by decide, Try.func20.trans (congrArg some (by kernel_rfl))⟩
  f10 := ⟨Try.f25.name, by decide, Try.func25.trans (congrArg some (by kernel_rfl))⟩
  t0 := Try.underlying0
  a0 := Try.isAgg0
  z0 := Try.sizeOf0
  v0 := Try.zeroValue0
  t4 := Try.underlying4
  a4 := Try.isAgg4
  z4 := Try.sizeOf4
  v4 := Try.zeroValue4
  t23 := Try.underlying52
  a23 := Try.isAgg52
  z23 := Try.sizeOf52
  v23 := Try.zeroValue52
  t26 := Try.underlying3
  a26 := Try.isAgg3
  z26 := Try.sizeOf3
  v26 := Try.zeroValue3
  t27 := Try.underlying55
  a27 := Try.isAgg55
  z27 := Try.sizeOf55
  v27 := Try.zeroValue55
  t28 := Try.underlying56
  a28 := Try.isAgg56
  z28 := Try.sizeOf56
  v28 := Try.zeroValue56
  t33 := Try.underlying63
  a33 := Try.isAgg63
  z33 := Try.sizeOf63
  v33 := Try.zeroValue63 }
def Try.keys49_ren : Go.Shelf.Ren := ⟨fun | 7 => 21 | 10 => 26 | n => n, fun | 23 => 59 | 26 => 3 | 3 => 4 | 28 => 56 | 0 => 0 | 27 => 55 | 33 => 63 | 4 => 4 | n => n, fun | n => n⟩
theorem Try.keys49 : Go.Proofs.SlLaysZI.n7 Try.prog Try.keys49_ren := {
  mixed := by kernel_rfl
  f7 := ⟨Try.f21.name, by decide, Try.func21.trans (congrArg some (by kernel_rfl))⟩
  f10 := ⟨Try.f26.name, by decide, Try.func26.trans (congrArg some (by kernel_rfl))⟩
  t0 := Try.underlying0
  a0 := Try.isAgg0
  z0 := Try.sizeOf0
  v0 := Try.zeroValue0
  t4 := Try.underlying4
  a4 := Try.isAgg4
  z4 := Try.sizeOf4
  v4 := Try.zeroValue4
  t23 := Try.underlying59
  a23 := Try.isAgg59
  z23 := Try.sizeOf59
  v23 := Try.zeroValue59
  t26 := Try.underlying3
  a26 := Try.isAgg3
  z26 := Try.sizeOf3
  v26 := Try.zeroValue3
  t27 := Try.underlying55
  a27 := Try.isAgg55
  z27 := Try.sizeOf55
  v27 := Try.zeroValue55
  t28 := Try.underlying56
  a28 := Try.isAgg56
  z28 := Try.sizeOf56
  v28 := Try.zeroValue56
  t33 := Try.underlying63
  a33 := Try.isAgg63
  z33 := Try.sizeOf63
  v33 := Try.zeroValue63 }
def Try.keys50_ren : Go.Shelf.Ren := ⟨fun | 7 => 22 | 10 => 27 | n => n, fun | 23 => 43 | 26 => 3 | 3 => 47 | 28 => 56 | 0 => 0 | 27 => 55 | 33 => 63 | 4 => 4 | n => n, fun | n => n⟩
theorem Try.keys50 : Go.Proofs.SlLaysZI.n7 Try.prog Try.keys50_ren := {
  mixed := by kernel_rfl
  f7 := ⟨Try.f22.name, by decide, Try.func22.trans (congrArg some (by kernel_rfl))⟩
  f10 := ⟨Try.f27.name, by decide, Try.func27.trans (congrArg some (by kernel_rfl))⟩
  t0 := Try.underlying0
  a0 := Try.isAgg0
  z0 := Try.sizeOf0
  v0 := Try.zeroValue0
  t4 := Try.underlying4
  a4 := Try.isAgg4
  z4 := Try.sizeOf4
  v4 := Try.zeroValue4
  t23 := Try.underlying43
  a23 := Try.isAgg43
  z23 := Try.sizeOf43
  v23 := Try.zeroValue43
  t26 := Try.underlying3
  a26 := Try.isAgg3
  z26 := Try.sizeOf3
  v26 := Try.zeroValue3
  t27 := Try.underlying55
  a27 := Try.isAgg55
  z27 := Try.sizeOf55
  v27 := Try.zeroValue55
  t28 := Try.underlying56
  a28 := Try.isAgg56
  z28 := Try.sizeOf56
  v28 := Try.zeroValue56
  t33 := Try.underlying63
  a33 := Try.isAgg63
  z33 := Try.sizeOf63
  v33 := Try.zeroValue63 }
def Try.lays189_ren : Go.Shelf.Ren := ⟨fun | 189 => 24 | 125 => 30 | 257 => 29 | 128 => 40 | 129 => 41 | 294 => 31 | 295 => 32 | 296 => 33 | 297 => 34 | 298 => 35 | 299 => 36 | 216 => 37 | 300 => 38 | 301 => 39 | 328 => 42 | 329 => 43 | 330 => 44 | 331 => 45 | 332 => 46 | 215 => 47 | 343 => 48 | n => n, fun | 28 => 24 | 3 => 3 | 46 => 67 | 0 => 0 | 51 => 78 | 53 => 80 | 4 => 4 | 183 => 70 | 182 => 69 | 131 => 75 | 5 => 5 | 9 => 9 | 218 => 81 | 222 => 85 | 228 => 87 | 229 => 88 | n => n, fun | n => n⟩
theorem Try.lays189 : Go.Proofs.Lays.n189 Try.prog Try.lays189_ren := {
  mixed := by kernel_rfl
  f125 := Try.func30.trans (congrArg some (by kernel_rfl))
  f128 := Try.func40.trans (congrArg some (by kernel_rfl))
  f129 := Try.func41.trans (congrArg some (by kernel_rfl))
  f189 := Try.func24.trans (congrArg some (by kernel_rfl))
  f215 := Try.func47.trans (congrArg some (by kernel_rfl))
  f216 := Try.func37.trans (congrArg some (by kernel_rfl))
  f257 := Try.func29.trans (congrArg some (by kernel_rfl))
  f294 := Try.func31.trans (congrArg some (by kernel_rfl))
  f295 := Try.func32.trans (congrArg some (by kernel_rfl))
  f296 := Try.func33.trans (congrArg some (by kernel_rfl))
  f297 := Try.func34.trans (congrArg some (by kernel_rfl))
  f298 := Try.func35.trans (congrArg some (by kernel_rfl))
  f299 := Try.func36.trans (congrArg some (by kernel_rfl))
  f300 := Try.func38.trans (congrArg some (by kernel_rfl))
  f301 := Try.func39.trans (congrArg some (by kernel_rfl))
  f328 := Try.func42.trans (congrArg some (by kernel_rfl))
  f329 := Try.func43.trans (congrArg some (by kernel_rfl))
  f330 := Try.func44.trans (congrArg some (by kernel_rfl))
  f331 := Try.func45.trans (congrArg some (by kernel_rfl))
  f332 := Try.func46.trans (congrArg some (by kernel_rfl))
  f343 := Try.func48.trans (congrArg some (by kernel_rfl))
  t0 := Try.underlying0
  a0 := Try.isAgg0
  z0 := Try.sizeOf0
  v0 := Try.zeroValue0
  t3 := Try.underlying3
  a3 := Try.isAgg3
  z3 := Try.sizeOf3
  v3 := Try.zeroValue3
  t4 := Try.underlying4
  a4 := Try.isAgg4
  z4 := Try.sizeOf4
  v4 := Try.zeroValue4
  t5 := Try.underlying5
  a5 := Try.isAgg5
  z5 := Try.sizeOf5
  v5 := Try.zeroValue5
  t9 := Try.underlying9
  a9 := Try.isAgg9
  z9 := Try.sizeOf9
  v9 := Try.zeroValue9
  t28 := Try.underlying24
  a28 := Try.isAgg24
  z28 := Try.sizeOf24
  v28 := Try.zeroValue24
  t46 := Try.underlying67
  a46 := Try.isAgg67
  z46 := Try.sizeOf67
  v46 := Try.zeroValue67
  t51 := Try.underlying78
  a51 := Try.isAgg78
  z51 := Try.sizeOf78
  v51 := Try.zeroValue78
  t53 := Try.underlying80
  a53 := Try.isAgg80
  z53 := Try.sizeOf80
  v53 := Try.zeroValue80
  t131 := Try.underlying75
  a131 := Try.isAgg75
  z131 := Try.sizeOf75
  v131 := Try.zeroValue75
  t182 := Try.underlying69
  a182 := Try.isAgg69
  z182 := Try.sizeOf69
  v182 := Try.zeroValue69
  t183 := Try.underlying70
  a183 := Try.isAgg70
  z183 := Try.sizeOf70
  v183 := Try.zeroValue70
  t218 := Try.underlying81
  a218 := Try.isAgg81
  z218 := Try.sizeOf81
  v218 := Try.zeroValue81
  t222 := Try.underlying85
  a222 := Try.isAgg85
  z222 := Try.sizeOf85
  v222 := Try.zeroValue85
  t228 := Try.underlying87
  a228 := Try.isAgg87
  z228 := Try.sizeOf87
  v228 := Try.zeroValue87
  t229 := Try.underlying88
  a229 := Try.isAgg88
  z229 := Try.sizeOf88
  v229 := Try.zeroValue88 }
open Go.Sort Go.RowKit in
theorem Try.slices_Sort_int (blk off cap : Nat) (zs : List Int) (w : World) (hH : Holds (Value.int .i64) w blk off zs.toArray) (hblk : blk < w.heap.size) (hsz : zs.length < 4611686018427387904) :
    Calls Try.prog 24 #[.slice (some ⟨blk, off, none⟩) zs.length cap] w fun e w' =>
      e = .returned (.tuple #[]) ∧ ∃ n os, w' = grow (putRow (Value.int .i64) (Sort.ahead w n) blk off (zs.mergeSort fun x y => decide (x ≤ y)).toArray) os := Any.slices_Sort_int Try.lays189 blk off cap zs w hH hblk hsz
open Go.RowKit Go.Sort in
theorem Try.slices_Sort_int_none (p : Option Addr) (cap : Nat) (w : World) :
    Calls Try.prog 24 #[.slice p 0 cap] w fun e w' => e = .returned (.tuple #[]) ∧ w' = w := Any.slices_Sort_int_none Try.lays189 p cap w
end Go.Proofs

