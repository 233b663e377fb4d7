/-
  Lemmas for the proof: no statement of its own.
-/
import Derived.Test.YtlomngideedobaaWalkA
import Derived.Test.YtlomngideedobaaCutA
set_option linter.unusedVariables false
set_option linter.unusedSimpArgs false
-- P p_14.txt
open Go Go.AL Go.RowKit
namespace Go.Proofs.Ytlomngideedobaa
set_option maxRecDepth 20000
end Go.Proofs.Ytlomngideedobaa

-- P p_14.txt
open Go Go.AL Go.RowKit
namespace Go.Proofs.Ytlomngideedobaa
set_option maxRecDepth 20000
end Go.Proofs.Ytlomngideedobaa

-- P p_14.txt
open Go Go.AL Go.RowKit
namespace Go.Proofs.Ytlomngideedobaa
set_option maxRecDepth 20000
def wtI9 (l : List Lk) (x : Lk) (k : Nat) : St := ⟨34, [(0, .c (LL l)), (3, .ptr 3 0), (5, .I k), (22, .own 22), (25, .c (.sl 3 ((l.map Lk.cd).take k))), (30, .c (LL l)), (31, .I k)], [(3, .box 47 [.I x.id, .I x.obv, .I x.rev]), (22, .arr 47 3 [])]⟩
def wtI10 (l : List Lk) (x : Lk) (k : Nat) : St := ⟨34, [(0, .c (LL l)), (3, .ptr 3 0), (5, .I k), (22, .own 22), (23, .c (LL l)), (24, .I k), (27, .agg [.I x.id, .I x.obv, .I x.rev]), (30, .c (LL l)), (31, .I k)], [(3, .box 47 [.I x.id, .I x.obv, .I x.rev]), (22, .arr 47 3 [])]⟩
def wtI11 (l : List Lk) (x : Lk) (k : Nat) : St := ⟨34, [(0, .c (LL l)), (3, .ptr 3 0), (5, .I k), (22, .own 22), (23, .c (LL l)), (24, .I k), (32, .c (.sl 3 ((l.map Lk.cd).drop k)))], [(3, .box 47 [.I x.id, .I x.obv, .I x.rev]), (22, .arr 47 3 [])]⟩
def wtI12 (l : List Lk) (x : Lk) (k : Nat) : St := ⟨34, [(0, .c (LL l)), (3, .ptr 3 0), (5, .I k), (25, .c (.sl 3 ((l.map Lk.cd).take k))), (27, .agg [.I x.id, .I x.obv, .I x.rev]), (30, .c (LL l)), (31, .I k)], [(3, .box 47 [.I x.id, .I x.obv, .I x.rev])]⟩
def wtI13 (l : List Lk) (x : Lk) (k : Nat) : St := ⟨34, [(0, .c (LL l)), (3, .ptr 3 0), (5, .I k), (25, .c (.sl 3 ((l.map Lk.cd).take k))), (32, .c (.sl 3 ((l.map Lk.cd).drop k)))], [(3, .box 47 [.I x.id, .I x.obv, .I x.rev])]⟩
def wtI15 (l : List Lk) (x : Lk) (k : Nat) : St := ⟨34, [(0, .c (LL l)), (3, .ptr 3 0), (5, .I k), (23, .c (LL l)), (24, .I k), (27, .agg [.I x.id, .I x.obv, .I x.rev]), (32, .c (.sl 3 ((l.map Lk.cd).drop k)))], [(3, .box 47 [.I x.id, .I x.obv, .I x.rev])]⟩
def wtI17 (l : List Lk) (x : Lk) (k : Nat) : St := ⟨34, [(0, .c (LL l)), (3, .ptr 3 0), (5, .I k), (22, .own 22), (25, .c (.sl 3 ((l.map Lk.cd).take k))), (27, .agg [.I x.id, .I x.obv, .I x.rev]), (30, .c (LL l)), (31, .I k)], [(3, .box 47 [.I x.id, .I x.obv, .I x.rev]), (22, .arr 47 3 [])]⟩
def wtI18 (l : List Lk) (x : Lk) (k : Nat) : St := ⟨34, [(0, .c (LL l)), (3, .ptr 3 0), (5, .I k), (22, .own 22), (25, .c (.sl 3 ((l.map Lk.cd).take k))), (32, .c (.sl 3 ((l.map Lk.cd).drop k)))], [(3, .box 47 [.I x.id, .I x.obv, .I x.rev]), (22, .arr 47 3 [])]⟩
def wtI19 (l : List Lk) (x : Lk) (k : Nat) : St := ⟨34, [(0, .c (LL l)), (3, .ptr 3 0), (5, .I k), (22, .own 22), (23, .c (LL l)), (24, .I k), (28, .own 28), (30, .c (LL l)), (31, .I k)], [(3, .box 47 [.I x.id, .I x.obv, .I x.rev]), (22, .arr 47 3 []), (28, .arr 47 3 [[.I x.id, .I x.obv, .I x.rev]])]⟩
def wtI20 (l : List Lk) (x : Lk) (k : Nat) : St := ⟨34, [(0, .c (LL l)), (3, .ptr 3 0), (5, .I k), (22, .own 22), (23, .c (LL l)), (24, .I k), (27, .agg [.I x.id, .I x.obv, .I x.rev]), (32, .c (.sl 3 ((l.map Lk.cd).drop k)))], [(3, .box 47 [.I x.id, .I x.obv, .I x.rev]), (22, .arr 47 3 [])]⟩
def wtI21 (l : List Lk) (x : Lk) (k : Nat) : St := ⟨34, [(0, .c (LL l)), (3, .ptr 3 0), (5, .I k), (25, .c (.sl 3 ((l.map Lk.cd).take k))), (28, .own 28), (30, .c (LL l)), (31, .I k)], [(3, .box 47 [.I x.id, .I x.obv, .I x.rev]), (28, .arr 47 3 [[.I x.id, .I x.obv, .I x.rev]])]⟩
def wtI22 (l : List Lk) (x : Lk) (k : Nat) : St := ⟨34, [(0, .c (LL l)), (3, .ptr 3 0), (5, .I k), (25, .c (.sl 3 ((l.map Lk.cd).take k))), (27, .agg [.I x.id, .I x.obv, .I x.rev]), (32, .c (.sl 3 ((l.map Lk.cd).drop k)))], [(3, .box 47 [.I x.id, .I x.obv, .I x.rev])]⟩
def wtI23 (l : List Lk) (x : Lk) (k : Nat) : St := ⟨34, [(0, .c (LL l)), (3, .ptr 3 0), (5, .I k), (23, .c (LL l)), (24, .I k), (28, .own 28), (32, .c (.sl 3 ((l.map Lk.cd).drop k)))], [(3, .box 47 [.I x.id, .I x.obv, .I x.rev]), (28, .arr 47 3 [[.I x.id, .I x.obv, .I x.rev]])]⟩
def wtI24 (l : List Lk) (x : Lk) (k : Nat) : St := ⟨34, [(0, .c (LL l)), (3, .ptr 3 0), (5, .I k), (26, .own 22), (27, .agg [.I x.id, .I x.obv, .I x.rev]), (30, .c (LL l)), (31, .I k)], [(3, .box 47 [.I x.id, .I x.obv, .I x.rev]), (22, .arr 47 3 ((l.map Lk.cd).take k))]⟩
def wtI25 (l : List Lk) (x : Lk) (k : Nat) : St := ⟨34, [(0, .c (LL l)), (3, .ptr 3 0), (5, .I k), (26, .own 22), (32, .c (.sl 3 ((l.map Lk.cd).drop k)))], [(3, .box 47 [.I x.id, .I x.obv, .I x.rev]), (22, .arr 47 3 ((l.map Lk.cd).take k))]⟩
def wtI26 (l : List Lk) (x : Lk) (k : Nat) : St := ⟨34, [(0, .c (LL l)), (3, .ptr 3 0), (5, .I k), (22, .own 22), (25, .c (.sl 3 ((l.map Lk.cd).take k))), (28, .own 28), (30, .c (LL l)), (31, .I k)], [(3, .box 47 [.I x.id, .I x.obv, .I x.rev]), (22, .arr 47 3 []), (28, .arr 47 3 [[.I x.id, .I x.obv, .I x.rev]])]⟩
def wtI27 (l : List Lk) (x : Lk) (k : Nat) : St := ⟨34, [(0, .c (LL l)), (3, .ptr 3 0), (5, .I k), (22, .own 22), (25, .c (.sl 3 ((l.map Lk.cd).take k))), (27, .agg [.I x.id, .I x.obv, .I x.rev]), (32, .c (.sl 3 ((l.map Lk.cd).drop k)))], [(3, .box 47 [.I x.id, .I x.obv, .I x.rev]), (22, .arr 47 3 [])]⟩
def wtI28 (l : List Lk) (x : Lk) (k : Nat) : St := ⟨34, [(0, .c (LL l)), (3, .ptr 3 0), (5, .I k), (22, .own 22), (23, .c (LL l)), (24, .I k), (28, .own 28), (32, .c (.sl 3 ((l.map Lk.cd).drop k)))], [(3, .box 47 [.I x.id, .I x.obv, .I x.rev]), (22, .arr 47 3 []), (28, .arr 47 3 [[.I x.id, .I x.obv, .I x.rev]])]⟩
def wtI29 (l : List Lk) (x : Lk) (k : Nat) : St := ⟨34, [(0, .c (LL l)), (3, .ptr 3 0), (5, .I k), (25, .c (.sl 3 ((l.map Lk.cd).take k))), (28, .own 28), (32, .c (.sl 3 ((l.map Lk.cd).drop k)))], [(3, .box 47 [.I x.id, .I x.obv, .I x.rev]), (28, .arr 47 3 [[.I x.id, .I x.obv, .I x.rev]])]⟩
def wtI30 (l : List Lk) (x : Lk) (k : Nat) : St := ⟨34, [(0, .c (LL l)), (3, .ptr 3 0), (5, .I k), (26, .own 22), (28, .own 28), (30, .c (LL l)), (31, .I k)], [(3, .box 47 [.I x.id, .I x.obv, .I x.rev]), (22, .arr 47 3 ((l.map Lk.cd).take k)), (28, .arr 47 3 [[.I x.id, .I x.obv, .I x.rev]])]⟩
def wtI31 (l : List Lk) (x : Lk) (k : Nat) : St := ⟨34, [(0, .c (LL l)), (3, .ptr 3 0), (5, .I k), (26, .own 22), (27, .agg [.I x.id, .I x.obv, .I x.rev]), (32, .c (.sl 3 ((l.map Lk.cd).drop k)))], [(3, .box 47 [.I x.id, .I x.obv, .I x.rev]), (22, .arr 47 3 ((l.map Lk.cd).take k))]⟩
def wtI32 (l : List Lk) (x : Lk) (k : Nat) : St := ⟨34, [(0, .c (LL l)), (3, .ptr 3 0), (5, .I k), (22, .own 22), (25, .c (.sl 3 ((l.map Lk.cd).take k))), (28, .own 28), (32, .c (.sl 3 ((l.map Lk.cd).drop k)))], [(3, .box 47 [.I x.id, .I x.obv, .I x.rev]), (22, .arr 47 3 []), (28, .arr 47 3 [[.I x.id, .I x.obv, .I x.rev]])]⟩
def wtI34 (l : List Lk) (x : Lk) (k : Nat) : St := ⟨34, [(0, .c (LL l)), (3, .ptr 3 0), (5, .I k), (26, .own 22), (28, .own 28), (32, .c (.sl 3 ((l.map Lk.cd).drop k)))], [(3, .box 47 [.I x.id, .I x.obv, .I x.rev]), (22, .arr 47 3 ((l.map Lk.cd).take k)), (28, .arr 47 3 [[.I x.id, .I x.obv, .I x.rev]])]⟩
def wtI35 (l : List Lk) (x : Lk) (k : Nat) : St := ⟨34, [(0, .c (LL l)), (3, .ptr 3 0), (5, .I k), (29, .own 22), (32, .c (.sl 3 ((l.map Lk.cd).drop k)))], [(3, .box 47 [.I x.id, .I x.obv, .I x.rev]), (22, .arr 47 3 ((l.map Lk.cd).take k ++ [[.I x.id, .I x.obv, .I x.rev]])), (28, .arr 47 3 [[.I x.id, .I x.obv, .I x.rev]])]⟩
def wtI (l : List Lk) (x : Lk) (k : Nat) : List (Nat × St) := [(9, wtI9 l x k), (10, wtI10 l x k), (11, wtI11 l x k), (12, wtI12 l x k), (13, wtI13 l x k), (15, wtI15 l x k), (17, wtI17 l x k), (18, wtI18 l x k), (19, wtI19 l x k), (20, wtI20 l x k), (21, wtI21 l x k), (22, wtI22 l x k), (23, wtI23 l x k), (24, wtI24 l x k), (25, wtI25 l x k), (26, wtI26 l x k), (27, wtI27 l x k), (28, wtI28 l x k), (29, wtI29 l x k), (30, wtI30 l x k), (31, wtI31 l x k), (32, wtI32 l x k), (34, wtI34 l x k), (35, wtI35 l x k)]
def wtIG : List GN := [.one 1 1, .one 2 2, .one 8 3, .one 9 4, .all [(0, 5), (3, 6), (5, 7), (10, 8)], .all [(3, 9), (5, 10), (10, 11)], .all [(0, 9), (5, 12), (10, 13)], .all [(0, 10), (3, 12), (6, 14), (10, 15)], .all [(0, 11), (3, 13), (5, 15)], .all [(4, 16), (5, 17), (10, 18)], .all [(3, 17), (6, 19), (10, 20)], .all [(3, 18), (5, 20)], .all [(0, 17), (6, 21), (10, 22)], .all [(0, 18), (5, 22)], .all [(0, 19), (3, 21), (10, 23)], .all [(0, 20), (3, 22), (6, 23)], .all [(5, 24), (10, 25)], .all [(4, 24), (6, 26), (10, 27)], .all [(4, 25), (5, 27)], .all [(3, 26), (10, 28)], .all [(3, 27), (6, 28)], .all [(0, 26), (10, 29)], .all [(0, 27), (6, 29)], .all [(0, 28), (3, 29)], .all [(6, 30), (10, 31)], .all [(5, 31)], .all [(4, 30), (10, 32)], .all [(4, 31), (6, 32)], .all [(3, 32)], .all [(0, 32)], .all [(7, 33), (10, 34)], .all [(6, 34)], .all [(4, 34)], .all [(10, 35)], .all [(7, 35)], .all [(11, 36)], .one 12 37, .fin]
theorem wtIl0 (l : List Lk) (x : Lk) (k : Nat) : lookT 0 (wtI l x k) = none := rfl
theorem wtIg0 : nthG wtIG 0 = some (.one 1 1) := rfl
theorem wtIl1 (l : List Lk) (x : Lk) (k : Nat) : lookT 1 (wtI l x k) = none := rfl
theorem wtIg1 : nthG wtIG 1 = some (.one 2 2) := rfl
theorem wtIl2 (l : List Lk) (x : Lk) (k : Nat) : lookT 2 (wtI l x k) = none := rfl
theorem wtIg2 : nthG wtIG 2 = some (.one 8 3) := rfl
theorem wtIl3 (l : List Lk) (x : Lk) (k : Nat) : lookT 3 (wtI l x k) = none := rfl
theorem wtIg3 : nthG wtIG 3 = some (.one 9 4) := rfl
theorem wtIl4 (l : List Lk) (x : Lk) (k : Nat) : lookT 4 (wtI l x k) = none := rfl
theorem wtIg4 : nthG wtIG 4 = some (.all [(0, 5), (3, 6), (5, 7), (10, 8)]) := rfl
theorem wtIl5 (l : List Lk) (x : Lk) (k : Nat) : lookT 5 (wtI l x k) = none := rfl
theorem wtIg5 : nthG wtIG 5 = some (.all [(3, 9), (5, 10), (10, 11)]) := rfl
theorem wtIl6 (l : List Lk) (x : Lk) (k : Nat) : lookT 6 (wtI l x k) = none := rfl
theorem wtIg6 : nthG wtIG 6 = some (.all [(0, 9), (5, 12), (10, 13)]) := rfl
theorem wtIl7 (l : List Lk) (x : Lk) (k : Nat) : lookT 7 (wtI l x k) = none := rfl
theorem wtIg7 : nthG wtIG 7 = some (.all [(0, 10), (3, 12), (6, 14), (10, 15)]) := rfl
theorem wtIl8 (l : List Lk) (x : Lk) (k : Nat) : lookT 8 (wtI l x k) = none := rfl
theorem wtIg8 : nthG wtIG 8 = some (.all [(0, 11), (3, 13), (5, 15)]) := rfl
theorem wtIl9 (l : List Lk) (x : Lk) (k : Nat) : lookT 9 (wtI l x k) = some (wtI9 l x k) := rfl
theorem wtIg9 : nthG wtIG 9 = some (.all [(4, 16), (5, 17), (10, 18)]) := rfl
theorem wtIl10 (l : List Lk) (x : Lk) (k : Nat) : lookT 10 (wtI l x k) = some (wtI10 l x k) := rfl
theorem wtIg10 : nthG wtIG 10 = some (.all [(3, 17), (6, 19), (10, 20)]) := rfl
theorem wtIl11 (l : List Lk) (x : Lk) (k : Nat) : lookT 11 (wtI l x k) = some (wtI11 l x k) := rfl
theorem wtIg11 : nthG wtIG 11 = some (.all [(3, 18), (5, 20)]) := rfl
theorem wtIl12 (l : List Lk) (x : Lk) (k : Nat) : lookT 12 (wtI l x k) = some (wtI12 l x k) := rfl
theorem wtIg12 : nthG wtIG 12 = some (.all [(0, 17), (6, 21), (10, 22)]) := rfl
theorem wtIl13 (l : List Lk) (x : Lk) (k : Nat) : lookT 13 (wtI l x k) = some (wtI13 l x k) := rfl
theorem wtIg13 : nthG wtIG 13 = some (.all [(0, 18), (5, 22)]) := rfl
theorem wtIl14 (l : List Lk) (x : Lk) (k : Nat) : lookT 14 (wtI l x k) = none := rfl
theorem wtIg14 : nthG wtIG 14 = some (.all [(0, 19), (3, 21), (10, 23)]) := rfl
theorem wtIl15 (l : List Lk) (x : Lk) (k : Nat) : lookT 15 (wtI l x k) = some (wtI15 l x k) := rfl
theorem wtIg15 : nthG wtIG 15 = some (.all [(0, 20), (3, 22), (6, 23)]) := rfl
theorem wtIl16 (l : List Lk) (x : Lk) (k : Nat) : lookT 16 (wtI l x k) = none := rfl
theorem wtIg16 : nthG wtIG 16 = some (.all [(5, 24), (10, 25)]) := rfl
theorem wtIl17 (l : List Lk) (x : Lk) (k : Nat) : lookT 17 (wtI l x k) = some (wtI17 l x k) := rfl
theorem wtIg17 : nthG wtIG 17 = some (.all [(4, 24), (6, 26), (10, 27)]) := rfl
theorem wtIl18 (l : List Lk) (x : Lk) (k : Nat) : lookT 18 (wtI l x k) = some (wtI18 l x k) := rfl
theorem wtIg18 : nthG wtIG 18 = some (.all [(4, 25), (5, 27)]) := rfl
theorem wtIl19 (l : List Lk) (x : Lk) (k : Nat) : lookT 19 (wtI l x k) = some (wtI19 l x k) := rfl
theorem wtIg19 : nthG wtIG 19 = some (.all [(3, 26), (10, 28)]) := rfl
theorem wtIl20 (l : List Lk) (x : Lk) (k : Nat) : lookT 20 (wtI l x k) = some (wtI20 l x k) := rfl
theorem wtIg20 : nthG wtIG 20 = some (.all [(3, 27), (6, 28)]) := rfl
theorem wtIl21 (l : List Lk) (x : Lk) (k : Nat) : lookT 21 (wtI l x k) = some (wtI21 l x k) := rfl
theorem wtIg21 : nthG wtIG 21 = some (.all [(0, 26), (10, 29)]) := rfl
theorem wtIl22 (l : List Lk) (x : Lk) (k : Nat) : lookT 22 (wtI l x k) = some (wtI22 l x k) := rfl
theorem wtIg22 : nthG wtIG 22 = some (.all [(0, 27), (6, 29)]) := rfl
theorem wtIl23 (l : List Lk) (x : Lk) (k : Nat) : lookT 23 (wtI l x k) = some (wtI23 l x k) := rfl
theorem wtIg23 : nthG wtIG 23 = some (.all [(0, 28), (3, 29)]) := rfl
theorem wtIl24 (l : List Lk) (x : Lk) (k : Nat) : lookT 24 (wtI l x k) = some (wtI24 l x k) := rfl
theorem wtIg24 : nthG wtIG 24 = some (.all [(6, 30), (10, 31)]) := rfl
theorem wtIl25 (l : List Lk) (x : Lk) (k : Nat) : lookT 25 (wtI l x k) = some (wtI25 l x k) := rfl
theorem wtIg25 : nthG wtIG 25 = some (.all [(5, 31)]) := rfl
theorem wtIl26 (l : List Lk) (x : Lk) (k : Nat) : lookT 26 (wtI l x k) = some (wtI26 l x k) := rfl
theorem wtIg26 : nthG wtIG 26 = some (.all [(4, 30), (10, 32)]) := rfl
theorem wtIl27 (l : List Lk) (x : Lk) (k : Nat) : lookT 27 (wtI l x k) = some (wtI27 l x k) := rfl
theorem wtIg27 : nthG wtIG 27 = some (.all [(4, 31), (6, 32)]) := rfl
theorem wtIl28 (l : List Lk) (x : Lk) (k : Nat) : lookT 28 (wtI l x k) = some (wtI28 l x k) := rfl
theorem wtIg28 : nthG wtIG 28 = some (.all [(3, 32)]) := rfl
theorem wtIl29 (l : List Lk) (x : Lk) (k : Nat) : lookT 29 (wtI l x k) = some (wtI29 l x k) := rfl
theorem wtIg29 : nthG wtIG 29 = some (.all [(0, 32)]) := rfl
theorem wtIl30 (l : List Lk) (x : Lk) (k : Nat) : lookT 30 (wtI l x k) = some (wtI30 l x k) := rfl
theorem wtIg30 : nthG wtIG 30 = some (.all [(7, 33), (10, 34)]) := rfl
theorem wtIl31 (l : List Lk) (x : Lk) (k : Nat) : lookT 31 (wtI l x k) = some (wtI31 l x k) := rfl
theorem wtIg31 : nthG wtIG 31 = some (.all [(6, 34)]) := rfl
theorem wtIl32 (l : List Lk) (x : Lk) (k : Nat) : lookT 32 (wtI l x k) = some (wtI32 l x k) := rfl
theorem wtIg32 : nthG wtIG 32 = some (.all [(4, 34)]) := rfl
theorem wtIl33 (l : List Lk) (x : Lk) (k : Nat) : lookT 33 (wtI l x k) = none := rfl
theorem wtIg33 : nthG wtIG 33 = some (.all [(10, 35)]) := rfl
theorem wtIl34 (l : List Lk) (x : Lk) (k : Nat) : lookT 34 (wtI l x k) = some (wtI34 l x k) := rfl
theorem wtIg34 : nthG wtIG 34 = some (.all [(7, 35)]) := rfl
theorem wtIl35 (l : List Lk) (x : Lk) (k : Nat) : lookT 35 (wtI l x k) = some (wtI35 l x k) := rfl
theorem wtIg35 : nthG wtIG 35 = some (.all [(11, 36)]) := rfl
theorem wtIl36 (l : List Lk) (x : Lk) (k : Nat) : lookT 36 (wtI l x k) = none := rfl
theorem wtIg36 : nthG wtIG 36 = some (.one 12 37) := rfl
theorem wtIl37 (l : List Lk) (x : Lk) (k : Nat) : lookT 37 (wtI l x k) = none := rfl
theorem wtIg37 : nthG wtIG 37 = some (.fin) := rfl
theorem wtIs0 (P : Program) (K : St → Prop) (σ : St) : atS P K c47_11L 0 σ = sGuard P K σ (some 22) (.bslice 47 3 []) none (guardOf σ none) := rfl
theorem wtIs1 (P : Program) (K : St → Prop) (σ : St) : atS P K c47_11L 1 σ = sGuard P K σ (some 23) (.mv (.t 0)) none (guardOf σ none) := rfl
theorem wtIo1 (K : St → Prop) (σ : St) : atO K c47_11L 1 σ = SFg K σ (some 23) (.mv (.t 0)) none (guardOf σ none) := by unfold c47_11L; simp only [atO_zero, atO_succ]
theorem wtIs2 (P : Program) (K : St → Prop) (σ : St) : atS P K c47_11L 2 σ = sGuard P K σ (some 24) (.mv (.t 5)) none (guardOf σ none) := rfl
theorem wtIo2 (K : St → Prop) (σ : St) : atO K c47_11L 2 σ = SFg K σ (some 24) (.mv (.t 5)) none (guardOf σ none) := by unfold c47_11L; simp only [atO_zero, atO_succ]
theorem wtIs3 (P : Program) (K : St → Prop) (σ : St) : atS P K c47_11L 3 σ = sGuard P K σ (some 25) (.slc 3 (.t 23) none (some (.t 24))) none (guardOf σ none) := rfl
theorem wtIs4 (P : Program) (K : St → Prop) (σ : St) : atS P K c47_11L 4 σ = sGuard P K σ (some 26) (.app 47 3 24 (.t 22) (.t 25)) none (guardOf σ none) := rfl
theorem wtIs5 (P : Program) (K : St → Prop) (σ : St) : atS P K c47_11L 5 σ = sGuard P K σ (some 27) (.ld (some 3) (.t 3)) none (guardOf σ none) := rfl
theorem wtIs6 (P : Program) (K : St → Prop) (σ : St) : atS P K c47_11L 6 σ = sGuard P K σ (some 28) (.bslice 47 3 [(.t 27)]) none (guardOf σ none) := rfl
theorem wtIs7 (P : Program) (K : St → Prop) (σ : St) : atS P K c47_11L 7 σ = sGuard P K σ (some 29) (.app 47 3 24 (.t 26) (.t 28)) none (guardOf σ none) := rfl
theorem wtIs8 (P : Program) (K : St → Prop) (σ : St) : atS P K c47_11L 8 σ = sGuard P K σ (some 30) (.mv (.t 0)) none (guardOf σ none) := rfl
theorem wtIo8 (K : St → Prop) (σ : St) : atO K c47_11L 8 σ = SFg K σ (some 30) (.mv (.t 0)) none (guardOf σ none) := by unfold c47_11L; simp only [atO_zero, atO_succ]
theorem wtIs9 (P : Program) (K : St → Prop) (σ : St) : atS P K c47_11L 9 σ = sGuard P K σ (some 31) (.mv (.t 5)) none (guardOf σ none) := rfl
theorem wtIo9 (K : St → Prop) (σ : St) : atO K c47_11L 9 σ = SFg K σ (some 31) (.mv (.t 5)) none (guardOf σ none) := by unfold c47_11L; simp only [atO_zero, atO_succ]
theorem wtIs10 (P : Program) (K : St → Prop) (σ : St) : atS P K c47_11L 10 σ = sGuard P K σ (some 32) (.slc 3 (.t 30) (some (.t 31)) none) none (guardOf σ none) := rfl
theorem wtIs11 (P : Program) (K : St → Prop) (σ : St) : atS P K c47_11L 11 σ = sGuard P K σ (some 33) (.app 47 3 24 (.t 29) (.t 32)) none (guardOf σ none) := rfl
theorem wtIs12 (P : Program) (K : St → Prop) (σ : St) : atS P K c47_11L 12 σ = sGuard P K σ (some 4) (.mv (.t 33)) none (guardOf σ none) := rfl
theorem wtIo12 (K : St → Prop) (σ : St) : atO K c47_11L 12 σ = SFg K σ (some 4) (.mv (.t 33)) none (guardOf σ none) := by unfold c47_11L; simp only [atO_zero, atO_succ]
attribute [go_sem] wtI9 wtI10 wtI11 wtI12 wtI13 wtI15 wtI17 wtI18 wtI19 wtI20 wtI21 wtI22 wtI23 wtI24 wtI25 wtI26 wtI27 wtI28 wtI29 wtI30 wtI31 wtI32 wtI34 wtI35 wtIl0 wtIg0 wtIl1 wtIg1 wtIl2 wtIg2 wtIl3 wtIg3 wtIl4 wtIg4 wtIl5 wtIg5 wtIl6 wtIg6 wtIl7 wtIg7 wtIl8 wtIg8 wtIl9 wtIg9 wtIl10 wtIg10 wtIl11 wtIg11 wtIl12 wtIg12 wtIl13 wtIg13 wtIl14 wtIg14 wtIl15 wtIg15 wtIl16 wtIg16 wtIl17 wtIg17 wtIl18 wtIg18 wtIl19 wtIg19 wtIl20 wtIg20 wtIl21 wtIg21 wtIl22 wtIg22 wtIl23 wtIg23 wtIl24 wtIg24 wtIl25 wtIg25 wtIl26 wtIg26 wtIl27 wtIg27 wtIl28 wtIg28 wtIl29 wtIg29 wtIl30 wtIg30 wtIl31 wtIg31 wtIl32 wtIg32 wtIl33 wtIg33 wtIl34 wtIg34 wtIl35 wtIg35 wtIl36 wtIg36 wtIl37 wtIg37 wtIs0 wtIs1 wtIo1 wtIs2 wtIo2 wtIs3 wtIs4 wtIs5 wtIs6 wtIs7 wtIs8 wtIo8 wtIs9 wtIo9 wtIs10 wtIs11 wtIs12 wtIo12
end Go.Proofs.Ytlomngideedobaa

