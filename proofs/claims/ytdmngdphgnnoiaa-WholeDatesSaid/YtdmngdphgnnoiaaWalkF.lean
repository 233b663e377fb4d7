/-
  Lemmas for the proof: no statement of its own.
-/
import Derived.Test.YtdmngdphgnnoiaaAlD
import Derived.Test.YtdmngdphgnnoiaaWalkD
import Derived.Test.YtdmngdphgnnoiaaWalkE
import Derived.Test.YtdmngdphgnnoiaaPlainA
set_option linter.unusedVariables false
set_option linter.unusedSimpArgs false
open Go Go.AL Go.RowKit
namespace Go.Proofs.Ytdmngdphgnnoiaa
set_option maxRecDepth 20000
structure geP where
  (v0 v62 v63 v66 v67 v70 v71 : AV) (T : List (List (List CD))) (R : List (List CD)) (i j k : Nat) (a x y u p : Int) (ab xb yb v q : Bool)
section
variable (z : geP)
def geB (l : List (Nat × AV)) : St := ⟨121, l ++ [(0, z.v0), (6, .own 15), (10, .I (z.k : Int)), (11, .I (z.i : Int)), (12, .I (z.j : Int)), (62, z.v62), (63, z.v63), (66, z.v66), (67, z.v67), (70, z.v70), (71, z.v71)], [(15, .rows 77 76 2 z.T (some z.i) (some 901)), (901, .arr 76 2 z.R)]⟩
def ge27:St:=geB z [(77, .own 901), (78, .I (z.j : Int)), (84, .eptr 901 2 z.j 0), (88, .eptr 15 1 z.i 0), (90, .I (z.k : Int)), (95, .eptr 15 1 z.k 0), (97, .I (z.j : Int))]
def ge28:St:=geB z [(77, .own 901), (78, .I (z.j : Int)), (81, .eptr 15 1 z.i 0), (83, .I (z.j : Int)), (91, .eptr 901 2 z.k 0), (95, .eptr 15 1 z.k 0), (97, .I (z.j : Int))]
def ge29:St:=geB z [(77, .own 901), (78, .I (z.j : Int)), (81, .eptr 15 1 z.i 0), (83, .I (z.j : Int)), (88, .eptr 15 1 z.i 0), (90, .I (z.k : Int)), (98, .eptr 901 2 z.j 0)]
def ge39:St:=geB z [(77, .own 901), (78, .I (z.j : Int)), (85, .agg [.I z.a, .B z.ab]), (88, .eptr 15 1 z.i 0), (90, .I (z.k : Int)), (95, .eptr 15 1 z.k 0), (97, .I (z.j : Int))]
def ge43:St:=geB z [(77, .own 901), (78, .I (z.j : Int)), (81, .eptr 15 1 z.i 0), (83, .I (z.j : Int)), (92, .agg [.I z.x, .B z.xb]), (95, .eptr 15 1 z.k 0), (97, .I (z.j : Int))]
def ge47:St:=geB z [(77, .own 901), (78, .I (z.j : Int)), (81, .eptr 15 1 z.i 0), (83, .I (z.j : Int)), (88, .eptr 15 1 z.i 0), (90, .I (z.k : Int)), (99, .agg [.I z.y, .B z.yb])]
def ge50:St:=geB z [(76, .eptr 15 1 z.i 0), (78, .I (z.j : Int)), (84, .eptr 901 2 z.j 0), (91, .eptr 901 2 z.k 0), (95, .eptr 15 1 z.k 0), (97, .I (z.j : Int))]
def ge51:St:=geB z [(76, .eptr 15 1 z.i 0), (78, .I (z.j : Int)), (84, .eptr 901 2 z.j 0), (88, .eptr 15 1 z.i 0), (90, .I (z.k : Int)), (98, .eptr 901 2 z.j 0)]
def ge54:St:=geB z [(76, .eptr 15 1 z.i 0), (78, .I (z.j : Int)), (81, .eptr 15 1 z.i 0), (83, .I (z.j : Int)), (91, .eptr 901 2 z.k 0), (98, .eptr 901 2 z.j 0)]
def ge59:St:=geB z [(77, .own 901), (78, .I (z.j : Int)), (84, .eptr 901 2 z.j 0), (91, .eptr 901 2 z.k 0), (95, .eptr 15 1 z.k 0), (97, .I (z.j : Int))]
def ge60:St:=geB z [(77, .own 901), (78, .I (z.j : Int)), (84, .eptr 901 2 z.j 0), (88, .eptr 15 1 z.i 0), (90, .I (z.k : Int)), (98, .eptr 901 2 z.j 0)]
def ge63:St:=geB z [(77, .own 901), (78, .I (z.j : Int)), (81, .eptr 15 1 z.i 0), (83, .I (z.j : Int)), (91, .eptr 901 2 z.k 0), (98, .eptr 901 2 z.j 0)]
def ge66:St:=geB z [(76, .eptr 15 1 z.i 0), (78, .I (z.j : Int)), (85, .agg [.I z.a, .B z.ab]), (91, .eptr 901 2 z.k 0), (95, .eptr 15 1 z.k 0), (97, .I (z.j : Int))]
def ge67:St:=geB z [(76, .eptr 15 1 z.i 0), (78, .I (z.j : Int)), (85, .agg [.I z.a, .B z.ab]), (88, .eptr 15 1 z.i 0), (90, .I (z.k : Int)), (98, .eptr 901 2 z.j 0)]
def ge68:St:=geB z [(76, .eptr 15 1 z.i 0), (78, .I (z.j : Int)), (84, .eptr 901 2 z.j 0), (92, .agg [.I z.x, .B z.xb]), (95, .eptr 15 1 z.k 0), (97, .I (z.j : Int))]
def ge71:St:=geB z [(76, .eptr 15 1 z.i 0), (78, .I (z.j : Int)), (84, .eptr 901 2 z.j 0), (88, .eptr 15 1 z.i 0), (90, .I (z.k : Int)), (99, .agg [.I z.y, .B z.yb])]
def ge72:St:=geB z [(76, .eptr 15 1 z.i 0), (78, .I (z.j : Int)), (81, .eptr 15 1 z.i 0), (83, .I (z.j : Int)), (92, .agg [.I z.x, .B z.xb]), (98, .eptr 901 2 z.j 0)]
def ge74:St:=geB z [(76, .eptr 15 1 z.i 0), (78, .I (z.j : Int)), (81, .eptr 15 1 z.i 0), (83, .I (z.j : Int)), (91, .eptr 901 2 z.k 0), (99, .agg [.I z.y, .B z.yb])]
def ge75:St:=geB z [(77, .own 901), (78, .I (z.j : Int)), (85, .agg [.I z.a, .B z.ab]), (91, .eptr 901 2 z.k 0), (95, .eptr 15 1 z.k 0), (97, .I (z.j : Int))]
def ge76:St:=geB z [(77, .own 901), (78, .I (z.j : Int)), (85, .agg [.I z.a, .B z.ab]), (88, .eptr 15 1 z.i 0), (90, .I (z.k : Int)), (98, .eptr 901 2 z.j 0)]
def ge77:St:=geB z [(77, .own 901), (78, .I (z.j : Int)), (84, .eptr 901 2 z.j 0), (92, .agg [.I z.x, .B z.xb]), (95, .eptr 15 1 z.k 0), (97, .I (z.j : Int))]
def ge80:St:=geB z [(77, .own 901), (78, .I (z.j : Int)), (84, .eptr 901 2 z.j 0), (88, .eptr 15 1 z.i 0), (90, .I (z.k : Int)), (99, .agg [.I z.y, .B z.yb])]
def ge81:St:=geB z [(77, .own 901), (78, .I (z.j : Int)), (81, .eptr 15 1 z.i 0), (83, .I (z.j : Int)), (92, .agg [.I z.x, .B z.xb]), (98, .eptr 901 2 z.j 0)]
def ge83:St:=geB z [(77, .own 901), (78, .I (z.j : Int)), (81, .eptr 15 1 z.i 0), (83, .I (z.j : Int)), (91, .eptr 901 2 z.k 0), (99, .agg [.I z.y, .B z.yb])]
def ge84:St:=geB z [(76, .eptr 15 1 z.i 0), (78, .I (z.j : Int)), (85, .agg [.I z.a, .B z.ab]), (92, .agg [.I z.x, .B z.xb]), (95, .eptr 15 1 z.k 0), (97, .I (z.j : Int))]
def ge87:St:=geB z [(76, .eptr 15 1 z.i 0), (78, .I (z.j : Int)), (85, .agg [.I z.a, .B z.ab]), (88, .eptr 15 1 z.i 0), (90, .I (z.k : Int)), (99, .agg [.I z.y, .B z.yb])]
def ge89:St:=geB z [(76, .eptr 15 1 z.i 0), (78, .I (z.j : Int)), (84, .eptr 901 2 z.j 0), (91, .eptr 901 2 z.k 0), (98, .eptr 901 2 z.j 0)]
def ge92:St:=geB z [(76, .eptr 15 1 z.i 0), (78, .I (z.j : Int)), (81, .eptr 15 1 z.i 0), (83, .I (z.j : Int)), (92, .agg [.I z.x, .B z.xb]), (99, .agg [.I z.y, .B z.yb])]
def ge94:St:=geB z [(77, .own 901), (78, .I (z.j : Int)), (85, .agg [.I z.a, .B z.ab]), (92, .agg [.I z.x, .B z.xb]), (95, .eptr 15 1 z.k 0), (97, .I (z.j : Int))]
def ge97:St:=geB z [(77, .own 901), (78, .I (z.j : Int)), (85, .agg [.I z.a, .B z.ab]), (88, .eptr 15 1 z.i 0), (90, .I (z.k : Int)), (99, .agg [.I z.y, .B z.yb])]
def ge99:St:=geB z [(77, .own 901), (78, .I (z.j : Int)), (84, .eptr 901 2 z.j 0), (91, .eptr 901 2 z.k 0), (98, .eptr 901 2 z.j 0)]
def ge102:St:=geB z [(77, .own 901), (78, .I (z.j : Int)), (81, .eptr 15 1 z.i 0), (83, .I (z.j : Int)), (92, .agg [.I z.x, .B z.xb]), (99, .agg [.I z.y, .B z.yb])]
def ge105:St:=geB z [(76, .eptr 15 1 z.i 0), (78, .I (z.j : Int)), (85, .agg [.I z.a, .B z.ab]), (91, .eptr 901 2 z.k 0), (98, .eptr 901 2 z.j 0)]
def ge107:St:=geB z [(76, .eptr 15 1 z.i 0), (78, .I (z.j : Int)), (84, .eptr 901 2 z.j 0), (92, .agg [.I z.x, .B z.xb]), (98, .eptr 901 2 z.j 0)]
def ge108:St:=geB z [(76, .eptr 15 1 z.i 0), (78, .I (z.j : Int)), (84, .eptr 901 2 z.j 0), (91, .eptr 901 2 z.k 0), (99, .agg [.I z.y, .B z.yb])]
def ge112:St:=geB z [(77, .own 901), (78, .I (z.j : Int)), (85, .agg [.I z.a, .B z.ab]), (91, .eptr 901 2 z.k 0), (98, .eptr 901 2 z.j 0)]
def ge114:St:=geB z [(77, .own 901), (78, .I (z.j : Int)), (84, .eptr 901 2 z.j 0), (92, .agg [.I z.x, .B z.xb]), (98, .eptr 901 2 z.j 0)]
def ge115:St:=geB z [(77, .own 901), (78, .I (z.j : Int)), (84, .eptr 901 2 z.j 0), (91, .eptr 901 2 z.k 0), (99, .agg [.I z.y, .B z.yb])]
def ge117:St:=geB z [(77, .own 901), (78, .I (z.j : Int)), (81, .eptr 15 1 z.i 0), (83, .I (z.j : Int)), (100, .agg [.I z.u, .B z.v])]
def ge118:St:=geB z [(76, .eptr 15 1 z.i 0), (78, .I (z.j : Int)), (85, .agg [.I z.a, .B z.ab]), (92, .agg [.I z.x, .B z.xb]), (98, .eptr 901 2 z.j 0)]
def ge119:St:=geB z [(76, .eptr 15 1 z.i 0), (78, .I (z.j : Int)), (85, .agg [.I z.a, .B z.ab]), (91, .eptr 901 2 z.k 0), (99, .agg [.I z.y, .B z.yb])]
def ge120:St:=geB z [(76, .eptr 15 1 z.i 0), (78, .I (z.j : Int)), (84, .eptr 901 2 z.j 0), (92, .agg [.I z.x, .B z.xb]), (99, .agg [.I z.y, .B z.yb])]
def ge122:St:=geB z [(77, .own 901), (78, .I (z.j : Int)), (85, .agg [.I z.a, .B z.ab]), (92, .agg [.I z.x, .B z.xb]), (98, .eptr 901 2 z.j 0)]
def ge123:St:=geB z [(77, .own 901), (78, .I (z.j : Int)), (85, .agg [.I z.a, .B z.ab]), (91, .eptr 901 2 z.k 0), (99, .agg [.I z.y, .B z.yb])]
def ge124:St:=geB z [(77, .own 901), (78, .I (z.j : Int)), (84, .eptr 901 2 z.j 0), (92, .agg [.I z.x, .B z.xb]), (99, .agg [.I z.y, .B z.yb])]
def ge126:St:=geB z [(76, .eptr 15 1 z.i 0), (78, .I (z.j : Int)), (85, .agg [.I z.a, .B z.ab]), (92, .agg [.I z.x, .B z.xb]), (99, .agg [.I z.y, .B z.yb])]
def ge127:St:=geB z [(76, .eptr 15 1 z.i 0), (78, .I (z.j : Int)), (84, .eptr 901 2 z.j 0), (100, .agg [.I z.u, .B z.v])]
def ge128:St:=geB z [(77, .own 901), (78, .I (z.j : Int)), (85, .agg [.I z.a, .B z.ab]), (92, .agg [.I z.x, .B z.xb]), (99, .agg [.I z.y, .B z.yb])]
def ge129:St:=geB z [(77, .own 901), (78, .I (z.j : Int)), (84, .eptr 901 2 z.j 0), (100, .agg [.I z.u, .B z.v])]
def ge130:St:=geB z [(76, .eptr 15 1 z.i 0), (78, .I (z.j : Int)), (85, .agg [.I z.a, .B z.ab]), (100, .agg [.I z.u, .B z.v])]
def ge131:St:=geB z [(77, .own 901), (78, .I (z.j : Int)), (85, .agg [.I z.a, .B z.ab]), (100, .agg [.I z.u, .B z.v])]
def ge133:St:=geB z [(77, .own 901), (78, .I (z.j : Int)), (101, .agg [.I z.p, .B z.q])]
def ge:List (Nat × St):=[(27, ge27 z), (28, ge28 z), (29, ge29 z), (39, ge39 z), (43, ge43 z), (47, ge47 z), (50, ge50 z), (51, ge51 z), (54, ge54 z), (59, ge59 z), (60, ge60 z), (63, ge63 z), (66, ge66 z), (67, ge67 z), (68, ge68 z), (71, ge71 z), (72, ge72 z), (74, ge74 z), (75, ge75 z), (76, ge76 z), (77, ge77 z), (80, ge80 z), (81, ge81 z), (83, ge83 z), (84, ge84 z), (87, ge87 z), (89, ge89 z), (92, ge92 z), (94, ge94 z), (97, ge97 z), (99, ge99 z), (102, ge102 z), (105, ge105 z), (107, ge107 z), (108, ge108 z), (112, ge112 z), (114, ge114 z), (115, ge115 z), (117, ge117 z), (118, ge118 z), (119, ge119 z), (120, ge120 z), (122, ge122 z), (123, ge123 z), (124, ge124 z), (126, ge126 z), (127, ge127 z), (128, ge128 z), (129, ge129 z), (130, ge130 z), (131, ge131 z), (133, ge133 z)]
theorem gel0:lookT 0 (ge z)=none:=rfl
theorem gel1:lookT 1 (ge z)=none:=rfl
theorem gel2:lookT 2 (ge z)=none:=rfl
theorem gel3:lookT 3 (ge z)=none:=rfl
theorem gel4:lookT 4 (ge z)=none:=rfl
theorem gel5:lookT 5 (ge z)=none:=rfl
theorem gel6:lookT 6 (ge z)=none:=rfl
theorem gel7:lookT 7 (ge z)=none:=rfl
theorem gel8:lookT 8 (ge z)=none:=rfl
theorem gel9:lookT 9 (ge z)=none:=rfl
theorem gel10:lookT 10 (ge z)=none:=rfl
theorem gel11:lookT 11 (ge z)=none:=rfl
theorem gel12:lookT 12 (ge z)=none:=rfl
theorem gel13:lookT 13 (ge z)=none:=rfl
theorem gel14:lookT 14 (ge z)=none:=rfl
theorem gel15:lookT 15 (ge z)=none:=rfl
theorem gel16:lookT 16 (ge z)=none:=rfl
theorem gel17:lookT 17 (ge z)=none:=rfl
theorem gel18:lookT 18 (ge z)=none:=rfl
theorem gel19:lookT 19 (ge z)=none:=rfl
theorem gel20:lookT 20 (ge z)=none:=rfl
theorem gel21:lookT 21 (ge z)=none:=rfl
theorem gel22:lookT 22 (ge z)=none:=rfl
theorem gel23:lookT 23 (ge z)=none:=rfl
theorem gel24:lookT 24 (ge z)=none:=rfl
theorem gel25:lookT 25 (ge z)=none:=rfl
theorem gel26:lookT 26 (ge z)=none:=rfl
theorem gel27:lookT 27 (ge z)=some (ge27 z):=rfl
theorem gel28:lookT 28 (ge z)=some (ge28 z):=rfl
theorem gel29:lookT 29 (ge z)=some (ge29 z):=rfl
theorem gel30:lookT 30 (ge z)=none:=rfl
theorem gel31:lookT 31 (ge z)=none:=rfl
theorem gel32:lookT 32 (ge z)=none:=rfl
theorem gel33:lookT 33 (ge z)=none:=rfl
theorem gel34:lookT 34 (ge z)=none:=rfl
theorem gel35:lookT 35 (ge z)=none:=rfl
theorem gel36:lookT 36 (ge z)=none:=rfl
theorem gel37:lookT 37 (ge z)=none:=rfl
theorem gel38:lookT 38 (ge z)=none:=rfl
theorem gel39:lookT 39 (ge z)=some (ge39 z):=rfl
theorem gel40:lookT 40 (ge z)=none:=rfl
theorem gel41:lookT 41 (ge z)=none:=rfl
theorem gel42:lookT 42 (ge z)=none:=rfl
theorem gel43:lookT 43 (ge z)=some (ge43 z):=rfl
theorem gel44:lookT 44 (ge z)=none:=rfl
theorem gel45:lookT 45 (ge z)=none:=rfl
theorem gel46:lookT 46 (ge z)=none:=rfl
theorem gel47:lookT 47 (ge z)=some (ge47 z):=rfl
theorem gel48:lookT 48 (ge z)=none:=rfl
theorem gel49:lookT 49 (ge z)=none:=rfl
theorem gel50:lookT 50 (ge z)=some (ge50 z):=rfl
theorem gel51:lookT 51 (ge z)=some (ge51 z):=rfl
theorem gel52:lookT 52 (ge z)=none:=rfl
theorem gel53:lookT 53 (ge z)=none:=rfl
theorem gel54:lookT 54 (ge z)=some (ge54 z):=rfl
theorem gel55:lookT 55 (ge z)=none:=rfl
theorem gel56:lookT 56 (ge z)=none:=rfl
theorem gel57:lookT 57 (ge z)=none:=rfl
theorem gel58:lookT 58 (ge z)=none:=rfl
theorem gel59:lookT 59 (ge z)=some (ge59 z):=rfl
theorem gel60:lookT 60 (ge z)=some (ge60 z):=rfl
theorem gel61:lookT 61 (ge z)=none:=rfl
theorem gel62:lookT 62 (ge z)=none:=rfl
theorem gel63:lookT 63 (ge z)=some (ge63 z):=rfl
theorem gel64:lookT 64 (ge z)=none:=rfl
theorem gel65:lookT 65 (ge z)=none:=rfl
theorem gel66:lookT 66 (ge z)=some (ge66 z):=rfl
theorem gel67:lookT 67 (ge z)=some (ge67 z):=rfl
theorem gel68:lookT 68 (ge z)=some (ge68 z):=rfl
theorem gel69:lookT 69 (ge z)=none:=rfl
theorem gel70:lookT 70 (ge z)=none:=rfl
theorem gel71:lookT 71 (ge z)=some (ge71 z):=rfl
theorem gel72:lookT 72 (ge z)=some (ge72 z):=rfl
theorem gel73:lookT 73 (ge z)=none:=rfl
theorem gel74:lookT 74 (ge z)=some (ge74 z):=rfl
theorem gel75:lookT 75 (ge z)=some (ge75 z):=rfl
theorem gel76:lookT 76 (ge z)=some (ge76 z):=rfl
theorem gel77:lookT 77 (ge z)=some (ge77 z):=rfl
theorem gel78:lookT 78 (ge z)=none:=rfl
theorem gel79:lookT 79 (ge z)=none:=rfl
theorem gel80:lookT 80 (ge z)=some (ge80 z):=rfl
theorem gel81:lookT 81 (ge z)=some (ge81 z):=rfl
theorem gel82:lookT 82 (ge z)=none:=rfl
theorem gel83:lookT 83 (ge z)=some (ge83 z):=rfl
theorem gel84:lookT 84 (ge z)=some (ge84 z):=rfl
theorem gel85:lookT 85 (ge z)=none:=rfl
theorem gel86:lookT 86 (ge z)=none:=rfl
theorem gel87:lookT 87 (ge z)=some (ge87 z):=rfl
theorem gel88:lookT 88 (ge z)=none:=rfl
theorem gel89:lookT 89 (ge z)=some (ge89 z):=rfl
theorem gel90:lookT 90 (ge z)=none:=rfl
theorem gel91:lookT 91 (ge z)=none:=rfl
theorem gel92:lookT 92 (ge z)=some (ge92 z):=rfl
theorem gel93:lookT 93 (ge z)=none:=rfl
theorem gel94:lookT 94 (ge z)=some (ge94 z):=rfl
theorem gel95:lookT 95 (ge z)=none:=rfl
theorem gel96:lookT 96 (ge z)=none:=rfl
theorem gel97:lookT 97 (ge z)=some (ge97 z):=rfl
theorem gel98:lookT 98 (ge z)=none:=rfl
theorem gel99:lookT 99 (ge z)=some (ge99 z):=rfl
theorem gel100:lookT 100 (ge z)=none:=rfl
theorem gel101:lookT 101 (ge z)=none:=rfl
theorem gel102:lookT 102 (ge z)=some (ge102 z):=rfl
theorem gel103:lookT 103 (ge z)=none:=rfl
theorem gel104:lookT 104 (ge z)=none:=rfl
theorem gel105:lookT 105 (ge z)=some (ge105 z):=rfl
theorem gel106:lookT 106 (ge z)=none:=rfl
theorem gel107:lookT 107 (ge z)=some (ge107 z):=rfl
theorem gel108:lookT 108 (ge z)=some (ge108 z):=rfl
theorem gel109:lookT 109 (ge z)=none:=rfl
theorem gel110:lookT 110 (ge z)=none:=rfl
theorem gel111:lookT 111 (ge z)=none:=rfl
theorem gel112:lookT 112 (ge z)=some (ge112 z):=rfl
theorem gel113:lookT 113 (ge z)=none:=rfl
theorem gel114:lookT 114 (ge z)=some (ge114 z):=rfl
theorem gel115:lookT 115 (ge z)=some (ge115 z):=rfl
theorem gel116:lookT 116 (ge z)=none:=rfl
theorem gel117:lookT 117 (ge z)=some (ge117 z):=rfl
theorem gel118:lookT 118 (ge z)=some (ge118 z):=rfl
theorem gel119:lookT 119 (ge z)=some (ge119 z):=rfl
theorem gel120:lookT 120 (ge z)=some (ge120 z):=rfl
theorem gel121:lookT 121 (ge z)=none:=rfl
theorem gel122:lookT 122 (ge z)=some (ge122 z):=rfl
theorem gel123:lookT 123 (ge z)=some (ge123 z):=rfl
theorem gel124:lookT 124 (ge z)=some (ge124 z):=rfl
theorem gel125:lookT 125 (ge z)=none:=rfl
theorem gel126:lookT 126 (ge z)=some (ge126 z):=rfl
theorem gel127:lookT 127 (ge z)=some (ge127 z):=rfl
theorem gel128:lookT 128 (ge z)=some (ge128 z):=rfl
theorem gel129:lookT 129 (ge z)=some (ge129 z):=rfl
theorem gel130:lookT 130 (ge z)=some (ge130 z):=rfl
theorem gel131:lookT 131 (ge z)=some (ge131 z):=rfl
theorem gel132:lookT 132 (ge z)=none:=rfl
theorem gel133:lookT 133 (ge z)=some (ge133 z):=rfl
theorem gel134:lookT 134 (ge z)=none:=rfl
theorem gel135:lookT 135 (ge z)=none:=rfl
end
def geG:List GN:=[.one 0 1, .one 1 2, .one 2 3, .one 4 4, .one 5 5, .one 6 6, .one 7 7, .one 9 8, .one 12 9, .one 13 10, .one 14 11, .one 16 12, .one 19 13, .one 20 14, .one 21 15, .one 23 16, .all [(3, 17), (8, 18), (15, 19), (22, 20)], .all [(8, 21), (15, 22), (22, 23)], .one 10 24, .one 17 25, .one 24 26, .one 10 27, .one 17 28, .one 24 29, .all [(3, 27), (11, 30), (15, 31), (22, 32)], .all [(3, 28), (8, 33), (18, 34), (22, 35)], .all [(3, 29), (8, 36), (15, 37), (25, 38)], .all [(11, 39), (15, 40), (22, 41)], .all [(8, 42), (18, 43), (22, 44)], .all [(8, 45), (15, 46), (25, 47)], .all [(3, 39), (15, 48), (22, 49)], .one 17 50, .one 24 51, .one 10 50, .all [(3, 43), (8, 52), (22, 53)], .one 24 54, .one 10 51, .one 17 54, .all [(3, 47), (8, 55), (15, 56)], .all [(15, 57), (22, 58)], .one 17 59, .one 24 60, .one 10 59, .all [(8, 61), (22, 62)], .one 24 63, .one 10 60, .one 17 63, .all [(8, 64), (15, 65)], .one 17 66, .one 24 67, .all [(3, 59), (11, 66), (18, 68), (22, 69)], .all [(3, 60), (11, 67), (15, 70), (25, 71)], .one 10 68, .one 24 72, .all [(3, 63), (8, 73), (18, 72), (25, 74)], .one 10 71, .one 17 74, .one 17 75, .one 24 76, .all [(11, 75), (18, 77), (22, 78)], .all [(11, 76), (15, 79), (25, 80)], .one 10 77, .one 24 81, .all [(8, 82), (18, 81), (25, 83)], .one 10 80, .one 17 83, .all [(3, 75), (18, 84), (22, 85)], .all [(3, 76), (15, 86), (25, 87)], .all [(3, 77), (11, 84), (22, 88)], .one 24 89, .one 17 89, .all [(3, 80), (11, 87), (15, 90)], .all [(3, 81), (8, 91), (25, 92)], .one 10 89, .all [(3, 83), (8, 93), (18, 92)], .all [(18, 94), (22, 95)], .all [(15, 96), (25, 97)], .all [(11, 94), (22, 98)], .one 24 99, .one 17 99, .all [(11, 97), (15, 100)], .all [(8, 101), (25, 102)], .one 10 99, .all [(8, 103), (18, 102)], .all [(3, 94), (22, 104)], .one 24 105, .one 17 105, .all [(3, 97), (15, 106)], .one 24 107, .all [(3, 99), (11, 105), (18, 107), (25, 108)], .one 17 108, .one 10 107, .all [(3, 102), (8, 109), (26, 110)], .one 10 108, .all [(22, 111)], .one 24 112, .one 17 112, .all [(15, 113)], .one 24 114, .all [(11, 112), (18, 114), (25, 115)], .one 17 115, .one 10 114, .all [(8, 116), (26, 117)], .one 10 115, .one 24 118, .all [(3, 112), (18, 118), (25, 119)], .one 17 119, .all [(3, 114), (11, 118), (25, 120)], .all [(3, 115), (11, 119), (18, 120)], .one 10 120, .all [(3, 117), (8, 121)], .one 24 122, .all [(18, 122), (25, 123)], .one 17 123, .all [(11, 122), (25, 124)], .all [(11, 123), (18, 124)], .one 10 124, .all [(8, 125)], .all [(3, 122), (25, 126)], .all [(3, 123), (18, 126)], .all [(3, 124), (11, 126), (26, 127)], .one 10 127, .all [(25, 128)], .all [(18, 128)], .all [(11, 128), (26, 129)], .one 10 129, .all [(3, 128), (26, 130)], .all [(3, 129), (11, 130)], .all [(26, 131)], .all [(11, 131)], .all [(3, 131), (27, 132)], .all [(27, 133)], .all [(3, 133)], .one 28 134, .all [(29, 135)], .fin]
abbrev geM:List Nat:=[0, 1, 3, 7, 23, 55, 119, 247, 759, 4855, 13047, 29431, 94967, 619255, 1667831, 3764983, 12153591, 12153599, 12153847, 12186359, 16347895, 12153855, 12186367, 16347903, 12154871, 12317431, 33125111, 12154879, 12317439, 33125119, 12156919, 12187639, 16349175, 12317687, 12579575, 16511735, 33125367, 33157879, 66679543, 12156927, 12187647, 16349183, 12317695, 12579583, 16511743, 33125375, 33157887, 66679551, 12189687, 16351223, 12318711, 33126391, 12579831, 16773879, 33288951, 66679799, 66712311, 12189695, 16351231, 12318719, 33126399, 12579839, 16773887, 33288959, 66679807, 66712319, 12320759, 33128439, 12580855, 16513015, 33159159, 66680823, 33551095, 33289207, 66843383, 12320767, 33128447, 12580863, 16513023, 33159167, 66680831, 33551103, 33289215, 66843391, 12582903, 16515063, 33161207, 66682871, 16775159, 33290231, 66713591, 33551351, 67105527, 66843639, 12582911, 16515071, 33161215, 66682879, 16775167, 33290239, 66713599, 33551359, 67105535, 66843647, 16777207, 33292279, 66715639, 33552375, 66844663, 67105783, 134214391, 16777215, 33292287, 66715647, 33552383, 66844671, 67105791, 134214399, 33554423, 66846711, 67106807, 134214647, 33554431, 66846719, 67106815, 134214655, 67108855, 134215671, 67108863, 134215679, 134217719, 134217727, 268435447, 268435455, 536870911, 1073741823]
theorem geg0:nthG geG 0=some (.one 0 1):=rfl
theorem geg1:nthG geG 1=some (.one 1 2):=rfl
theorem geg2:nthG geG 2=some (.one 2 3):=rfl
theorem geg3:nthG geG 3=some (.one 4 4):=rfl
theorem geg4:nthG geG 4=some (.one 5 5):=rfl
theorem geg5:nthG geG 5=some (.one 6 6):=rfl
theorem geg6:nthG geG 6=some (.one 7 7):=rfl
theorem geg7:nthG geG 7=some (.one 9 8):=rfl
theorem geg8:nthG geG 8=some (.one 12 9):=rfl
theorem geg9:nthG geG 9=some (.one 13 10):=rfl
theorem geg10:nthG geG 10=some (.one 14 11):=rfl
theorem geg11:nthG geG 11=some (.one 16 12):=rfl
theorem geg12:nthG geG 12=some (.one 19 13):=rfl
theorem geg13:nthG geG 13=some (.one 20 14):=rfl
theorem geg14:nthG geG 14=some (.one 21 15):=rfl
theorem geg15:nthG geG 15=some (.one 23 16):=rfl
theorem geg16:nthG geG 16=some (.all [(3, 17), (8, 18), (15, 19), (22, 20)]):=rfl
theorem geg17:nthG geG 17=some (.all [(8, 21), (15, 22), (22, 23)]):=rfl
theorem geg18:nthG geG 18=some (.one 10 24):=rfl
theorem geg19:nthG geG 19=some (.one 17 25):=rfl
theorem geg20:nthG geG 20=some (.one 24 26):=rfl
theorem geg21:nthG geG 21=some (.one 10 27):=rfl
theorem geg22:nthG geG 22=some (.one 17 28):=rfl
theorem geg23:nthG geG 23=some (.one 24 29):=rfl
theorem geg24:nthG geG 24=some (.all [(3, 27), (11, 30), (15, 31), (22, 32)]):=rfl
theorem geg25:nthG geG 25=some (.all [(3, 28), (8, 33), (18, 34), (22, 35)]):=rfl
theorem geg26:nthG geG 26=some (.all [(3, 29), (8, 36), (15, 37), (25, 38)]):=rfl
theorem geg27:nthG geG 27=some (.all [(11, 39), (15, 40), (22, 41)]):=rfl
theorem geg28:nthG geG 28=some (.all [(8, 42), (18, 43), (22, 44)]):=rfl
theorem geg29:nthG geG 29=some (.all [(8, 45), (15, 46), (25, 47)]):=rfl
theorem geg30:nthG geG 30=some (.all [(3, 39), (15, 48), (22, 49)]):=rfl
theorem geg31:nthG geG 31=some (.one 17 50):=rfl
theorem geg32:nthG geG 32=some (.one 24 51):=rfl
theorem geg33:nthG geG 33=some (.one 10 50):=rfl
theorem geg34:nthG geG 34=some (.all [(3, 43), (8, 52), (22, 53)]):=rfl
theorem geg35:nthG geG 35=some (.one 24 54):=rfl
theorem geg36:nthG geG 36=some (.one 10 51):=rfl
theorem geg37:nthG geG 37=some (.one 17 54):=rfl
theorem geg38:nthG geG 38=some (.all [(3, 47), (8, 55), (15, 56)]):=rfl
theorem geg39:nthG geG 39=some (.all [(15, 57), (22, 58)]):=rfl
theorem geg40:nthG geG 40=some (.one 17 59):=rfl
theorem geg41:nthG geG 41=some (.one 24 60):=rfl
theorem geg42:nthG geG 42=some (.one 10 59):=rfl
theorem geg43:nthG geG 43=some (.all [(8, 61), (22, 62)]):=rfl
theorem geg44:nthG geG 44=some (.one 24 63):=rfl
theorem geg45:nthG geG 45=some (.one 10 60):=rfl
theorem geg46:nthG geG 46=some (.one 17 63):=rfl
theorem geg47:nthG geG 47=some (.all [(8, 64), (15, 65)]):=rfl
theorem geg48:nthG geG 48=some (.one 17 66):=rfl
theorem geg49:nthG geG 49=some (.one 24 67):=rfl
theorem geg50:nthG geG 50=some (.all [(3, 59), (11, 66), (18, 68), (22, 69)]):=rfl
theorem geg51:nthG geG 51=some (.all [(3, 60), (11, 67), (15, 70), (25, 71)]):=rfl
theorem geg52:nthG geG 52=some (.one 10 68):=rfl
theorem geg53:nthG geG 53=some (.one 24 72):=rfl
theorem geg54:nthG geG 54=some (.all [(3, 63), (8, 73), (18, 72), (25, 74)]):=rfl
theorem geg55:nthG geG 55=some (.one 10 71):=rfl
theorem geg56:nthG geG 56=some (.one 17 74):=rfl
theorem geg57:nthG geG 57=some (.one 17 75):=rfl
theorem geg58:nthG geG 58=some (.one 24 76):=rfl
theorem geg59:nthG geG 59=some (.all [(11, 75), (18, 77), (22, 78)]):=rfl
theorem geg60:nthG geG 60=some (.all [(11, 76), (15, 79), (25, 80)]):=rfl
theorem geg61:nthG geG 61=some (.one 10 77):=rfl
theorem geg62:nthG geG 62=some (.one 24 81):=rfl
theorem geg63:nthG geG 63=some (.all [(8, 82), (18, 81), (25, 83)]):=rfl
theorem geg64:nthG geG 64=some (.one 10 80):=rfl
theorem geg65:nthG geG 65=some (.one 17 83):=rfl
theorem geg66:nthG geG 66=some (.all [(3, 75), (18, 84), (22, 85)]):=rfl
theorem geg67:nthG geG 67=some (.all [(3, 76), (15, 86), (25, 87)]):=rfl
theorem geg68:nthG geG 68=some (.all [(3, 77), (11, 84), (22, 88)]):=rfl
theorem geg69:nthG geG 69=some (.one 24 89):=rfl
theorem geg70:nthG geG 70=some (.one 17 89):=rfl
theorem geg71:nthG geG 71=some (.all [(3, 80), (11, 87), (15, 90)]):=rfl
theorem geg72:nthG geG 72=some (.all [(3, 81), (8, 91), (25, 92)]):=rfl
theorem geg73:nthG geG 73=some (.one 10 89):=rfl
theorem geg74:nthG geG 74=some (.all [(3, 83), (8, 93), (18, 92)]):=rfl
theorem geg75:nthG geG 75=some (.all [(18, 94), (22, 95)]):=rfl
theorem geg76:nthG geG 76=some (.all [(15, 96), (25, 97)]):=rfl
theorem geg77:nthG geG 77=some (.all [(11, 94), (22, 98)]):=rfl
theorem geg78:nthG geG 78=some (.one 24 99):=rfl
theorem geg79:nthG geG 79=some (.one 17 99):=rfl
theorem geg80:nthG geG 80=some (.all [(11, 97), (15, 100)]):=rfl
theorem geg81:nthG geG 81=some (.all [(8, 101), (25, 102)]):=rfl
theorem geg82:nthG geG 82=some (.one 10 99):=rfl
theorem geg83:nthG geG 83=some (.all [(8, 103), (18, 102)]):=rfl
theorem geg84:nthG geG 84=some (.all [(3, 94), (22, 104)]):=rfl
theorem geg85:nthG geG 85=some (.one 24 105):=rfl
theorem geg86:nthG geG 86=some (.one 17 105):=rfl
theorem geg87:nthG geG 87=some (.all [(3, 97), (15, 106)]):=rfl
theorem geg88:nthG geG 88=some (.one 24 107):=rfl
theorem geg89:nthG geG 89=some (.all [(3, 99), (11, 105), (18, 107), (25, 108)]):=rfl
theorem geg90:nthG geG 90=some (.one 17 108):=rfl
theorem geg91:nthG geG 91=some (.one 10 107):=rfl
theorem geg92:nthG geG 92=some (.all [(3, 102), (8, 109), (26, 110)]):=rfl
theorem geg93:nthG geG 93=some (.one 10 108):=rfl
theorem geg94:nthG geG 94=some (.all [(22, 111)]):=rfl
theorem geg95:nthG geG 95=some (.one 24 112):=rfl
theorem geg96:nthG geG 96=some (.one 17 112):=rfl
theorem geg97:nthG geG 97=some (.all [(15, 113)]):=rfl
theorem geg98:nthG geG 98=some (.one 24 114):=rfl
theorem geg99:nthG geG 99=some (.all [(11, 112), (18, 114), (25, 115)]):=rfl
theorem geg100:nthG geG 100=some (.one 17 115):=rfl
theorem geg101:nthG geG 101=some (.one 10 114):=rfl
theorem geg102:nthG geG 102=some (.all [(8, 116), (26, 117)]):=rfl
theorem geg103:nthG geG 103=some (.one 10 115):=rfl
theorem geg104:nthG geG 104=some (.one 24 118):=rfl
theorem geg105:nthG geG 105=some (.all [(3, 112), (18, 118), (25, 119)]):=rfl
theorem geg106:nthG geG 106=some (.one 17 119):=rfl
theorem geg107:nthG geG 107=some (.all [(3, 114), (11, 118), (25, 120)]):=rfl
theorem geg108:nthG geG 108=some (.all [(3, 115), (11, 119), (18, 120)]):=rfl
theorem geg109:nthG geG 109=some (.one 10 120):=rfl
theorem geg110:nthG geG 110=some (.all [(3, 117), (8, 121)]):=rfl
theorem geg111:nthG geG 111=some (.one 24 122):=rfl
theorem geg112:nthG geG 112=some (.all [(18, 122), (25, 123)]):=rfl
theorem geg113:nthG geG 113=some (.one 17 123):=rfl
theorem geg114:nthG geG 114=some (.all [(11, 122), (25, 124)]):=rfl
theorem geg115:nthG geG 115=some (.all [(11, 123), (18, 124)]):=rfl
theorem geg116:nthG geG 116=some (.one 10 124):=rfl
theorem geg117:nthG geG 117=some (.all [(8, 125)]):=rfl
theorem geg118:nthG geG 118=some (.all [(3, 122), (25, 126)]):=rfl
theorem geg119:nthG geG 119=some (.all [(3, 123), (18, 126)]):=rfl
theorem geg120:nthG geG 120=some (.all [(3, 124), (11, 126), (26, 127)]):=rfl
theorem geg121:nthG geG 121=some (.one 10 127):=rfl
theorem geg122:nthG geG 122=some (.all [(25, 128)]):=rfl
theorem geg123:nthG geG 123=some (.all [(18, 128)]):=rfl
theorem geg124:nthG geG 124=some (.all [(11, 128), (26, 129)]):=rfl
theorem geg125:nthG geG 125=some (.one 10 129):=rfl
theorem geg126:nthG geG 126=some (.all [(3, 128), (26, 130)]):=rfl
theorem geg127:nthG geG 127=some (.all [(3, 129), (11, 130)]):=rfl
theorem geg128:nthG geG 128=some (.all [(26, 131)]):=rfl
theorem geg129:nthG geG 129=some (.all [(11, 131)]):=rfl
theorem geg130:nthG geG 130=some (.all [(3, 131), (27, 132)]):=rfl
theorem geg131:nthG geG 131=some (.all [(27, 133)]):=rfl
theorem geg132:nthG geG 132=some (.all [(3, 133)]):=rfl
theorem geg133:nthG geG 133=some (.one 28 134):=rfl
theorem geg134:nthG geG 134=some (.all [(29, 135)]):=rfl
theorem geg135:nthG geG 135=some (.fin):=rfl
section
variable (P : Program) (K : St → Prop) (σ : St)
theorem ges0:atS P K c29_45L 0 σ=sGuard P K σ (some 74) (.mv (.t 6)) none (guardOf σ none):=rfl
theorem geo0:atO K c29_45L 0 σ=SFg K σ (some 74) (.mv (.t 6)) none (guardOf σ none):=by unfold c29_45L; simp only [atO_zero, atO_succ]
theorem ges1:atS P K c29_45L 1 σ=sGuard P K σ (some 75) (.mv (.t 11)) none (guardOf σ none):=rfl
theorem geo1:atO K c29_45L 1 σ=SFg K σ (some 75) (.mv (.t 11)) none (guardOf σ none):=by unfold c29_45L; simp only [atO_zero, atO_succ]
theorem ges2:atS P K c29_45L 2 σ=sGuard P K σ (some 76) (.iad 1 (.t 74) (.t 75)) none (guardOf σ none):=rfl
theorem geo2:atO K c29_45L 2 σ=SFg K σ (some 76) (.iad 1 (.t 74) (.t 75)) none (guardOf σ none):=by unfold c29_45L; simp only [atO_zero, atO_succ]
theorem ges3:atS P K c29_45L 3 σ=sGuard P K σ (some 77) (.ld none (.t 76)) none (guardOf σ none):=rfl
theorem ges4:atS P K c29_45L 4 σ=sGuard P K σ (some 78) (.mv (.t 12)) none (guardOf σ none):=rfl
theorem geo4:atO K c29_45L 4 σ=SFg K σ (some 78) (.mv (.t 12)) none (guardOf σ none):=by unfold c29_45L; simp only [atO_zero, atO_succ]
theorem ges5:atS P K c29_45L 5 σ=sGuard P K σ (some 79) (.mv (.t 6)) none (guardOf σ none):=rfl
theorem geo5:atO K c29_45L 5 σ=SFg K σ (some 79) (.mv (.t 6)) none (guardOf σ none):=by unfold c29_45L; simp only [atO_zero, atO_succ]
theorem ges6:atS P K c29_45L 6 σ=sGuard P K σ (some 80) (.mv (.t 11)) none (guardOf σ none):=rfl
theorem geo6:atO K c29_45L 6 σ=SFg K σ (some 80) (.mv (.t 11)) none (guardOf σ none):=by unfold c29_45L; simp only [atO_zero, atO_succ]
theorem ges7:atS P K c29_45L 7 σ=sGuard P K σ (some 81) (.iad 1 (.t 79) (.t 80)) none (guardOf σ none):=rfl
theorem geo7:atO K c29_45L 7 σ=SFg K σ (some 81) (.iad 1 (.t 79) (.t 80)) none (guardOf σ none):=by unfold c29_45L; simp only [atO_zero, atO_succ]
theorem ges8:atS P K c29_45L 8 σ=sGuard P K σ (some 82) (.ld none (.t 81)) none (guardOf σ none):=rfl
theorem ges9:atS P K c29_45L 9 σ=sGuard P K σ (some 83) (.mv (.t 12)) none (guardOf σ none):=rfl
theorem geo9:atO K c29_45L 9 σ=SFg K σ (some 83) (.mv (.t 12)) none (guardOf σ none):=by unfold c29_45L; simp only [atO_zero, atO_succ]
theorem ges10:atS P K c29_45L 10 σ=sGuard P K σ (some 84) (.iad 2 (.t 82) (.t 83)) none (guardOf σ none):=rfl
theorem geo10:atO K c29_45L 10 σ=SFg K σ (some 84) (.iad 2 (.t 82) (.t 83)) none (guardOf σ none):=by unfold c29_45L; simp only [atO_zero, atO_succ]
theorem ges11:atS P K c29_45L 11 σ=sGuard P K σ (some 85) (.ld (some 2) (.t 84)) none (guardOf σ none):=rfl
theorem ges12:atS P K c29_45L 12 σ=sGuard P K σ (some 86) (.mv (.t 6)) none (guardOf σ none):=rfl
theorem geo12:atO K c29_45L 12 σ=SFg K σ (some 86) (.mv (.t 6)) none (guardOf σ none):=by unfold c29_45L; simp only [atO_zero, atO_succ]
theorem ges13:atS P K c29_45L 13 σ=sGuard P K σ (some 87) (.mv (.t 11)) none (guardOf σ none):=rfl
theorem geo13:atO K c29_45L 13 σ=SFg K σ (some 87) (.mv (.t 11)) none (guardOf σ none):=by unfold c29_45L; simp only [atO_zero, atO_succ]
theorem ges14:atS P K c29_45L 14 σ=sGuard P K σ (some 88) (.iad 1 (.t 86) (.t 87)) none (guardOf σ none):=rfl
theorem geo14:atO K c29_45L 14 σ=SFg K σ (some 88) (.iad 1 (.t 86) (.t 87)) none (guardOf σ none):=by unfold c29_45L; simp only [atO_zero, atO_succ]
theorem ges15:atS P K c29_45L 15 σ=sGuard P K σ (some 89) (.ld none (.t 88)) none (guardOf σ none):=rfl
theorem ges16:atS P K c29_45L 16 σ=sGuard P K σ (some 90) (.mv (.t 10)) none (guardOf σ none):=rfl
theorem geo16:atO K c29_45L 16 σ=SFg K σ (some 90) (.mv (.t 10)) none (guardOf σ none):=by unfold c29_45L; simp only [atO_zero, atO_succ]
theorem ges17:atS P K c29_45L 17 σ=sGuard P K σ (some 91) (.iad 2 (.t 89) (.t 90)) none (guardOf σ none):=rfl
theorem geo17:atO K c29_45L 17 σ=SFg K σ (some 91) (.iad 2 (.t 89) (.t 90)) none (guardOf σ none):=by unfold c29_45L; simp only [atO_zero, atO_succ]
theorem ges18:atS P K c29_45L 18 σ=sGuard P K σ (some 92) (.ld (some 2) (.t 91)) none (guardOf σ none):=rfl
theorem ges19:atS P K c29_45L 19 σ=sGuard P K σ (some 93) (.mv (.t 6)) none (guardOf σ none):=rfl
theorem geo19:atO K c29_45L 19 σ=SFg K σ (some 93) (.mv (.t 6)) none (guardOf σ none):=by unfold c29_45L; simp only [atO_zero, atO_succ]
theorem ges20:atS P K c29_45L 20 σ=sGuard P K σ (some 94) (.mv (.t 10)) none (guardOf σ none):=rfl
theorem geo20:atO K c29_45L 20 σ=SFg K σ (some 94) (.mv (.t 10)) none (guardOf σ none):=by unfold c29_45L; simp only [atO_zero, atO_succ]
theorem ges21:atS P K c29_45L 21 σ=sGuard P K σ (some 95) (.iad 1 (.t 93) (.t 94)) none (guardOf σ none):=rfl
theorem geo21:atO K c29_45L 21 σ=SFg K σ (some 95) (.iad 1 (.t 93) (.t 94)) none (guardOf σ none):=by unfold c29_45L; simp only [atO_zero, atO_succ]
theorem ges22:atS P K c29_45L 22 σ=sGuard P K σ (some 96) (.ld none (.t 95)) none (guardOf σ none):=rfl
theorem ges23:atS P K c29_45L 23 σ=sGuard P K σ (some 97) (.mv (.t 12)) none (guardOf σ none):=rfl
theorem geo23:atO K c29_45L 23 σ=SFg K σ (some 97) (.mv (.t 12)) none (guardOf σ none):=by unfold c29_45L; simp only [atO_zero, atO_succ]
theorem ges24:atS P K c29_45L 24 σ=sGuard P K σ (some 98) (.iad 2 (.t 96) (.t 97)) none (guardOf σ none):=rfl
theorem geo24:atO K c29_45L 24 σ=SFg K σ (some 98) (.iad 2 (.t 96) (.t 97)) none (guardOf σ none):=by unfold c29_45L; simp only [atO_zero, atO_succ]
theorem ges25:atS P K c29_45L 25 σ=sGuard P K σ (some 99) (.ld (some 2) (.t 98)) none (guardOf σ none):=rfl
theorem ges26:atS P K c29_45L 26 σ=sGuard P K σ (some 100) (.call 45 [(.t 92), (.t 99)]) none (guardOf σ none):=rfl
theorem ges27:atS P K c29_45L 27 σ=sGuard P K σ (some 101) (.call 44 [(.t 85), (.t 100)]) none (guardOf σ none):=rfl
theorem ges28:atS P K c29_45L 28 σ=sGuard P K σ (some 102) (.iad 2 (.t 77) (.t 78)) none (guardOf σ none):=rfl
theorem geo28:atO K c29_45L 28 σ=SFg K σ (some 102) (.iad 2 (.t 77) (.t 78)) none (guardOf σ none):=by unfold c29_45L; simp only [atO_zero, atO_succ]
theorem ges29:atS P K c29_45L 29 σ=sGuard P K σ none (.st (some 2) (.t 102) (.t 101)) none (guardOf σ none):=rfl
end
attribute [go_sem] geB ge27 ge28 ge29 ge39 ge43 ge47 ge50 ge51 ge54 ge59 ge60 ge63 ge66 ge67 ge68 ge71 ge72 ge74 ge75 ge76 ge77 ge80 ge81 ge83 ge84 ge87 ge89 ge92 ge94 ge97 ge99 ge102 ge105 ge107 ge108 ge112 ge114 ge115 ge117 ge118 ge119 ge120 ge122 ge123 ge124 ge126 ge127 ge128 ge129 ge130 ge131 ge133 gel0 gel1 gel2 gel3 gel4 gel5 gel6 gel7 gel8 gel9 gel10 gel11 gel12 gel13 gel14 gel15 gel16 gel17 gel18 gel19 gel20 gel21 gel22 gel23 gel24 gel25 gel26 gel27 gel28 gel29 gel30 gel31 gel32 gel33 gel34 gel35 gel36 gel37 gel38 gel39 gel40 gel41 gel42 gel43 gel44 gel45 gel46 gel47 gel48 gel49 gel50 gel51 gel52 gel53 gel54 gel55 gel56 gel57 gel58 gel59 gel60 gel61 gel62 gel63 gel64 gel65 gel66 gel67 gel68 gel69 gel70 gel71 gel72 gel73 gel74 gel75 gel76 gel77 gel78 gel79 gel80 gel81 gel82 gel83 gel84 gel85 gel86 gel87 gel88 gel89 gel90 gel91 gel92 gel93 gel94 gel95 gel96 gel97 gel98 gel99 gel100 gel101 gel102 gel103 gel104 gel105 gel106 gel107 gel108 gel109 gel110 gel111 gel112 gel113 gel114 gel115 gel116 gel117 gel118 gel119 gel120 gel121 gel122 gel123 gel124 gel125 gel126 gel127 gel128 gel129 gel130 gel131 gel132 gel133 gel134 gel135 geg0 geg1 geg2 geg3 geg4 geg5 geg6 geg7 geg8 geg9 geg10 geg11 geg12 geg13 geg14 geg15 geg16 geg17 geg18 geg19 geg20 geg21 geg22 geg23 geg24 geg25 geg26 geg27 geg28 geg29 geg30 geg31 geg32 geg33 geg34 geg35 geg36 geg37 geg38 geg39 geg40 geg41 geg42 geg43 geg44 geg45 geg46 geg47 geg48 geg49 geg50 geg51 geg52 geg53 geg54 geg55 geg56 geg57 geg58 geg59 geg60 geg61 geg62 geg63 geg64 geg65 geg66 geg67 geg68 geg69 geg70 geg71 geg72 geg73 geg74 geg75 geg76 geg77 geg78 geg79 geg80 geg81 geg82 geg83 geg84 geg85 geg86 geg87 geg88 geg89 geg90 geg91 geg92 geg93 geg94 geg95 geg96 geg97 geg98 geg99 geg100 geg101 geg102 geg103 geg104 geg105 geg106 geg107 geg108 geg109 geg110 geg111 geg112 geg113 geg114 geg115 geg116 geg117 geg118 geg119 geg120 geg121 geg122 geg123 geg124 geg125 geg126 geg127 geg128 geg129 geg130 geg131 geg132 geg133 geg134 geg135 ges0 geo0 ges1 geo1 ges2 geo2 ges3 ges4 geo4 ges5 geo5 ges6 geo6 ges7 geo7 ges8 ges9 geo9 ges10 geo10 ges11 ges12 geo12 ges13 geo13 ges14 geo14 ges15 ges16 geo16 ges17 geo17 ges18 ges19 geo19 ges20 geo20 ges21 geo21 ges22 ges23 geo23 ges24 geo24 ges25 ges26 ges27 ges28 geo28 ges29
def inge (v0 v62 v63 v66 v67 v70 v71 : AV) (T : List (List (List CD))) (R : List (List CD)) (i j k : Nat) : St := ⟨121, [(0, v0), (6, .own 15), (10, .I (k : Int)), (11, .I (i : Int)), (12, .I (j : Int)), (62, v62), (63, v63), (66, v66), (67, v67), (70, v70), (71, v71)], [(15, .rows 77 76 2 T (some i) (some 901)), (901, .arr 76 2 R)]⟩
set_option maxHeartbeats 40000000 in
theorem rge (v0 v62 v63 v66 v67 v70 v71 : AV) (T : List (List (List CD))) (R : List (List CD)) (i j k : Nat) (a x y u p : Int) (ab xb yb v q : Bool) (hi : i < T.length) (hk : k < T.length) (hj : j < R.length) (hkl : k < R.length)
    (hR : R.getD j [] = [.I a, .B ab]) (hX : R.getD k [] = [.I x, .B xb]) (hS : R.getD j [] = [.I y, .B yb]) (hik : i = k)
    (g1 : FnR Try.prog 45 [.agg [.I x, .B xb], .agg [.I y, .B yb]] [.agg [.I u, .B v]])
    (g2 : FnR Try.prog 44 [.agg [.I a, .B ab], .agg [.I u, .B v]] [.agg [.I p, .B q]]) : AW Try.prog c29_45 (cutQ (inge v0 v62 v63 v66 v67 v70 v71 T (R.set j [.I p, .B q]) i j k)) (inge v0 v62 v63 v66 v67 v70 v71 T R i j k) := by
  subst hik
  obtain ⟨rfl, rfl⟩ : a = y ∧ ab = yb := by
    rw [hR] at hS; simpa using hS
  have hdk : decide (i = i) = true := decide_eq_true rfl
  have hSj : (0 : Nat) = 0 := rfl
  have hI' : ((i : Int) < (T.length : Int)) = True := eq_true (by omega)
  have hK' : ((i : Int) < (T.length : Int)) = True := eq_true (by omega)
  have hJ' : ((j : Int) < (R.length : Int)) = True := eq_true (by omega)
  have hL' : ((i : Int) < (R.length : Int)) = True := eq_true (by omega)
  refine AW_regG (ge ⟨v0, v62, v63, v66, v67, v70, v71, T, R, i, j, i, a, x, a, u, p, ab, xb, ab, v, q⟩) geM geG (by kernel_rfl) (by kernel_rfl) (Both.mk ?_ ?_)
  · unfold inge
    (repeat' (first | refine Both.mk ?_ ?_ | ((first | refine aw ?_ | refine aD ?_ | refine aX ?_ | refine cT ?_ | refine cF ?_ | refine cR (g1 ..) ?_ | refine cG (g1 ..) ?_ | refine cR (g2 ..) ?_ | refine cG (g2 ..) ?_); try simp (disch := omega) only [go_sem, seval, reduceCtorEq, hR, hX, hdk, hI', hK', hJ', hL', Int.toNat_natCast, List.length_set]) | refine aI (fun hc => ?_) fun hc => ?_ | simp (disch := omega) only [go_sem, seval, reduceCtorEq, hR, hX, hdk, hI', hK', hJ', hL', Int.toNat_natCast, List.length_set] | refine aO ?_ | refine aC ?_ ?_ | refine aC' ?_ ?_ | refine aA ?_ ?_ | fail))
    all_goals first | omega | skip
  · unfold ge
    (repeat' (first | refine Both.mk ?_ ?_ | ((first | refine aw ?_ | refine aD ?_ | refine aX ?_ | refine cT ?_ | refine cF ?_ | refine cR (g1 ..) ?_ | refine cG (g1 ..) ?_ | refine cR (g2 ..) ?_ | refine cG (g2 ..) ?_); try simp (disch := omega) only [go_sem, seval, reduceCtorEq, inge, knotsP_nil, knotsP_cons, hR, hX, hdk, hI', hK', hJ', hL', Int.toNat_natCast, List.length_set]) | refine aI (fun hc => ?_) fun hc => ?_ | simp (disch := omega) only [go_sem, seval, reduceCtorEq, inge, knotsP_nil, knotsP_cons, hR, hX, hdk, hI', hK', hJ', hL', Int.toNat_natCast, List.length_set] | refine aO ?_ | refine aC ?_ ?_ | refine aC' ?_ ?_ | refine aA ?_ ?_ | fail))
    all_goals first | omega | skip
end Go.Proofs.Ytdmngdphgnnoiaa

open Go Go.AL Go.RowKit
namespace Go.Proofs.Ytdmngdphgnnoiaa
set_option maxRecDepth 20000
theorem h29_7 {Q : Exit → St → Prop} {σ : St} (h : Hold (AW Try.prog c29_7 Q σ)) : AW Try.prog c29_7 Q σ := h.out
theorem h29_12 {Q : Exit → St → Prop} {σ : St} (h : Hold (AW Try.prog c29_12 Q σ)) : AW Try.prog c29_12 Q σ := h.out
theorem h29_23 {Q : Exit → St → Prop} {σ : St} (h : Hold (AW Try.prog c29_23 Q σ)) : AW Try.prog c29_23 Q σ := h.out
theorem h29_45 {Q : Exit → St → Prop} {σ : St} (h : Hold (AW Try.prog c29_45 Q σ)) : AW Try.prog c29_45 Q σ := h.out
theorem h29_57 {Q : Exit → St → Prop} {σ : St} (h : Hold (AW Try.prog c29_57 Q σ)) : AW Try.prog c29_57 Q σ := h.out
theorem h29_68 {Q : Exit → St → Prop} {σ : St} (h : Hold (AW Try.prog c29_68 Q σ)) : AW Try.prog c29_68 Q σ := h.out
theorem h29_75 {Q : Exit → St → Prop} {σ : St} (h : Hold (AW Try.prog c29_75 Q σ)) : AW Try.prog c29_75 Q σ := h.out
theorem h29_92 {Q : Exit → St → Prop} {σ : St} (h : Hold (AW Try.prog c29_92 Q σ)) : AW Try.prog c29_92 Q σ := h.out
theorem h29_18 {Q : Exit → St → Prop} {σ : St} (h : Hold (AW Try.prog c29_18 Q σ)) : AW Try.prog c29_18 Q σ := h.out
theorem h29_32 {Q : Exit → St → Prop} {σ : St} (h : Hold (AW Try.prog c29_32 Q σ)) : AW Try.prog c29_32 Q σ := h.out
def sL (n : Nat) (b : List Bd) (m : Mo) : St := ⟨121, [(0, .I (n : Int)), (1, .c (Bds b)), (6, .own 15)], [(15, .rows 77 76 2 (tabL n m) none none)]⟩
def sM (n : Nat) (m : Mo) : St := ⟨121, [(0, .I (n : Int)), (6, .own 15)], [(15, .rows 77 76 2 (tabL n m) none none)]⟩
def rowsJ (n i : Nat) : List (List (List CD)) := (List.range n).map fun a => if a < i then rowL n baseO a else []
theorem rowsJ_len (n i : Nat) : (rowsJ n i).length = n := by simp [rowsJ]
theorem rowsJ_set (n i : Nat) : (rowsJ n i).set i (rowL n baseO i) = rowsJ n (i + 1) := by
  unfold rowsJ
  rw [map_range_set]
  refine List.map_congr_left fun a _ => ?_
  by_cases h : a = i
  · rw [if_pos h, if_pos (by omega), h]
  · rw [if_neg h]
    by_cases h2 : a < i
    · rw [if_pos h2, if_pos (by omega)]
    · rw [if_neg h2, if_neg (by omega)]
theorem rowsJ_all (n : Nat) : rowsJ n n = tabL n baseO := List.map_congr_left fun a ha => if_pos (List.mem_range.1 ha)
theorem repL_set (n i : Nat) : (List.replicate n [CD.sc (.int .i64 0), CD.sc (.bool false)]).set i [CD.sc (.int .i64 0), CD.sc (.bool true)] = rowL n baseO i := by
  have : List.replicate n [CD.sc (.int .i64 0), CD.sc (.bool false)] = (List.range n).map fun _ => [CD.sc (.int .i64 0), CD.sc (.bool false)] := by
    apply List.ext_getElem <;> simp
  rw [this, map_range_set]
  unfold rowL baseO
  refine List.map_congr_left fun b _ => ?_
  by_cases h : b = i
  · rw [if_pos h, if_pos h.symm]; rfl
  · rw [if_neg h, if_neg fun h' => h h'.symm]; rfl
set_option maxHeartbeats 4000000 in
theorem l18 (n : Nat) (b : List Bd) (hn : 1 ≤ n ∧ n ≤ 16) : AW Try.prog c29_18 (cutQ (sL n b baseO)) ⟨121, [(0, .I (n : Int)), (1, .c (Bds b)), (6, .own 15)], [(15, .arr 77 1 (List.replicate n [.nil]))]⟩ := by
  refine AW_toRows 15 76 2 (by rfl) (fun y hy => (List.mem_replicate.1 hy).2) ?_
  have hz : (List.replicate n [CD.nil]).map (fun _ => ([] : List (List CD))) = rowsJ n 0 := by
    unfold rowsJ
    apply List.ext_getElem <;> simp
  rw [hz]
  have hl0 := rowsJ_len n 0
  (repeat' (first | refine Both.mk ?_ ?_ | ((first | refine aw ?_ | refine aD ?_ | refine aX ?_ | refine cT ?_ | refine cF ?_); try simp (disch := omega) only [go_sem, seval, reduceCtorEq, hl0]) | refine aI (fun hc => ?_) fun hc => ?_ | simp (disch := omega) only [go_sem, seval, reduceCtorEq, hl0] | refine aO ?_ | refine aA ?_ ?_ | fail))
  refine AW_loopK [0, 1, 6, 17] [7, 18, 19, 20, 21, 22, 23, 24, 25, 26, 27, 28, 29, 30, 31, 32, 33] (fun i : Nat => i ≤ n) (fun i => [(6, .own 15), (18, .I i)]) (fun i => [(15, .rows 77 76 2 (rowsJ n i) none none)]) (fun i => n - i) 0 (by omega) ?_ ?_
  · simp (disch := omega) only [go_sem, seval, reduceCtorEq, Int.natCast_zero]
  · intro i hi
    have hli := rowsJ_len n i
    rcases Nat.lt_or_ge i n with hin | hin
    · have hkk : ((i : Int) < (n : Int)) = True := eq_true (by omega)
      have hrl : (List.replicate n [CD.sc (.int .i64 0), CD.sc (.bool false)]).length = n := by simp
      have hset := rowsJ_set n i
      have hrs := repL_set n i
      have hgr : (List.replicate n [CD.sc (.int .i64 0), CD.sc (.bool false)]).getD i [] = [CD.sc (.int .i64 0), CD.sc (.bool false)] := by
        rw [List.getD_eq_getElem?_getD, List.getElem?_eq_getElem (by simpa using hin)]; simp
      (repeat' (first | (with_reducible refine h29_7 ?_) | refine Both.mk ?_ ?_ | ((first | refine aw ?_ | refine aD ?_ | refine aX ?_ | refine cT ?_ | refine cF ?_); try simp (disch := omega) only [go_sem, seval, reduceCtorEq, hkk, hli]) | refine aI (fun hc => ?_) fun hc => ?_ | simp (disch := omega) only [go_sem, seval, reduceCtorEq, hkk, hli] | refine aO ?_ | refine aA ?_ ?_ | fail))
      refine ⟨AW_out 15 901 i (by rfl) (by omega) ?_⟩
      (repeat' (first | (with_reducible refine h29_12 ?_) | refine Both.mk ?_ ?_ | ((first | refine aw ?_ | refine aD ?_ | refine aX ?_ | refine cT ?_ | refine cF ?_); try simp (disch := omega) only [go_sem, seval, reduceCtorEq, hkk, hli, hrl, hgr, hrs, maxLen, Int.toNat_natCast]) | refine aI (fun hc => ?_) fun hc => ?_ | simp (disch := omega) only [go_sem, seval, reduceCtorEq, hkk, hli, hrl, hgr, hrs, maxLen, Int.toNat_natCast] | refine aO ?_ | refine aA ?_ ?_ | fail))
      all_goals first | omega | skip
      refine ⟨AW_inn 15 24 i (by rfl) (by rfl) ?_⟩
      simp (disch := omega) only [go_sem, seval, reduceCtorEq, hset]
      (repeat' (first | refine Both.mk ?_ ?_ | ((first | refine aw ?_ | refine aD ?_ | refine aX ?_ | refine cT ?_ | refine cF ?_); try simp (disch := omega) only [go_sem, seval, reduceCtorEq]) | refine aI (fun hc => ?_) fun hc => ?_ | simp (disch := omega) only [go_sem, seval, reduceCtorEq] | refine aO ?_ | refine aA ?_ ?_ | fail))
      refine .mk (i + 1) (by omega) (by omega) ?_
      simp (disch := omega) only [go_sem, seval, reduceCtorEq, Int.natCast_add, Int.natCast_one]
    · obtain rfl : i = n := by omega
      have hkk : ((i : Int) < (i : Int)) = False := eq_false (by omega)
      rw [rowsJ_all]
      (repeat' (first | refine Both.mk ?_ ?_ | ((first | refine aw ?_ | refine aD ?_ | refine aX ?_ | refine cT ?_ | refine cF ?_); try simp (disch := omega) only [go_sem, seval, reduceCtorEq, hkk, hli, sL]) | refine aI (fun hc => ?_) fun hc => ?_ | simp (disch := omega) only [go_sem, seval, reduceCtorEq, hkk, hli, sL] | refine aO ?_ | refine aA ?_ ?_ | fail))
theorem limSetO (n : Nat) (m : Mo) (i j : Nat) (v : Option Int) : (tabL n m).set i (rowL n (updO m i j v) i) = tabL n (updO m i j v) := tabL_set fun a b h => updO_ne h
set_option maxHeartbeats 4000000 in
theorem l32 (n : Nat) (b : List Bd) (hb : Rgt n b) (hl : b.length ≤ 1000) : AW Try.prog c29_32 (cutQ (sM n (inO b))) (sL n b baseO) := by
  unfold sL
  (repeat' (first | refine Both.mk ?_ ?_ | ((first | refine aw ?_ | refine aD ?_ | refine aX ?_ | refine cT ?_ | refine cF ?_); try simp (disch := omega) only [go_sem, seval, reduceCtorEq, List.length_map]) | refine aI (fun hc => ?_) fun hc => ?_ | simp (disch := omega) only [go_sem, seval, reduceCtorEq, List.length_map] | refine aO ?_ | refine aA ?_ ?_ | fail))
  refine AW_loopK [0, 6, 34, 35] [9, 36, 37, 38, 39, 40, 41, 42, 43, 44, 45, 46, 47, 48, 49, 50, 51, 52, 53, 54, 55, 56, 57, 58, 59, 60, 61] (fun i : Nat => i ≤ b.length) (fun i => [(6, .own 15), (36, .I i)]) (fun i => [(15, .rows 77 76 2 (tabL n (inO (b.take i))) none none)]) (fun i => b.length - i) 0 (by omega) ?_ ?_
  · have : inO (b.take 0) = baseO := rfl
    rw [this]
    simp (disch := omega) only [go_sem, seval, reduceCtorEq, Int.natCast_zero]
  · intro i hi
    rcases Nat.lt_or_ge i b.length with hil | hil
    · have hkk : ((i : Int) < (b.length : Int)) = True := eq_true (by omega)
      have hge := getD_map bdc b i [] hil
      obtain ⟨b1, b2, -⟩ := hb i hil
      have e1 : inO (b.take (i + 1)) = updO (inO (b.take i)) (nth b i).i (nth b i).j (lessO (inO (b.take i) (nth b i).i (nth b i).j) (some (nth b i).c)) := by
        unfold inO
        rw [List.take_succ_eq_append_getElem hil, List.foldl_append, nth_eq b i hil]; rfl
      generalize inO (b.take i) = m at *
      have g := x44 (m (nth b i).i (nth b i).j) (some (nth b i).c)
      have hs := limSetO n m (nth b i).i (nth b i).j (lessO (m (nth b i).i (nth b i).j) (some (nth b i).c))
      have hrs := rowL_set n m (nth b i).i (nth b i).j (lessO (m (nth b i).i (nth b i).j) (some (nth b i).c))
      have t1 := tabL_get (n := n) m b1
      have r1 := rowL_get m (nth b i).i b2
      rw [← e1] at hs hrs
      generalize hI : (nth b i).i = I at *
      generalize hJ : (nth b i).j = J at *
      generalize hC : (nth b i).c = C at *
      generalize lessO (m I J) (some C) = L at *
      generalize m I J = A at *
      (repeat' (first | (with_reducible refine h29_23 ?_) | refine Both.mk ?_ ?_ | ((first | refine aw ?_ | refine aD ?_ | refine aX ?_ | refine cT ?_ | refine cF ?_); try simp (disch := omega) only [go_sem, seval, reduceCtorEq, hkk, hge, bdc, hI, hJ, hC, Int.toNat_natCast, List.length_map]) | refine aI (fun hc => ?_) fun hc => ?_ | simp (disch := omega) only [go_sem, seval, reduceCtorEq, hkk, hge, bdc, hI, hJ, hC, Int.toNat_natCast, List.length_map] | refine aO ?_ | refine aA ?_ ?_ | fail))
      refine ⟨AW_out 15 901 I (by rfl) (by rw [tabL_len]; omega) ?_⟩
      refine AW_cut _ _ (r29 (.I (n : Int)) (.c (Bds b)) (.I (b.length : Int)) (.I (i : Int)) (tabL n m) (rowL n m I) I J C (A.getD 0) (L.getD 0) A.isSome L.isSome (by rw [tabL_len]; omega) (by rw [rowL_len]; omega) r1 g) ?_ ?_
      · unfold in29
        simp (disch := omega) only [go_sem, seval, reduceCtorEq, t1]
      unfold in29
      simp (disch := omega) only [go_sem, seval, reduceCtorEq]
      refine AW_inn 15 901 I (by rfl) (by rfl) ?_
      simp (disch := omega) only [go_sem, seval, reduceCtorEq, hrs, hs]
      (repeat' (first | refine Both.mk ?_ ?_ | ((first | refine aw ?_ | refine aD ?_ | refine aX ?_ | refine cT ?_ | refine cF ?_); try simp (disch := omega) only [go_sem, seval, reduceCtorEq]) | refine aI (fun hc => ?_) fun hc => ?_ | simp (disch := omega) only [go_sem, seval, reduceCtorEq] | refine aO ?_ | refine aA ?_ ?_ | fail))
      refine .mk (i + 1) (by omega) (by omega) ?_
      simp (disch := omega) only [go_sem, seval, reduceCtorEq, Int.natCast_add, Int.natCast_one]
    · obtain rfl : i = b.length := by omega
      have hkk : ((b.length : Int) < (b.length : Int)) = False := eq_false (by omega)
      rw [List.take_length]
      (repeat' (first | refine Both.mk ?_ ?_ | ((first | refine aw ?_ | refine aD ?_ | refine aX ?_ | refine cT ?_ | refine cF ?_); try simp (disch := omega) only [go_sem, seval, reduceCtorEq, hkk, sM]) | refine aI (fun hc => ?_) fun hc => ?_ | simp (disch := omega) only [go_sem, seval, reduceCtorEq, hkk, sM] | refine aO ?_ | refine aA ?_ ?_ | fail))
end Go.Proofs.Ytdmngdphgnnoiaa

open Go Go.AL Go.RowKit
namespace Go.Proofs.Ytdmngdphgnnoiaa
set_option maxRecDepth 20000
theorem midO_ne (n : Nat) (m : Mo) (k i : Nat) {a : Nat} (h : a ≠ i) (b : Nat) : ∀ j, midO n m k i j a b = midO n m k i 0 a b
  | 0 => rfl
  | j + 1 => by
    rw [midO_j, ← midO_ne n m k i h b j]
    exact updO_ne h
theorem tabO_out (n : Nat) (m : Mo) (k i : Nat) : (tabL n (midO n m k i 0)).set i (rowL n (midO n m k i n) i) = tabL n (midO n m k (i + 1) 0) := by
  rw [midO_i]
  exact tabL_set fun a b h => midO_ne n m k i h b n
theorem tabO_same {n : Nat} {m : Mo} {k : Nat} : (tabL n m).set k (rowL n m k) = tabL n m := tabL_set fun _ _ _ => rfl
def TO (n : Nat) (m : Mo) : List (List CD) := (tabL n m).map fun xs => [CD.sl 2 xs]
theorem TO_eq (n : Nat) (m : Mo) : rowsCD 2 (tabL n m) = .sl 1 (TO n m) := rfl
theorem TO_get {n : Nat} (m : Mo) {i : Nat} (h : i < n) : (TO n m).getD i [] = [.sl 2 (rowL n m i)] := by
  unfold TO
  rw [List.getD_eq_getElem?_getD, List.getElem?_eq_getElem (by rw [List.length_map, tabL_len]; exact h)]
  simp [tabL]
theorem TO_len (n : Nat) (m : Mo) : (TO n m).length = n := by simp [TO, tabL_len]
def resL (n : Nat) (m : Mo) : List RV := if okL n m then [.c (.sl 1 (TO n (rndO n m n))), .c (.B true)] else [.c .nil, .c (.B false)]
set_option maxHeartbeats 16000000 in
theorem x29 (n : Nat) (hn : 1 ≤ n ∧ n ≤ 16) (b : List Bd) (hl : b.length ≤ 1000) (hb : Rgt n b) : FnR Try.prog 29 [.I (n : Int), .c (Bds b)] (resL n (inO b)) := by
  have q1 := l18 n b hn
  have q2 := l32 n b hb hl
  have hmem : ∀ e ∈ b, rgt n e := fun e he => by
    obtain ⟨i, hi, rfl⟩ := List.getElem_of_mem he
    rw [← nth_eq b i hi]; exact hb i hi
  have hdg : DgO n (inO b) := fun a _ => inO_diag (fun e he => (hmem e he).2.2.1) a
  have hbd : BdO (bdB 0) (inO b) := inO_bd fun e he => (hmem e he).2.2.2
  generalize inO b = m at *
  have inv := fun k hk ho => lim_inv hdg hbd k hk ho
  refine fn_walk code29 (by simp) ?_
  (repeat' (first | (with_reducible refine h29_18 ?_) | refine Both.mk ?_ ?_ | ((first | refine aw ?_ | refine aD ?_ | refine aX ?_ | refine cT ?_ | refine cF ?_); try simp (disch := omega) only [go_sem, seval, reduceCtorEq, maxLen]) | refine aI (fun hc => ?_) fun hc => ?_ | simp (disch := omega) only [go_sem, seval, reduceCtorEq, maxLen] | refine aO ?_ | refine aA ?_ ?_ | fail))
  all_goals first | omega | skip
  refine ⟨AW_cut _ _ q1 ?_ ?_⟩
  · simp (disch := omega) only [go_sem, seval, reduceCtorEq]
  unfold sL
  (repeat' (first | (with_reducible refine h29_32 ?_) | refine Both.mk ?_ ?_ | ((first | refine aw ?_ | refine aD ?_ | refine aX ?_ | refine cT ?_ | refine cF ?_); try simp (disch := omega) only [go_sem, seval, reduceCtorEq]) | refine aI (fun hc => ?_) fun hc => ?_ | simp (disch := omega) only [go_sem, seval, reduceCtorEq] | refine aO ?_ | refine aA ?_ ?_ | fail))
  refine ⟨AW_cut _ _ q2 ?_ ?_⟩
  · unfold sL
    simp (disch := omega) only [go_sem, seval, reduceCtorEq]
  unfold sM
  (repeat' (first | refine Both.mk ?_ ?_ | ((first | refine aw ?_ | refine aD ?_ | refine aX ?_ | refine cT ?_ | refine cF ?_); try simp (disch := omega) only [go_sem, seval, reduceCtorEq]) | refine aI (fun hc => ?_) fun hc => ?_ | simp (disch := omega) only [go_sem, seval, reduceCtorEq] | refine aO ?_ | refine aA ?_ ?_ | fail))
  refine AW_loopK [0, 6, 62] [4, 5, 10, 11, 12, 13, 63, 64, 65, 66, 67, 68, 69, 70, 71, 72, 73, 74, 75, 76, 77, 78, 79, 80, 81, 82, 83, 84, 85, 86, 87, 88, 89, 90, 91, 92, 93, 94, 95, 96, 97, 98, 99, 100, 101, 102, 103, 104, 105, 106, 107, 108, 109, 110, 111, 112, 113, 114, 115, 116, 117, 118, 119] (fun k : Nat => k ≤ n ∧ ∀ k', k' < k → okR n m k' = true) (fun k => [(6, .own 15), (63, .I k)]) (fun k => [(15, .rows 77 76 2 (tabL n (midO n m k 0 0)) none none)]) (fun k => n - k) 0 ⟨by omega, fun k hk => by omega⟩ ?_ ?_
  · have : midO n m 0 0 0 = m := rfl
    rw [this]
    simp (disch := omega) only [go_sem, seval, reduceCtorEq, Int.natCast_zero]
  · intro k hk
    obtain ⟨hk, hR⟩ := hk
    obtain ⟨hD, hB⟩ := inv k hk hR
    rcases Nat.lt_or_ge k n with hkn | hkn
    · have hkk : ((k : Int) < (n : Int)) = True := eq_true (by omega)
      have hMk := hD k hkn
      (repeat' (first | refine Both.mk ?_ ?_ | ((first | refine aw ?_ | refine aD ?_ | refine aX ?_ | refine cT ?_ | refine cF ?_); try simp (disch := omega) only [go_sem, seval, reduceCtorEq, hkk]) | refine aI (fun hc => ?_) fun hc => ?_ | simp (disch := omega) only [go_sem, seval, reduceCtorEq, hkk] | refine aO ?_ | refine aA ?_ ?_ | fail))
      refine AW_loopK [0, 6, 10, 62, 63, 66] [11, 12, 67, 68, 69, 70, 71, 72, 73, 74, 75, 76, 77, 78, 79, 80, 81, 82, 83, 84, 85, 86, 87, 88, 89, 90, 91, 92, 93, 94, 95, 96, 97, 98, 99, 100, 101, 102, 103, 104] (fun i : Nat => i ≤ n) (fun i => [(6, .own 15), (67, .I i)]) (fun i => [(15, .rows 77 76 2 (tabL n (midO n m k i 0)) none none)]) (fun i => n - i) 0 (by omega) ?_ ?_
      · simp (disch := omega) only [go_sem, seval, reduceCtorEq, Int.natCast_zero]
      · intro i hi
        rcases Nat.lt_or_ge i n with hin | hin
        · have hki : ((i : Int) < (n : Int)) = True := eq_true (by omega)
          have t1 := tabL_get (n := n) (midO n m k i 0) hin
          have s1 := tabO_out n m k i
          (repeat' (first | refine Both.mk ?_ ?_ | ((first | refine aw ?_ | refine aD ?_ | refine aX ?_ | refine cT ?_ | refine cF ?_); try simp (disch := omega) only [go_sem, seval, reduceCtorEq, hki]) | refine aI (fun hc => ?_) fun hc => ?_ | simp (disch := omega) only [go_sem, seval, reduceCtorEq, hki] | refine aO ?_ | refine aA ?_ ?_ | fail))
          refine AW_out 15 901 i (by rfl) (by rw [tabL_len]; omega) ?_
          by_cases hik : i = k
          · subst hik
            refine AW_loopK [0, 6, 10, 11, 62, 63, 66, 67, 70] [12, 71, 72, 73, 74, 75, 76, 77, 78, 79, 80, 81, 82, 83, 84, 85, 86, 87, 88, 89, 90, 91, 92, 93, 94, 95, 96, 97, 98, 99, 100, 101, 102, 103] (fun j : Nat => j ≤ n) (fun j => [(6, .own 15), (71, .I j)]) (fun j => [(15, .rows 77 76 2 (tabL n (midO n m i i 0)) (some i) (some 901)), (901, .arr 76 2 (rowL n (midO n m i i j) i))]) (fun j => n - j) 0 (by omega) ?_ ?_
            · simp (disch := omega) only [go_sem, seval, reduceCtorEq, Int.natCast_zero, t1]
            · intro j hj
              rcases Nat.lt_or_ge j n with hjn | hjn
              · have hkj : ((j : Int) < (n : Int)) = True := eq_true (by omega)
                have ge1 := rowL_get (midO n m i i j) i hin
                have ge2 := rowL_get (midO n m i i j) i hjn
                have hl1 := rowL_len n (midO n m i i j) i
                have hc1 := midO_col hMk i j i
                have hc2 := midO_row hMk i j j
                have g1 := x45 (midO n m i i j i i) (midO n m i i j i j) (fun x y hx hy => by
                  rw [hc1] at hx
                  rw [hc2] at hy
                  have := hB _ _ x hx
                  have := hB _ _ y hy
                  have := bdB_le i (by omega)
                  omega)
                have g2 := x44 (midO n m i i j i j) (plusO (midO n m i i j i i) (midO n m i i j i j))
                have hrs := rowL_set n (midO n m i i j) i j (lessO (midO n m i i j i j) (plusO (midO n m i i j i i) (midO n m i i j i j)))
                have hst : updO (midO n m i i j) i j (lessO (midO n m i i j i j) (plusO (midO n m i i j i i) (midO n m i i j i j))) = midO n m i i (j + 1) := by rw [midO_j]; rfl
                rw [hst] at hrs
                have q3 := rge (.I (n : Int)) (.I (n : Int)) (.I (i : Int)) (.I (n : Int)) (.I (i : Int)) (.I (n : Int)) (.I (j : Int)) (tabL n (midO n m i i 0)) (rowL n (midO n m i i j) i) i j i _ _ _ _ _ _ _ _ _ _ (by rw [tabL_len]; omega) (by rw [tabL_len]; omega) (by rw [hl1]; omega) (by rw [hl1]; omega) ge2 ge1 ge2 rfl g1 g2
                rw [hrs] at q3
                (repeat' (first | (with_reducible refine h29_45 ?_) | refine Both.mk ?_ ?_ | ((first | refine aw ?_ | refine aD ?_ | refine aX ?_ | refine cT ?_ | refine cF ?_); try simp (disch := omega) only [go_sem, seval, reduceCtorEq, hkj]) | refine aI (fun hc => ?_) fun hc => ?_ | simp (disch := omega) only [go_sem, seval, reduceCtorEq, hkj] | refine aO ?_ | refine aA ?_ ?_ | fail))
                refine ⟨AW_cut _ _ q3 ?_ ?_⟩
                · unfold inge
                  simp (disch := omega) only [go_sem, seval, reduceCtorEq]
                unfold inge
                (repeat' (first | refine Both.mk ?_ ?_ | ((first | refine aw ?_ | refine aD ?_ | refine aX ?_ | refine cT ?_ | refine cF ?_); try simp (disch := omega) only [go_sem, seval, reduceCtorEq]) | refine aI (fun hc => ?_) fun hc => ?_ | simp (disch := omega) only [go_sem, seval, reduceCtorEq] | refine aO ?_ | refine aA ?_ ?_ | fail))
                refine .mk (j + 1) (by omega) (by omega) ?_
                simp (disch := omega) only [go_sem, seval, reduceCtorEq, Int.natCast_add, Int.natCast_one]
              · obtain rfl : j = n := by omega
                have hkj : ((j : Int) < (j : Int)) = False := eq_false (by omega)
                (repeat' (first | (with_reducible refine h29_57 ?_) | refine Both.mk ?_ ?_ | ((first | refine aw ?_ | refine aD ?_ | refine aX ?_ | refine cT ?_ | refine cF ?_); try simp (disch := omega) only [go_sem, seval, reduceCtorEq, hkj]) | refine aI (fun hc => ?_) fun hc => ?_ | simp (disch := omega) only [go_sem, seval, reduceCtorEq, hkj] | refine aO ?_ | refine aA ?_ ?_ | fail))
                refine ⟨AW_inn 15 901 i (by rfl) (by rfl) ?_⟩
                simp (disch := omega) only [go_sem, seval, reduceCtorEq, s1]
                (repeat' (first | refine Both.mk ?_ ?_ | ((first | refine aw ?_ | refine aD ?_ | refine aX ?_ | refine cT ?_ | refine cF ?_); try simp (disch := omega) only [go_sem, seval, reduceCtorEq]) | refine aI (fun hc => ?_) fun hc => ?_ | simp (disch := omega) only [go_sem, seval, reduceCtorEq] | refine aO ?_ | refine aA ?_ ?_ | fail))
                refine .mk (i + 1) (by omega) (by omega) ?_
                simp (disch := omega) only [go_sem, seval, reduceCtorEq, Int.natCast_add, Int.natCast_one]
          · have t2 := tabL_get (n := n) (midO n m k i 0) hkn
            have s2 := tabO_same (n := n) (m := midO n m k i 0) (k := k)
            simp (disch := omega) only [go_sem, seval, reduceCtorEq]
            refine AW_out2 15 901 902 i k (by rfl) (by rw [tabL_len]; omega) hik ?_
            refine AW_loopK [0, 6, 10, 11, 62, 63, 66, 67, 70] [12, 71, 72, 73, 74, 75, 76, 77, 78, 79, 80, 81, 82, 83, 84, 85, 86, 87, 88, 89, 90, 91, 92, 93, 94, 95, 96, 97, 98, 99, 100, 101, 102, 103] (fun j : Nat => j ≤ n) (fun j => [(6, .own 15), (71, .I j)]) (fun j => [(15, .rows2 77 76 2 (tabL n (midO n m k i 0)) i k (some 901) (some 902)), (901, .arr 76 2 (rowL n (midO n m k i j) i)), (902, .arr 76 2 (rowL n (midO n m k i 0) k))]) (fun j => n - j) 0 (by omega) ?_ ?_
            · simp (disch := omega) only [go_sem, seval, reduceCtorEq, Int.natCast_zero, t1, t2]
            · intro j hj
              rcases Nat.lt_or_ge j n with hjn | hjn
              · have hkj : ((j : Int) < (n : Int)) = True := eq_true (by omega)
                have hne := midO_ne n m k i (a := k) (fun h => hik h.symm) j j
                have ge1 := rowL_get (midO n m k i j) i hkn
                have ge2 := rowL_get (midO n m k i j) i hjn
                have ge3 := rowL_get (midO n m k i 0) k hjn
                have hl1 := rowL_len n (midO n m k i j) i
                have hl2 := rowL_len n (midO n m k i 0) k
                have hc1 := midO_col hMk i j i
                have hc2 := midO_row hMk i 0 j
                have g1 := x45 (midO n m k i j i k) (midO n m k i 0 k j) (fun x y hx hy => by
                  rw [hc1] at hx
                  rw [hc2] at hy
                  have := hB _ _ x hx
                  have := hB _ _ y hy
                  have := bdB_le k (by omega)
                  omega)
                have g2 := x44 (midO n m k i j i j) (plusO (midO n m k i j i k) (midO n m k i 0 k j))
                have hrs := rowL_set n (midO n m k i j) i j (lessO (midO n m k i j i j) (plusO (midO n m k i j i k) (midO n m k i 0 k j)))
                have hst : updO (midO n m k i j) i j (lessO (midO n m k i j i j) (plusO (midO n m k i j i k) (midO n m k i 0 k j))) = midO n m k i (j + 1) := by rw [midO_j, ← hne]; rfl
                rw [hst] at hrs
                have q3 := rgd (.I (n : Int)) (.I (n : Int)) (.I (k : Int)) (.I (n : Int)) (.I (i : Int)) (.I (n : Int)) (.I (j : Int)) (tabL n (midO n m k i 0)) (rowL n (midO n m k i j) i) (rowL n (midO n m k i 0) k) i j k _ _ _ _ _ _ _ _ _ _ (by rw [tabL_len]; omega) (by rw [tabL_len]; omega) (by rw [hl1]; omega) (by rw [hl1]; omega) ge2 ge1 ge3 (by rw [hl2]; omega) hik g1 g2
                rw [hrs] at q3
                (repeat' (first | (with_reducible refine h29_45 ?_) | refine Both.mk ?_ ?_ | ((first | refine aw ?_ | refine aD ?_ | refine aX ?_ | refine cT ?_ | refine cF ?_); try simp (disch := omega) only [go_sem, seval, reduceCtorEq, hkj]) | refine aI (fun hc => ?_) fun hc => ?_ | simp (disch := omega) only [go_sem, seval, reduceCtorEq, hkj] | refine aO ?_ | refine aA ?_ ?_ | fail))
                refine ⟨AW_cut _ _ q3 ?_ ?_⟩
                · unfold ingd
                  simp (disch := omega) only [go_sem, seval, reduceCtorEq]
                unfold ingd
                (repeat' (first | refine Both.mk ?_ ?_ | ((first | refine aw ?_ | refine aD ?_ | refine aX ?_ | refine cT ?_ | refine cF ?_); try simp (disch := omega) only [go_sem, seval, reduceCtorEq]) | refine aI (fun hc => ?_) fun hc => ?_ | simp (disch := omega) only [go_sem, seval, reduceCtorEq] | refine aO ?_ | refine aA ?_ ?_ | fail))
                refine .mk (j + 1) (by omega) (by omega) ?_
                simp (disch := omega) only [go_sem, seval, reduceCtorEq, Int.natCast_add, Int.natCast_one]
              · obtain rfl : j = n := by omega
                have hkj : ((j : Int) < (j : Int)) = False := eq_false (by omega)
                (repeat' (first | (with_reducible refine h29_57 ?_) | refine Both.mk ?_ ?_ | ((first | refine aw ?_ | refine aD ?_ | refine aX ?_ | refine cT ?_ | refine cF ?_); try simp (disch := omega) only [go_sem, seval, reduceCtorEq, hkj]) | refine aI (fun hc => ?_) fun hc => ?_ | simp (disch := omega) only [go_sem, seval, reduceCtorEq, hkj] | refine aO ?_ | refine aA ?_ ?_ | fail))
                refine ⟨AW_inn2 15 901 902 i k (by rfl) (by rfl) ?_⟩
                simp (disch := omega) only [go_sem, seval, reduceCtorEq, s2]
                refine AW_inn 15 901 i (by rfl) (by rfl) ?_
                simp (disch := omega) only [go_sem, seval, reduceCtorEq, s1]
                (repeat' (first | refine Both.mk ?_ ?_ | ((first | refine aw ?_ | refine aD ?_ | refine aX ?_ | refine cT ?_ | refine cF ?_); try simp (disch := omega) only [go_sem, seval, reduceCtorEq]) | refine aI (fun hc => ?_) fun hc => ?_ | simp (disch := omega) only [go_sem, seval, reduceCtorEq] | refine aO ?_ | refine aA ?_ ?_ | fail))
                refine .mk (i + 1) (by omega) (by omega) ?_
                simp (disch := omega) only [go_sem, seval, reduceCtorEq, Int.natCast_add, Int.natCast_one]
        · obtain rfl : i = n := by omega
          have hki : ((i : Int) < (i : Int)) = False := eq_false (by omega)
          have e := midO_k i m k
          (repeat' (first | refine Both.mk ?_ ?_ | ((first | refine aw ?_ | refine aD ?_ | refine aX ?_ | refine cT ?_ | refine cF ?_); try simp (disch := omega) only [go_sem, seval, reduceCtorEq, hki]) | refine aI (fun hc => ?_) fun hc => ?_ | simp (disch := omega) only [go_sem, seval, reduceCtorEq, hki] | refine aO ?_ | refine aA ?_ ?_ | fail))
          rw [← e, midO_0]
          refine AW_loopK [0, 6, 62, 63, 105] [4, 5, 13, 106, 107, 108, 109, 110, 111, 112, 113, 114, 115, 116, 117, 118] (fun a : Nat => a ≤ i ∧ ∀ a', a' < a → 0 ≤ (rndO i m (k + 1) a' a').getD 0) (fun a => [(6, .own 15), (106, .I a)]) (fun a => [(15, .rows 77 76 2 (tabL i (rndO i m (k + 1))) none none)]) (fun a => i - a) 0 ⟨by omega, fun a ha => by omega⟩ ?_ ?_
          · simp (disch := omega) only [go_sem, seval, reduceCtorEq, Int.natCast_zero]
          · intro a ha
            obtain ⟨ha, hA⟩ := ha
            rcases Nat.lt_or_ge a i with hai | hai
            · have hka : ((a : Int) < (i : Int)) = True := eq_true (by omega)
              have t3 := tabL_get (n := i) (rndO i m (k + 1)) hai
              have r3 := rowL_get (rndO i m (k + 1)) a hai
              have rl3 := rowL_len i (rndO i m (k + 1)) a
              have s3 := tabO_same (n := i) (m := rndO i m (k + 1)) (k := a)
              have tl3 := tabL_len i (rndO i m (k + 1))
              (repeat' (first | (with_reducible refine h29_68 ?_) | refine Both.mk ?_ ?_ | ((first | refine aw ?_ | refine aD ?_ | refine aX ?_ | refine cT ?_ | refine cF ?_); try simp (disch := omega) only [go_sem, seval, reduceCtorEq, hka]) | refine aI (fun hc => ?_) fun hc => ?_ | simp (disch := omega) only [go_sem, seval, reduceCtorEq, hka] | refine aO ?_ | refine aA ?_ ?_ | fail))
              refine ⟨AW_out 15 901 a (by rfl) (by rw [tabL_len]; omega) ?_⟩
              by_cases h0 : 0 ≤ (rndO i m (k + 1) a a).getD 0
              · have h1 : ((rndO i m (k + 1) a a).getD 0 < 0) = False := eq_false (by omega)
                (repeat' (first | (with_reducible refine h29_75 ?_) | refine Both.mk ?_ ?_ | ((first | refine aw ?_ | refine aD ?_ | refine aX ?_ | refine cT ?_ | refine cF ?_); try simp (disch := omega) only [go_sem, seval, reduceCtorEq, hka, t3, r3, rl3, tl3, h1, Int.toNat_natCast]) | refine aI (fun hc => ?_) fun hc => ?_ | simp (disch := omega) only [go_sem, seval, reduceCtorEq, hka, t3, r3, rl3, tl3, h1, Int.toNat_natCast] | refine aO ?_ | refine aA ?_ ?_ | fail))
                refine ⟨AW_inn 15 901 a (by rfl) (by rfl) ?_⟩
                simp (disch := omega) only [go_sem, seval, reduceCtorEq, s3]
                (repeat' (first | refine Both.mk ?_ ?_ | ((first | refine aw ?_ | refine aD ?_ | refine aX ?_ | refine cT ?_ | refine cF ?_); try simp (disch := omega) only [go_sem, seval, reduceCtorEq]) | refine aI (fun hc => ?_) fun hc => ?_ | simp (disch := omega) only [go_sem, seval, reduceCtorEq] | refine aO ?_ | refine aA ?_ ?_ | fail))
                refine .mk (a + 1) ⟨by omega, fun a' ha' => ?_⟩ (by omega) ?_
                · rcases Nat.lt_succ_iff_lt_or_eq.1 ha' with ha' | rfl
                  · exact hA a' ha'
                  · exact h0
                · simp (disch := omega) only [go_sem, seval, reduceCtorEq, Int.natCast_add, Int.natCast_one]
              · have h1 : ((rndO i m (k + 1) a a).getD 0 < 0) = True := eq_true (by omega)
                have hf : okL i m = false := all_no hkn (all_no hai (decide_eq_false h0))
                unfold resL
                rw [hf, if_neg (by decide)]
                (repeat' (first | refine Both.mk ?_ ?_ | ((first | refine aw ?_ | refine aD ?_ | refine aX ?_ | refine cT ?_ | refine cF ?_); try simp (disch := omega) only [go_sem, seval, reduceCtorEq, hka, t3, r3, rl3, tl3, h1, Int.toNat_natCast]) | refine aI (fun hc => ?_) fun hc => ?_ | simp (disch := omega) only [go_sem, seval, reduceCtorEq, hka, t3, r3, rl3, tl3, h1, Int.toNat_natCast] | refine aO ?_ | refine aA ?_ ?_ | fail))
            · obtain rfl : a = i := by omega
              have hka : ((a : Int) < (a : Int)) = False := eq_false (by omega)
              (repeat' (first | refine Both.mk ?_ ?_ | ((first | refine aw ?_ | refine aD ?_ | refine aX ?_ | refine cT ?_ | refine cF ?_); try simp (disch := omega) only [go_sem, seval, reduceCtorEq, hka]) | refine aI (fun hc => ?_) fun hc => ?_ | simp (disch := omega) only [go_sem, seval, reduceCtorEq, hka] | refine aO ?_ | refine aA ?_ ?_ | fail))
              refine .mk (k + 1) ⟨by omega, fun k' hk' => ?_⟩ (by omega) ?_
              · rcases Nat.lt_succ_iff_lt_or_eq.1 hk' with hk' | rfl
                · exact hR k' hk'
                · exact all_yes fun x hx => decide_eq_true (hA x hx)
              · simp (disch := omega) only [go_sem, seval, reduceCtorEq, midO_0, Int.natCast_add, Int.natCast_one]
    · obtain rfl : k = n := by omega
      have hkk : ((k : Int) < (k : Int)) = False := eq_false (by omega)
      have hf : okL k m = true := all_yes hR
      unfold resL
      rw [hf, if_pos rfl, midO_0]
      (repeat' (first | (with_reducible refine h29_92 ?_) | refine Both.mk ?_ ?_ | ((first | refine aw ?_ | refine aD ?_ | refine aX ?_ | refine cT ?_ | refine cF ?_); try simp (disch := omega) only [go_sem, seval, reduceCtorEq, hkk]) | refine aI (fun hc => ?_) fun hc => ?_ | simp (disch := omega) only [go_sem, seval, reduceCtorEq, hkk] | refine aO ?_ | refine aA ?_ ?_ | fail))
      refine ⟨AW_frzR 15 (by rfl) ?_⟩
      rw [TO_eq]
      simp (disch := omega) only [go_sem, seval, reduceCtorEq, St.frzR]
      (repeat' (first | refine Both.mk ?_ ?_ | ((first | refine aw ?_ | refine aD ?_ | refine aX ?_ | refine cT ?_ | refine cF ?_); try simp (disch := omega) only [go_sem, seval, reduceCtorEq]) | refine aI (fun hc => ?_) fun hc => ?_ | simp (disch := omega) only [go_sem, seval, reduceCtorEq] | refine aO ?_ | refine aA ?_ ?_ | fail))
end Go.Proofs.Ytdmngdphgnnoiaa

