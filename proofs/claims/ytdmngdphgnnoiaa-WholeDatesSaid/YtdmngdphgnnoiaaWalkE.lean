/-
  Lemmas for the proof: no statement of its own.
-/
import Derived.Test.YtdmngdphgnnoiaaAlD
import Derived.Test.YtdmngdphgnnoiaaWalkD
set_option linter.unusedVariables false
set_option linter.unusedSimpArgs false
open Go Go.AL Go.RowKit
namespace Go.Proofs.Ytdmngdphgnnoiaa
set_option maxRecDepth 20000
structure gbLP where
  (v0 v34 v35 v36 : AV) (T : List (List (List CD))) (R : List (List CD)) (I J : Nat) (C a p : Int) (ab q : Bool)
section
variable (z : gbLP)
def gbLB (l : List (Nat × AV)) : St := ⟨121, l ++ [(0, z.v0), (6, .own 15), (9, .ptr 9 0), (34, z.v34), (35, z.v35), (36, z.v36)], [(9, .box 55 [.I (z.I : Int), .I (z.J : Int), .I z.C]), (15, .rows 77 76 2 z.T (some z.I) (some 901)), (901, .arr 76 2 z.R)]⟩
def gbL16:St:=gbLB z [(40, .own 15), (41, .ptr 9 0), (46, .I (z.J : Int)), (47, .own 15), (48, .ptr 9 0), (53, .I (z.J : Int)), (56, .ptr 9 2)]
def gbL24:St:=gbLB z [(43, .eptr 15 1 z.I 0), (46, .I (z.J : Int)), (47, .own 15), (48, .ptr 9 0), (52, .ptr 9 1), (56, .ptr 9 2)]
def gbL26:St:=gbLB z [(43, .eptr 15 1 z.I 0), (45, .ptr 9 1), (47, .own 15), (48, .ptr 9 0), (53, .I (z.J : Int)), (56, .ptr 9 2)]
def gbL28:St:=gbLB z [(40, .own 15), (41, .ptr 9 0), (46, .I (z.J : Int)), (50, .eptr 15 1 z.I 0), (52, .ptr 9 1), (56, .ptr 9 2)]
def gbL32:St:=gbLB z [(40, .own 15), (41, .ptr 9 0), (46, .I (z.J : Int)), (47, .own 15), (48, .ptr 9 0), (52, .ptr 9 1), (58, .agg [.I z.C, .B true])]
def gbL35:St:=gbLB z [(40, .own 15), (41, .ptr 9 0), (45, .ptr 9 1), (50, .eptr 15 1 z.I 0), (53, .I (z.J : Int)), (56, .ptr 9 2)]
def gbL37:St:=gbLB z [(40, .own 15), (41, .ptr 9 0), (45, .ptr 9 1), (47, .own 15), (48, .ptr 9 0), (53, .I (z.J : Int)), (58, .agg [.I z.C, .B true])]
def gbL40:St:=gbLB z [(44, .own 901), (46, .I (z.J : Int)), (47, .own 15), (48, .ptr 9 0), (52, .ptr 9 1), (56, .ptr 9 2)]
def gbL42:St:=gbLB z [(44, .own 901), (45, .ptr 9 1), (47, .own 15), (48, .ptr 9 0), (53, .I (z.J : Int)), (56, .ptr 9 2)]
def gbL45:St:=gbLB z [(43, .eptr 15 1 z.I 0), (46, .I (z.J : Int)), (47, .own 15), (48, .ptr 9 0), (53, .I (z.J : Int)), (56, .ptr 9 2)]
def gbL47:St:=gbLB z [(43, .eptr 15 1 z.I 0), (45, .ptr 9 1), (50, .eptr 15 1 z.I 0), (52, .ptr 9 1), (56, .ptr 9 2)]
def gbL50:St:=gbLB z [(43, .eptr 15 1 z.I 0), (45, .ptr 9 1), (47, .own 15), (48, .ptr 9 0), (52, .ptr 9 1), (58, .agg [.I z.C, .B true])]
def gbL52:St:=gbLB z [(40, .own 15), (41, .ptr 9 0), (46, .I (z.J : Int)), (51, .own 901), (52, .ptr 9 1), (56, .ptr 9 2)]
def gbL53:St:=gbLB z [(40, .own 15), (41, .ptr 9 0), (46, .I (z.J : Int)), (50, .eptr 15 1 z.I 0), (53, .I (z.J : Int)), (56, .ptr 9 2)]
def gbL55:St:=gbLB z [(40, .own 15), (41, .ptr 9 0), (46, .I (z.J : Int)), (47, .own 15), (48, .ptr 9 0), (53, .I (z.J : Int)), (58, .agg [.I z.C, .B true])]
def gbL59:St:=gbLB z [(40, .own 15), (41, .ptr 9 0), (45, .ptr 9 1), (51, .own 901), (53, .I (z.J : Int)), (56, .ptr 9 2)]
def gbL63:St:=gbLB z [(40, .own 15), (41, .ptr 9 0), (45, .ptr 9 1), (50, .eptr 15 1 z.I 0), (52, .ptr 9 1), (58, .agg [.I z.C, .B true])]
def gbL67:St:=gbLB z [(44, .own 901), (46, .I (z.J : Int)), (47, .own 15), (48, .ptr 9 0), (53, .I (z.J : Int)), (56, .ptr 9 2)]
def gbL69:St:=gbLB z [(44, .own 901), (45, .ptr 9 1), (50, .eptr 15 1 z.I 0), (52, .ptr 9 1), (56, .ptr 9 2)]
def gbL72:St:=gbLB z [(44, .own 901), (45, .ptr 9 1), (47, .own 15), (48, .ptr 9 0), (52, .ptr 9 1), (58, .agg [.I z.C, .B true])]
def gbL73:St:=gbLB z [(43, .eptr 15 1 z.I 0), (46, .I (z.J : Int)), (50, .eptr 15 1 z.I 0), (52, .ptr 9 1), (56, .ptr 9 2)]
def gbL76:St:=gbLB z [(43, .eptr 15 1 z.I 0), (46, .I (z.J : Int)), (47, .own 15), (48, .ptr 9 0), (52, .ptr 9 1), (58, .agg [.I z.C, .B true])]
def gbL77:St:=gbLB z [(43, .eptr 15 1 z.I 0), (45, .ptr 9 1), (51, .own 901), (52, .ptr 9 1), (56, .ptr 9 2)]
def gbL78:St:=gbLB z [(43, .eptr 15 1 z.I 0), (45, .ptr 9 1), (50, .eptr 15 1 z.I 0), (53, .I (z.J : Int)), (56, .ptr 9 2)]
def gbL80:St:=gbLB z [(43, .eptr 15 1 z.I 0), (45, .ptr 9 1), (47, .own 15), (48, .ptr 9 0), (53, .I (z.J : Int)), (58, .agg [.I z.C, .B true])]
def gbL83:St:=gbLB z [(40, .own 15), (41, .ptr 9 0), (46, .I (z.J : Int)), (51, .own 901), (53, .I (z.J : Int)), (56, .ptr 9 2)]
def gbL87:St:=gbLB z [(40, .own 15), (41, .ptr 9 0), (46, .I (z.J : Int)), (50, .eptr 15 1 z.I 0), (52, .ptr 9 1), (58, .agg [.I z.C, .B true])]
def gbL91:St:=gbLB z [(40, .own 15), (41, .ptr 9 0), (45, .ptr 9 1), (51, .own 901), (52, .ptr 9 1), (58, .agg [.I z.C, .B true])]
def gbL92:St:=gbLB z [(40, .own 15), (41, .ptr 9 0), (45, .ptr 9 1), (50, .eptr 15 1 z.I 0), (53, .I (z.J : Int)), (58, .agg [.I z.C, .B true])]
def gbL94:St:=gbLB z [(44, .own 901), (46, .I (z.J : Int)), (50, .eptr 15 1 z.I 0), (52, .ptr 9 1), (56, .ptr 9 2)]
def gbL97:St:=gbLB z [(44, .own 901), (46, .I (z.J : Int)), (47, .own 15), (48, .ptr 9 0), (52, .ptr 9 1), (58, .agg [.I z.C, .B true])]
def gbL98:St:=gbLB z [(44, .own 901), (45, .ptr 9 1), (51, .own 901), (52, .ptr 9 1), (56, .ptr 9 2)]
def gbL99:St:=gbLB z [(44, .own 901), (45, .ptr 9 1), (50, .eptr 15 1 z.I 0), (53, .I (z.J : Int)), (56, .ptr 9 2)]
def gbL101:St:=gbLB z [(44, .own 901), (45, .ptr 9 1), (47, .own 15), (48, .ptr 9 0), (53, .I (z.J : Int)), (58, .agg [.I z.C, .B true])]
def gbL103:St:=gbLB z [(43, .eptr 15 1 z.I 0), (46, .I (z.J : Int)), (51, .own 901), (52, .ptr 9 1), (56, .ptr 9 2)]
def gbL104:St:=gbLB z [(43, .eptr 15 1 z.I 0), (46, .I (z.J : Int)), (50, .eptr 15 1 z.I 0), (53, .I (z.J : Int)), (56, .ptr 9 2)]
def gbL106:St:=gbLB z [(43, .eptr 15 1 z.I 0), (46, .I (z.J : Int)), (47, .own 15), (48, .ptr 9 0), (53, .I (z.J : Int)), (58, .agg [.I z.C, .B true])]
def gbL108:St:=gbLB z [(43, .eptr 15 1 z.I 0), (45, .ptr 9 1), (51, .own 901), (53, .I (z.J : Int)), (56, .ptr 9 2)]
def gbL111:St:=gbLB z [(43, .eptr 15 1 z.I 0), (45, .ptr 9 1), (50, .eptr 15 1 z.I 0), (52, .ptr 9 1), (58, .agg [.I z.C, .B true])]
def gbL113:St:=gbLB z [(40, .own 15), (41, .ptr 9 0), (46, .I (z.J : Int)), (54, .eptr 901 2 z.J 0), (56, .ptr 9 2)]
def gbL114:St:=gbLB z [(40, .own 15), (41, .ptr 9 0), (46, .I (z.J : Int)), (51, .own 901), (52, .ptr 9 1), (58, .agg [.I z.C, .B true])]
def gbL115:St:=gbLB z [(40, .own 15), (41, .ptr 9 0), (46, .I (z.J : Int)), (50, .eptr 15 1 z.I 0), (53, .I (z.J : Int)), (58, .agg [.I z.C, .B true])]
def gbL121:St:=gbLB z [(40, .own 15), (41, .ptr 9 0), (45, .ptr 9 1), (51, .own 901), (53, .I (z.J : Int)), (58, .agg [.I z.C, .B true])]
def gbL123:St:=gbLB z [(44, .own 901), (46, .I (z.J : Int)), (51, .own 901), (52, .ptr 9 1), (56, .ptr 9 2)]
def gbL124:St:=gbLB z [(44, .own 901), (46, .I (z.J : Int)), (50, .eptr 15 1 z.I 0), (53, .I (z.J : Int)), (56, .ptr 9 2)]
def gbL126:St:=gbLB z [(44, .own 901), (46, .I (z.J : Int)), (47, .own 15), (48, .ptr 9 0), (53, .I (z.J : Int)), (58, .agg [.I z.C, .B true])]
def gbL128:St:=gbLB z [(44, .own 901), (45, .ptr 9 1), (51, .own 901), (53, .I (z.J : Int)), (56, .ptr 9 2)]
def gbL131:St:=gbLB z [(44, .own 901), (45, .ptr 9 1), (50, .eptr 15 1 z.I 0), (52, .ptr 9 1), (58, .agg [.I z.C, .B true])]
def gbL133:St:=gbLB z [(43, .eptr 15 1 z.I 0), (46, .I (z.J : Int)), (51, .own 901), (53, .I (z.J : Int)), (56, .ptr 9 2)]
def gbL136:St:=gbLB z [(43, .eptr 15 1 z.I 0), (46, .I (z.J : Int)), (50, .eptr 15 1 z.I 0), (52, .ptr 9 1), (58, .agg [.I z.C, .B true])]
def gbL138:St:=gbLB z [(43, .eptr 15 1 z.I 0), (45, .ptr 9 1), (54, .eptr 901 2 z.J 0), (56, .ptr 9 2)]
def gbL139:St:=gbLB z [(43, .eptr 15 1 z.I 0), (45, .ptr 9 1), (51, .own 901), (52, .ptr 9 1), (58, .agg [.I z.C, .B true])]
def gbL140:St:=gbLB z [(43, .eptr 15 1 z.I 0), (45, .ptr 9 1), (50, .eptr 15 1 z.I 0), (53, .I (z.J : Int)), (58, .agg [.I z.C, .B true])]
def gbL142:St:=gbLB z [(40, .own 15), (41, .ptr 9 0), (46, .I (z.J : Int)), (55, .agg [.I z.a, .B z.ab]), (56, .ptr 9 2)]
def gbL145:St:=gbLB z [(40, .own 15), (41, .ptr 9 0), (46, .I (z.J : Int)), (51, .own 901), (53, .I (z.J : Int)), (58, .agg [.I z.C, .B true])]
def gbL149:St:=gbLB z [(40, .own 15), (41, .ptr 9 0), (45, .ptr 9 1), (54, .eptr 901 2 z.J 0), (58, .agg [.I z.C, .B true])]
def gbL150:St:=gbLB z [(44, .own 901), (46, .I (z.J : Int)), (51, .own 901), (53, .I (z.J : Int)), (56, .ptr 9 2)]
def gbL153:St:=gbLB z [(44, .own 901), (46, .I (z.J : Int)), (50, .eptr 15 1 z.I 0), (52, .ptr 9 1), (58, .agg [.I z.C, .B true])]
def gbL155:St:=gbLB z [(44, .own 901), (45, .ptr 9 1), (54, .eptr 901 2 z.J 0), (56, .ptr 9 2)]
def gbL156:St:=gbLB z [(44, .own 901), (45, .ptr 9 1), (51, .own 901), (52, .ptr 9 1), (58, .agg [.I z.C, .B true])]
def gbL157:St:=gbLB z [(44, .own 901), (45, .ptr 9 1), (50, .eptr 15 1 z.I 0), (53, .I (z.J : Int)), (58, .agg [.I z.C, .B true])]
def gbL158:St:=gbLB z [(43, .eptr 15 1 z.I 0), (46, .I (z.J : Int)), (54, .eptr 901 2 z.J 0), (56, .ptr 9 2)]
def gbL159:St:=gbLB z [(43, .eptr 15 1 z.I 0), (46, .I (z.J : Int)), (51, .own 901), (52, .ptr 9 1), (58, .agg [.I z.C, .B true])]
def gbL160:St:=gbLB z [(43, .eptr 15 1 z.I 0), (46, .I (z.J : Int)), (50, .eptr 15 1 z.I 0), (53, .I (z.J : Int)), (58, .agg [.I z.C, .B true])]
def gbL161:St:=gbLB z [(43, .eptr 15 1 z.I 0), (45, .ptr 9 1), (55, .agg [.I z.a, .B z.ab]), (56, .ptr 9 2)]
def gbL163:St:=gbLB z [(43, .eptr 15 1 z.I 0), (45, .ptr 9 1), (51, .own 901), (53, .I (z.J : Int)), (58, .agg [.I z.C, .B true])]
def gbL166:St:=gbLB z [(40, .own 15), (41, .ptr 9 0), (46, .I (z.J : Int)), (54, .eptr 901 2 z.J 0), (58, .agg [.I z.C, .B true])]
def gbL167:St:=gbLB z [(40, .own 15), (41, .ptr 9 0), (45, .ptr 9 1), (55, .agg [.I z.a, .B z.ab]), (58, .agg [.I z.C, .B true])]
def gbL169:St:=gbLB z [(44, .own 901), (46, .I (z.J : Int)), (54, .eptr 901 2 z.J 0), (56, .ptr 9 2)]
def gbL170:St:=gbLB z [(44, .own 901), (46, .I (z.J : Int)), (51, .own 901), (52, .ptr 9 1), (58, .agg [.I z.C, .B true])]
def gbL171:St:=gbLB z [(44, .own 901), (46, .I (z.J : Int)), (50, .eptr 15 1 z.I 0), (53, .I (z.J : Int)), (58, .agg [.I z.C, .B true])]
def gbL172:St:=gbLB z [(44, .own 901), (45, .ptr 9 1), (55, .agg [.I z.a, .B z.ab]), (56, .ptr 9 2)]
def gbL174:St:=gbLB z [(44, .own 901), (45, .ptr 9 1), (51, .own 901), (53, .I (z.J : Int)), (58, .agg [.I z.C, .B true])]
def gbL175:St:=gbLB z [(43, .eptr 15 1 z.I 0), (46, .I (z.J : Int)), (55, .agg [.I z.a, .B z.ab]), (56, .ptr 9 2)]
def gbL177:St:=gbLB z [(43, .eptr 15 1 z.I 0), (46, .I (z.J : Int)), (51, .own 901), (53, .I (z.J : Int)), (58, .agg [.I z.C, .B true])]
def gbL179:St:=gbLB z [(43, .eptr 15 1 z.I 0), (45, .ptr 9 1), (54, .eptr 901 2 z.J 0), (58, .agg [.I z.C, .B true])]
def gbL180:St:=gbLB z [(40, .own 15), (41, .ptr 9 0), (46, .I (z.J : Int)), (55, .agg [.I z.a, .B z.ab]), (58, .agg [.I z.C, .B true])]
def gbL184:St:=gbLB z [(44, .own 901), (46, .I (z.J : Int)), (55, .agg [.I z.a, .B z.ab]), (56, .ptr 9 2)]
def gbL186:St:=gbLB z [(44, .own 901), (46, .I (z.J : Int)), (51, .own 901), (53, .I (z.J : Int)), (58, .agg [.I z.C, .B true])]
def gbL188:St:=gbLB z [(44, .own 901), (45, .ptr 9 1), (54, .eptr 901 2 z.J 0), (58, .agg [.I z.C, .B true])]
def gbL190:St:=gbLB z [(43, .eptr 15 1 z.I 0), (46, .I (z.J : Int)), (54, .eptr 901 2 z.J 0), (58, .agg [.I z.C, .B true])]
def gbL191:St:=gbLB z [(43, .eptr 15 1 z.I 0), (45, .ptr 9 1), (55, .agg [.I z.a, .B z.ab]), (58, .agg [.I z.C, .B true])]
def gbL193:St:=gbLB z [(40, .own 15), (41, .ptr 9 0), (46, .I (z.J : Int)), (59, .agg [.I z.p, .B z.q])]
def gbL196:St:=gbLB z [(44, .own 901), (46, .I (z.J : Int)), (54, .eptr 901 2 z.J 0), (58, .agg [.I z.C, .B true])]
def gbL197:St:=gbLB z [(44, .own 901), (45, .ptr 9 1), (55, .agg [.I z.a, .B z.ab]), (58, .agg [.I z.C, .B true])]
def gbL198:St:=gbLB z [(43, .eptr 15 1 z.I 0), (46, .I (z.J : Int)), (55, .agg [.I z.a, .B z.ab]), (58, .agg [.I z.C, .B true])]
def gbL199:St:=gbLB z [(43, .eptr 15 1 z.I 0), (45, .ptr 9 1), (59, .agg [.I z.p, .B z.q])]
def gbL201:St:=gbLB z [(44, .own 901), (46, .I (z.J : Int)), (55, .agg [.I z.a, .B z.ab]), (58, .agg [.I z.C, .B true])]
def gbL202:St:=gbLB z [(44, .own 901), (45, .ptr 9 1), (59, .agg [.I z.p, .B z.q])]
def gbL203:St:=gbLB z [(43, .eptr 15 1 z.I 0), (46, .I (z.J : Int)), (59, .agg [.I z.p, .B z.q])]
def gbL204:St:=gbLB z [(44, .own 901), (46, .I (z.J : Int)), (59, .agg [.I z.p, .B z.q])]
def gbL:List (Nat × St):=[(16, gbL16 z), (24, gbL24 z), (26, gbL26 z), (28, gbL28 z), (32, gbL32 z), (35, gbL35 z), (37, gbL37 z), (40, gbL40 z), (42, gbL42 z), (45, gbL45 z), (47, gbL47 z), (50, gbL50 z), (52, gbL52 z), (53, gbL53 z), (55, gbL55 z), (59, gbL59 z), (63, gbL63 z), (67, gbL67 z), (69, gbL69 z), (72, gbL72 z), (73, gbL73 z), (76, gbL76 z), (77, gbL77 z), (78, gbL78 z), (80, gbL80 z), (83, gbL83 z), (87, gbL87 z), (91, gbL91 z), (92, gbL92 z), (94, gbL94 z), (97, gbL97 z), (98, gbL98 z), (99, gbL99 z), (101, gbL101 z), (103, gbL103 z), (104, gbL104 z), (106, gbL106 z), (108, gbL108 z), (111, gbL111 z), (113, gbL113 z), (114, gbL114 z), (115, gbL115 z), (121, gbL121 z), (123, gbL123 z), (124, gbL124 z), (126, gbL126 z), (128, gbL128 z), (131, gbL131 z), (133, gbL133 z), (136, gbL136 z), (138, gbL138 z), (139, gbL139 z), (140, gbL140 z), (142, gbL142 z), (145, gbL145 z), (149, gbL149 z), (150, gbL150 z), (153, gbL153 z), (155, gbL155 z), (156, gbL156 z), (157, gbL157 z), (158, gbL158 z), (159, gbL159 z), (160, gbL160 z), (161, gbL161 z), (163, gbL163 z), (166, gbL166 z), (167, gbL167 z), (169, gbL169 z), (170, gbL170 z), (171, gbL171 z), (172, gbL172 z), (174, gbL174 z), (175, gbL175 z), (177, gbL177 z), (179, gbL179 z), (180, gbL180 z), (184, gbL184 z), (186, gbL186 z), (188, gbL188 z), (190, gbL190 z), (191, gbL191 z), (193, gbL193 z), (196, gbL196 z), (197, gbL197 z), (198, gbL198 z), (199, gbL199 z), (201, gbL201 z), (202, gbL202 z), (203, gbL203 z), (204, gbL204 z)]
theorem gbLl0:lookT 0 (gbL z)=none:=rfl
theorem gbLl1:lookT 1 (gbL z)=none:=rfl
theorem gbLl2:lookT 2 (gbL z)=none:=rfl
theorem gbLl3:lookT 3 (gbL z)=none:=rfl
theorem gbLl4:lookT 4 (gbL z)=none:=rfl
theorem gbLl5:lookT 5 (gbL z)=none:=rfl
theorem gbLl6:lookT 6 (gbL z)=none:=rfl
theorem gbLl7:lookT 7 (gbL z)=none:=rfl
theorem gbLl8:lookT 8 (gbL z)=none:=rfl
theorem gbLl9:lookT 9 (gbL z)=none:=rfl
theorem gbLl10:lookT 10 (gbL z)=none:=rfl
theorem gbLl11:lookT 11 (gbL z)=none:=rfl
theorem gbLl12:lookT 12 (gbL z)=none:=rfl
theorem gbLl13:lookT 13 (gbL z)=none:=rfl
theorem gbLl14:lookT 14 (gbL z)=none:=rfl
theorem gbLl15:lookT 15 (gbL z)=none:=rfl
theorem gbLl16:lookT 16 (gbL z)=some (gbL16 z):=rfl
theorem gbLl17:lookT 17 (gbL z)=none:=rfl
theorem gbLl18:lookT 18 (gbL z)=none:=rfl
theorem gbLl19:lookT 19 (gbL z)=none:=rfl
theorem gbLl20:lookT 20 (gbL z)=none:=rfl
theorem gbLl21:lookT 21 (gbL z)=none:=rfl
theorem gbLl22:lookT 22 (gbL z)=none:=rfl
theorem gbLl23:lookT 23 (gbL z)=none:=rfl
theorem gbLl24:lookT 24 (gbL z)=some (gbL24 z):=rfl
theorem gbLl25:lookT 25 (gbL z)=none:=rfl
theorem gbLl26:lookT 26 (gbL z)=some (gbL26 z):=rfl
theorem gbLl27:lookT 27 (gbL z)=none:=rfl
theorem gbLl28:lookT 28 (gbL z)=some (gbL28 z):=rfl
theorem gbLl29:lookT 29 (gbL z)=none:=rfl
theorem gbLl30:lookT 30 (gbL z)=none:=rfl
theorem gbLl31:lookT 31 (gbL z)=none:=rfl
theorem gbLl32:lookT 32 (gbL z)=some (gbL32 z):=rfl
theorem gbLl33:lookT 33 (gbL z)=none:=rfl
theorem gbLl34:lookT 34 (gbL z)=none:=rfl
theorem gbLl35:lookT 35 (gbL z)=some (gbL35 z):=rfl
theorem gbLl36:lookT 36 (gbL z)=none:=rfl
theorem gbLl37:lookT 37 (gbL z)=some (gbL37 z):=rfl
theorem gbLl38:lookT 38 (gbL z)=none:=rfl
theorem gbLl39:lookT 39 (gbL z)=none:=rfl
theorem gbLl40:lookT 40 (gbL z)=some (gbL40 z):=rfl
theorem gbLl41:lookT 41 (gbL z)=none:=rfl
theorem gbLl42:lookT 42 (gbL z)=some (gbL42 z):=rfl
theorem gbLl43:lookT 43 (gbL z)=none:=rfl
theorem gbLl44:lookT 44 (gbL z)=none:=rfl
theorem gbLl45:lookT 45 (gbL z)=some (gbL45 z):=rfl
theorem gbLl46:lookT 46 (gbL z)=none:=rfl
theorem gbLl47:lookT 47 (gbL z)=some (gbL47 z):=rfl
theorem gbLl48:lookT 48 (gbL z)=none:=rfl
theorem gbLl49:lookT 49 (gbL z)=none:=rfl
theorem gbLl50:lookT 50 (gbL z)=some (gbL50 z):=rfl
theorem gbLl51:lookT 51 (gbL z)=none:=rfl
theorem gbLl52:lookT 52 (gbL z)=some (gbL52 z):=rfl
theorem gbLl53:lookT 53 (gbL z)=some (gbL53 z):=rfl
theorem gbLl54:lookT 54 (gbL z)=none:=rfl
theorem gbLl55:lookT 55 (gbL z)=some (gbL55 z):=rfl
theorem gbLl56:lookT 56 (gbL z)=none:=rfl
theorem gbLl57:lookT 57 (gbL z)=none:=rfl
theorem gbLl58:lookT 58 (gbL z)=none:=rfl
theorem gbLl59:lookT 59 (gbL z)=some (gbL59 z):=rfl
theorem gbLl60:lookT 60 (gbL z)=none:=rfl
theorem gbLl61:lookT 61 (gbL z)=none:=rfl
theorem gbLl62:lookT 62 (gbL z)=none:=rfl
theorem gbLl63:lookT 63 (gbL z)=some (gbL63 z):=rfl
theorem gbLl64:lookT 64 (gbL z)=none:=rfl
theorem gbLl65:lookT 65 (gbL z)=none:=rfl
theorem gbLl66:lookT 66 (gbL z)=none:=rfl
theorem gbLl67:lookT 67 (gbL z)=some (gbL67 z):=rfl
theorem gbLl68:lookT 68 (gbL z)=none:=rfl
theorem gbLl69:lookT 69 (gbL z)=some (gbL69 z):=rfl
theorem gbLl70:lookT 70 (gbL z)=none:=rfl
theorem gbLl71:lookT 71 (gbL z)=none:=rfl
theorem gbLl72:lookT 72 (gbL z)=some (gbL72 z):=rfl
theorem gbLl73:lookT 73 (gbL z)=some (gbL73 z):=rfl
theorem gbLl74:lookT 74 (gbL z)=none:=rfl
theorem gbLl75:lookT 75 (gbL z)=none:=rfl
theorem gbLl76:lookT 76 (gbL z)=some (gbL76 z):=rfl
theorem gbLl77:lookT 77 (gbL z)=some (gbL77 z):=rfl
theorem gbLl78:lookT 78 (gbL z)=some (gbL78 z):=rfl
theorem gbLl79:lookT 79 (gbL z)=none:=rfl
theorem gbLl80:lookT 80 (gbL z)=some (gbL80 z):=rfl
theorem gbLl81:lookT 81 (gbL z)=none:=rfl
theorem gbLl82:lookT 82 (gbL z)=none:=rfl
theorem gbLl83:lookT 83 (gbL z)=some (gbL83 z):=rfl
theorem gbLl84:lookT 84 (gbL z)=none:=rfl
theorem gbLl85:lookT 85 (gbL z)=none:=rfl
theorem gbLl86:lookT 86 (gbL z)=none:=rfl
theorem gbLl87:lookT 87 (gbL z)=some (gbL87 z):=rfl
theorem gbLl88:lookT 88 (gbL z)=none:=rfl
theorem gbLl89:lookT 89 (gbL z)=none:=rfl
theorem gbLl90:lookT 90 (gbL z)=none:=rfl
theorem gbLl91:lookT 91 (gbL z)=some (gbL91 z):=rfl
theorem gbLl92:lookT 92 (gbL z)=some (gbL92 z):=rfl
theorem gbLl93:lookT 93 (gbL z)=none:=rfl
theorem gbLl94:lookT 94 (gbL z)=some (gbL94 z):=rfl
theorem gbLl95:lookT 95 (gbL z)=none:=rfl
theorem gbLl96:lookT 96 (gbL z)=none:=rfl
theorem gbLl97:lookT 97 (gbL z)=some (gbL97 z):=rfl
theorem gbLl98:lookT 98 (gbL z)=some (gbL98 z):=rfl
theorem gbLl99:lookT 99 (gbL z)=some (gbL99 z):=rfl
theorem gbLl100:lookT 100 (gbL z)=none:=rfl
theorem gbLl101:lookT 101 (gbL z)=some (gbL101 z):=rfl
theorem gbLl102:lookT 102 (gbL z)=none:=rfl
theorem gbLl103:lookT 103 (gbL z)=some (gbL103 z):=rfl
theorem gbLl104:lookT 104 (gbL z)=some (gbL104 z):=rfl
theorem gbLl105:lookT 105 (gbL z)=none:=rfl
theorem gbLl106:lookT 106 (gbL z)=some (gbL106 z):=rfl
theorem gbLl107:lookT 107 (gbL z)=none:=rfl
theorem gbLl108:lookT 108 (gbL z)=some (gbL108 z):=rfl
theorem gbLl109:lookT 109 (gbL z)=none:=rfl
theorem gbLl110:lookT 110 (gbL z)=none:=rfl
theorem gbLl111:lookT 111 (gbL z)=some (gbL111 z):=rfl
theorem gbLl112:lookT 112 (gbL z)=none:=rfl
theorem gbLl113:lookT 113 (gbL z)=some (gbL113 z):=rfl
theorem gbLl114:lookT 114 (gbL z)=some (gbL114 z):=rfl
theorem gbLl115:lookT 115 (gbL z)=some (gbL115 z):=rfl
theorem gbLl116:lookT 116 (gbL z)=none:=rfl
theorem gbLl117:lookT 117 (gbL z)=none:=rfl
theorem gbLl118:lookT 118 (gbL z)=none:=rfl
theorem gbLl119:lookT 119 (gbL z)=none:=rfl
theorem gbLl120:lookT 120 (gbL z)=none:=rfl
theorem gbLl121:lookT 121 (gbL z)=some (gbL121 z):=rfl
theorem gbLl122:lookT 122 (gbL z)=none:=rfl
theorem gbLl123:lookT 123 (gbL z)=some (gbL123 z):=rfl
theorem gbLl124:lookT 124 (gbL z)=some (gbL124 z):=rfl
theorem gbLl125:lookT 125 (gbL z)=none:=rfl
theorem gbLl126:lookT 126 (gbL z)=some (gbL126 z):=rfl
theorem gbLl127:lookT 127 (gbL z)=none:=rfl
theorem gbLl128:lookT 128 (gbL z)=some (gbL128 z):=rfl
theorem gbLl129:lookT 129 (gbL z)=none:=rfl
theorem gbLl130:lookT 130 (gbL z)=none:=rfl
theorem gbLl131:lookT 131 (gbL z)=some (gbL131 z):=rfl
theorem gbLl132:lookT 132 (gbL z)=none:=rfl
theorem gbLl133:lookT 133 (gbL z)=some (gbL133 z):=rfl
theorem gbLl134:lookT 134 (gbL z)=none:=rfl
theorem gbLl135:lookT 135 (gbL z)=none:=rfl
theorem gbLl136:lookT 136 (gbL z)=some (gbL136 z):=rfl
theorem gbLl137:lookT 137 (gbL z)=none:=rfl
theorem gbLl138:lookT 138 (gbL z)=some (gbL138 z):=rfl
theorem gbLl139:lookT 139 (gbL z)=some (gbL139 z):=rfl
theorem gbLl140:lookT 140 (gbL z)=some (gbL140 z):=rfl
theorem gbLl141:lookT 141 (gbL z)=none:=rfl
theorem gbLl142:lookT 142 (gbL z)=some (gbL142 z):=rfl
theorem gbLl143:lookT 143 (gbL z)=none:=rfl
theorem gbLl144:lookT 144 (gbL z)=none:=rfl
theorem gbLl145:lookT 145 (gbL z)=some (gbL145 z):=rfl
theorem gbLl146:lookT 146 (gbL z)=none:=rfl
theorem gbLl147:lookT 147 (gbL z)=none:=rfl
theorem gbLl148:lookT 148 (gbL z)=none:=rfl
theorem gbLl149:lookT 149 (gbL z)=some (gbL149 z):=rfl
theorem gbLl150:lookT 150 (gbL z)=some (gbL150 z):=rfl
theorem gbLl151:lookT 151 (gbL z)=none:=rfl
theorem gbLl152:lookT 152 (gbL z)=none:=rfl
theorem gbLl153:lookT 153 (gbL z)=some (gbL153 z):=rfl
theorem gbLl154:lookT 154 (gbL z)=none:=rfl
theorem gbLl155:lookT 155 (gbL z)=some (gbL155 z):=rfl
theorem gbLl156:lookT 156 (gbL z)=some (gbL156 z):=rfl
theorem gbLl157:lookT 157 (gbL z)=some (gbL157 z):=rfl
theorem gbLl158:lookT 158 (gbL z)=some (gbL158 z):=rfl
theorem gbLl159:lookT 159 (gbL z)=some (gbL159 z):=rfl
theorem gbLl160:lookT 160 (gbL z)=some (gbL160 z):=rfl
theorem gbLl161:lookT 161 (gbL z)=some (gbL161 z):=rfl
theorem gbLl162:lookT 162 (gbL z)=none:=rfl
theorem gbLl163:lookT 163 (gbL z)=some (gbL163 z):=rfl
theorem gbLl164:lookT 164 (gbL z)=none:=rfl
theorem gbLl165:lookT 165 (gbL z)=none:=rfl
theorem gbLl166:lookT 166 (gbL z)=some (gbL166 z):=rfl
theorem gbLl167:lookT 167 (gbL z)=some (gbL167 z):=rfl
theorem gbLl168:lookT 168 (gbL z)=none:=rfl
theorem gbLl169:lookT 169 (gbL z)=some (gbL169 z):=rfl
theorem gbLl170:lookT 170 (gbL z)=some (gbL170 z):=rfl
theorem gbLl171:lookT 171 (gbL z)=some (gbL171 z):=rfl
theorem gbLl172:lookT 172 (gbL z)=some (gbL172 z):=rfl
theorem gbLl173:lookT 173 (gbL z)=none:=rfl
theorem gbLl174:lookT 174 (gbL z)=some (gbL174 z):=rfl
theorem gbLl175:lookT 175 (gbL z)=some (gbL175 z):=rfl
theorem gbLl176:lookT 176 (gbL z)=none:=rfl
theorem gbLl177:lookT 177 (gbL z)=some (gbL177 z):=rfl
theorem gbLl178:lookT 178 (gbL z)=none:=rfl
theorem gbLl179:lookT 179 (gbL z)=some (gbL179 z):=rfl
theorem gbLl180:lookT 180 (gbL z)=some (gbL180 z):=rfl
theorem gbLl181:lookT 181 (gbL z)=none:=rfl
theorem gbLl182:lookT 182 (gbL z)=none:=rfl
theorem gbLl183:lookT 183 (gbL z)=none:=rfl
theorem gbLl184:lookT 184 (gbL z)=some (gbL184 z):=rfl
theorem gbLl185:lookT 185 (gbL z)=none:=rfl
theorem gbLl186:lookT 186 (gbL z)=some (gbL186 z):=rfl
theorem gbLl187:lookT 187 (gbL z)=none:=rfl
theorem gbLl188:lookT 188 (gbL z)=some (gbL188 z):=rfl
theorem gbLl189:lookT 189 (gbL z)=none:=rfl
theorem gbLl190:lookT 190 (gbL z)=some (gbL190 z):=rfl
theorem gbLl191:lookT 191 (gbL z)=some (gbL191 z):=rfl
theorem gbLl192:lookT 192 (gbL z)=none:=rfl
theorem gbLl193:lookT 193 (gbL z)=some (gbL193 z):=rfl
theorem gbLl194:lookT 194 (gbL z)=none:=rfl
theorem gbLl195:lookT 195 (gbL z)=none:=rfl
theorem gbLl196:lookT 196 (gbL z)=some (gbL196 z):=rfl
theorem gbLl197:lookT 197 (gbL z)=some (gbL197 z):=rfl
theorem gbLl198:lookT 198 (gbL z)=some (gbL198 z):=rfl
theorem gbLl199:lookT 199 (gbL z)=some (gbL199 z):=rfl
theorem gbLl200:lookT 200 (gbL z)=none:=rfl
theorem gbLl201:lookT 201 (gbL z)=some (gbL201 z):=rfl
theorem gbLl202:lookT 202 (gbL z)=some (gbL202 z):=rfl
theorem gbLl203:lookT 203 (gbL z)=some (gbL203 z):=rfl
theorem gbLl204:lookT 204 (gbL z)=some (gbL204 z):=rfl
theorem gbLl205:lookT 205 (gbL z)=none:=rfl
theorem gbLl206:lookT 206 (gbL z)=none:=rfl
end
def gbLG:List GN:=[.one 0 1, .one 1 2, .one 5 3, .one 7 4, .one 8 5, .one 12 6, .one 16 7, .all [(2, 8), (6, 9), (9, 10), (13, 11), (17, 12)], .one 3 13, .all [(2, 14), (9, 15), (13, 16), (17, 17)], .one 10 18, .all [(2, 19), (6, 16), (9, 20), (17, 21)], .one 18 22, .all [(4, 23), (6, 24), (9, 25), (13, 26), (17, 27)], .one 3 24, .one 10 28, .all [(2, 29), (9, 30), (17, 31)], .one 18 32, .all [(2, 33), (6, 28), (11, 34), (13, 35), (17, 36)], .one 3 26, .one 10 35, .one 18 37, .all [(2, 38), (6, 32), (9, 39), (13, 37)], .all [(6, 40), (9, 41), (13, 42), (17, 43)], .all [(4, 40), (9, 44), (13, 45), (17, 46)], .one 10 47, .all [(4, 42), (6, 45), (9, 48), (17, 49)], .one 18 50, .all [(2, 51), (11, 52), (13, 53), (17, 54)], .one 3 45, .one 10 53, .one 18 55, .all [(2, 56), (9, 57), (13, 55)], .one 3 47, .all [(2, 58), (6, 52), (13, 59), (17, 60)], .all [(2, 61), (6, 53), (11, 59), (17, 62)], .one 18 63, .all [(2, 64), (6, 55), (9, 65)], .one 3 50, .one 10 63, .all [(9, 66), (13, 67), (17, 68)], .one 10 69, .all [(6, 67), (9, 70), (17, 71)], .one 18 72, .one 10 73, .all [(4, 67), (9, 74), (17, 75)], .one 18 76, .all [(4, 69), (6, 73), (11, 77), (13, 78), (17, 79)], .one 10 78, .one 18 80, .all [(4, 72), (6, 76), (9, 81), (13, 80)], .one 3 73, .all [(2, 82), (13, 83), (17, 84)], .all [(2, 85), (11, 83), (17, 86)], .one 18 87, .all [(2, 88), (9, 89)], .one 3 76, .one 10 87, .one 3 77, .one 14 90, .one 18 91, .one 3 78, .one 18 92, .all [(2, 93), (6, 87), (11, 91), (13, 92)], .one 3 80, .one 10 92, .one 10 94, .all [(9, 95), (17, 96)], .one 18 97, .all [(6, 94), (11, 98), (13, 99), (17, 100)], .one 10 99, .one 18 101, .all [(6, 97), (9, 102), (13, 101)], .all [(4, 94), (11, 103), (13, 104), (17, 105)], .one 10 104, .one 18 106, .all [(4, 97), (9, 107), (13, 106)], .all [(4, 98), (6, 103), (13, 108), (17, 109)], .all [(4, 99), (6, 104), (11, 108), (17, 110)], .one 18 111, .all [(4, 101), (6, 106), (9, 112)], .one 10 111, .one 3 103, .one 14 113, .one 18 114, .one 3 104, .one 18 115, .all [(2, 116), (11, 114), (13, 115)], .one 3 106, .one 10 115, .all [(2, 117), (6, 113), (15, 118), (17, 119)], .all [(2, 120), (6, 114), (13, 121)], .all [(2, 122), (6, 115), (11, 121)], .one 3 111, .all [(11, 123), (13, 124), (17, 125)], .one 10 124, .one 18 126, .all [(9, 127), (13, 126)], .all [(6, 123), (13, 128), (17, 129)], .all [(6, 124), (11, 128), (17, 130)], .one 18 131, .all [(6, 126), (9, 132)], .one 10 131, .all [(4, 123), (13, 133), (17, 134)], .all [(4, 124), (11, 133), (17, 135)], .one 18 136, .all [(4, 126), (9, 137)], .one 10 136, .one 14 138, .one 18 139, .one 18 140, .all [(4, 131), (6, 136), (11, 139), (13, 140)], .one 10 140, .all [(2, 141), (15, 142), (17, 143)], .all [(2, 144), (13, 145)], .all [(2, 146), (11, 145)], .one 3 136, .one 3 138, .all [(2, 147), (6, 142), (17, 148)], .one 18 149, .one 3 139, .one 14 149, .one 3 140, .all [(13, 150), (17, 151)], .all [(11, 150), (17, 152)], .one 18 153, .all [(9, 154)], .one 10 153, .one 14 155, .one 18 156, .one 18 157, .all [(6, 153), (11, 156), (13, 157)], .one 10 157, .one 14 158, .one 18 159, .one 18 160, .all [(4, 153), (11, 159), (13, 160)], .one 10 160, .all [(4, 155), (6, 158), (15, 161), (17, 162)], .all [(4, 156), (6, 159), (13, 163)], .all [(4, 157), (6, 160), (11, 163)], .one 3 158, .all [(2, 164), (17, 165)], .one 18 166, .one 3 159, .one 14 166, .one 3 160, .one 3 161, .one 18 167, .all [(2, 168), (6, 166), (15, 167)], .one 14 169, .one 18 170, .one 18 171, .all [(11, 170), (13, 171)], .one 10 171, .all [(6, 169), (15, 172), (17, 173)], .all [(6, 170), (13, 174)], .all [(6, 171), (11, 174)], .all [(4, 169), (15, 175), (17, 176)], .all [(4, 170), (13, 177)], .all [(4, 171), (11, 177)], .all [(4, 172), (6, 175), (17, 178)], .one 18 179, .one 14 179, .one 3 175, .one 18 180, .all [(2, 181), (15, 180)], .all [(2, 182), (6, 180), (19, 183)], .one 3 179, .all [(15, 184), (17, 185)], .all [(13, 186)], .all [(11, 186)], .all [(6, 184), (17, 187)], .one 18 188, .one 14 188, .all [(4, 184), (17, 189)], .one 18 190, .one 14 190, .one 18 191, .all [(4, 188), (6, 190), (15, 191)], .all [(2, 192), (19, 193)], .one 3 190, .one 3 191, .all [(2, 194), (6, 193)], .all [(17, 195)], .one 18 196, .one 14 196, .one 18 197, .all [(6, 196), (15, 197)], .one 18 198, .all [(4, 196), (15, 198)], .all [(4, 197), (6, 198), (19, 199)], .one 3 198, .all [(2, 200)], .one 3 199, .one 18 201, .all [(15, 201)], .all [(6, 201), (19, 202)], .all [(4, 201), (19, 203)], .all [(4, 202), (6, 203)], .one 3 203, .all [(19, 204)], .all [(6, 204)], .all [(4, 204)], .one 20 205, .all [(21, 206)], .fin]
abbrev gbLM:List Nat:=[0, 1, 3, 35, 163, 419, 4515, 70051, 70055, 70115, 70563, 78243, 201123, 70063, 70119, 70627, 78307, 201187, 71587, 78247, 78755, 209315, 463267, 70079, 70127, 70575, 78255, 201135, 71651, 78311, 78819, 209379, 463331, 71591, 73635, 79779, 202659, 471459, 463271, 463779, 70143, 70591, 78271, 201151, 70639, 78319, 201199, 71599, 78767, 209327, 463279, 71655, 73699, 79843, 202723, 471523, 463335, 463843, 73639, 81827, 204707, 79783, 210851, 464803, 471463, 471971, 70655, 78335, 201215, 71615, 78783, 209343, 463295, 71663, 78831, 209391, 463343, 73647, 79791, 202671, 471471, 463791, 73703, 81891, 204771, 79847, 210915, 464867, 471527, 472035, 98211, 466851, 472995, 464807, 71679, 78847, 209407, 463359, 73663, 79807, 202687, 471487, 463807, 73711, 79855, 202735, 471535, 463855, 81839, 204719, 210863, 464815, 471983, 98275, 466915, 473059, 464871, 98215, 130979, 229283, 466855, 475043, 472999, 73727, 79871, 202751, 471551, 463871, 81855, 204735, 210879, 464831, 471999, 81903, 204783, 210927, 464879, 472047, 98223, 466863, 473007, 98279, 131043, 229347, 466919, 475107, 473063, 130983, 262051, 491427, 81919, 204799, 210943, 464895, 472063, 98239, 466879, 473023, 98287, 466927, 473071, 130991, 229295, 475055, 131047, 262115, 491491, 524195, 491431, 98303, 466943, 473087, 131007, 229311, 475071, 131055, 229359, 475119, 262063, 491439, 524259, 491495, 524199, 1048483, 131071, 229375, 475135, 262079, 491455, 262127, 491503, 524207, 524263, 1048547, 1048487, 262143, 491519, 524223, 524271, 1048495, 1048551, 524287, 1048511, 1048559, 1048575, 2097151, 4194303]
theorem gbLg0:nthG gbLG 0=some (.one 0 1):=rfl
theorem gbLg1:nthG gbLG 1=some (.one 1 2):=rfl
theorem gbLg2:nthG gbLG 2=some (.one 5 3):=rfl
theorem gbLg3:nthG gbLG 3=some (.one 7 4):=rfl
theorem gbLg4:nthG gbLG 4=some (.one 8 5):=rfl
theorem gbLg5:nthG gbLG 5=some (.one 12 6):=rfl
theorem gbLg6:nthG gbLG 6=some (.one 16 7):=rfl
theorem gbLg7:nthG gbLG 7=some (.all [(2, 8), (6, 9), (9, 10), (13, 11), (17, 12)]):=rfl
theorem gbLg8:nthG gbLG 8=some (.one 3 13):=rfl
theorem gbLg9:nthG gbLG 9=some (.all [(2, 14), (9, 15), (13, 16), (17, 17)]):=rfl
theorem gbLg10:nthG gbLG 10=some (.one 10 18):=rfl
theorem gbLg11:nthG gbLG 11=some (.all [(2, 19), (6, 16), (9, 20), (17, 21)]):=rfl
theorem gbLg12:nthG gbLG 12=some (.one 18 22):=rfl
theorem gbLg13:nthG gbLG 13=some (.all [(4, 23), (6, 24), (9, 25), (13, 26), (17, 27)]):=rfl
theorem gbLg14:nthG gbLG 14=some (.one 3 24):=rfl
theorem gbLg15:nthG gbLG 15=some (.one 10 28):=rfl
theorem gbLg16:nthG gbLG 16=some (.all [(2, 29), (9, 30), (17, 31)]):=rfl
theorem gbLg17:nthG gbLG 17=some (.one 18 32):=rfl
theorem gbLg18:nthG gbLG 18=some (.all [(2, 33), (6, 28), (11, 34), (13, 35), (17, 36)]):=rfl
theorem gbLg19:nthG gbLG 19=some (.one 3 26):=rfl
theorem gbLg20:nthG gbLG 20=some (.one 10 35):=rfl
theorem gbLg21:nthG gbLG 21=some (.one 18 37):=rfl
theorem gbLg22:nthG gbLG 22=some (.all [(2, 38), (6, 32), (9, 39), (13, 37)]):=rfl
theorem gbLg23:nthG gbLG 23=some (.all [(6, 40), (9, 41), (13, 42), (17, 43)]):=rfl
theorem gbLg24:nthG gbLG 24=some (.all [(4, 40), (9, 44), (13, 45), (17, 46)]):=rfl
theorem gbLg25:nthG gbLG 25=some (.one 10 47):=rfl
theorem gbLg26:nthG gbLG 26=some (.all [(4, 42), (6, 45), (9, 48), (17, 49)]):=rfl
theorem gbLg27:nthG gbLG 27=some (.one 18 50):=rfl
theorem gbLg28:nthG gbLG 28=some (.all [(2, 51), (11, 52), (13, 53), (17, 54)]):=rfl
theorem gbLg29:nthG gbLG 29=some (.one 3 45):=rfl
theorem gbLg30:nthG gbLG 30=some (.one 10 53):=rfl
theorem gbLg31:nthG gbLG 31=some (.one 18 55):=rfl
theorem gbLg32:nthG gbLG 32=some (.all [(2, 56), (9, 57), (13, 55)]):=rfl
theorem gbLg33:nthG gbLG 33=some (.one 3 47):=rfl
theorem gbLg34:nthG gbLG 34=some (.all [(2, 58), (6, 52), (13, 59), (17, 60)]):=rfl
theorem gbLg35:nthG gbLG 35=some (.all [(2, 61), (6, 53), (11, 59), (17, 62)]):=rfl
theorem gbLg36:nthG gbLG 36=some (.one 18 63):=rfl
theorem gbLg37:nthG gbLG 37=some (.all [(2, 64), (6, 55), (9, 65)]):=rfl
theorem gbLg38:nthG gbLG 38=some (.one 3 50):=rfl
theorem gbLg39:nthG gbLG 39=some (.one 10 63):=rfl
theorem gbLg40:nthG gbLG 40=some (.all [(9, 66), (13, 67), (17, 68)]):=rfl
theorem gbLg41:nthG gbLG 41=some (.one 10 69):=rfl
theorem gbLg42:nthG gbLG 42=some (.all [(6, 67), (9, 70), (17, 71)]):=rfl
theorem gbLg43:nthG gbLG 43=some (.one 18 72):=rfl
theorem gbLg44:nthG gbLG 44=some (.one 10 73):=rfl
theorem gbLg45:nthG gbLG 45=some (.all [(4, 67), (9, 74), (17, 75)]):=rfl
theorem gbLg46:nthG gbLG 46=some (.one 18 76):=rfl
theorem gbLg47:nthG gbLG 47=some (.all [(4, 69), (6, 73), (11, 77), (13, 78), (17, 79)]):=rfl
theorem gbLg48:nthG gbLG 48=some (.one 10 78):=rfl
theorem gbLg49:nthG gbLG 49=some (.one 18 80):=rfl
theorem gbLg50:nthG gbLG 50=some (.all [(4, 72), (6, 76), (9, 81), (13, 80)]):=rfl
theorem gbLg51:nthG gbLG 51=some (.one 3 73):=rfl
theorem gbLg52:nthG gbLG 52=some (.all [(2, 82), (13, 83), (17, 84)]):=rfl
theorem gbLg53:nthG gbLG 53=some (.all [(2, 85), (11, 83), (17, 86)]):=rfl
theorem gbLg54:nthG gbLG 54=some (.one 18 87):=rfl
theorem gbLg55:nthG gbLG 55=some (.all [(2, 88), (9, 89)]):=rfl
theorem gbLg56:nthG gbLG 56=some (.one 3 76):=rfl
theorem gbLg57:nthG gbLG 57=some (.one 10 87):=rfl
theorem gbLg58:nthG gbLG 58=some (.one 3 77):=rfl
theorem gbLg59:nthG gbLG 59=some (.one 14 90):=rfl
theorem gbLg60:nthG gbLG 60=some (.one 18 91):=rfl
theorem gbLg61:nthG gbLG 61=some (.one 3 78):=rfl
theorem gbLg62:nthG gbLG 62=some (.one 18 92):=rfl
theorem gbLg63:nthG gbLG 63=some (.all [(2, 93), (6, 87), (11, 91), (13, 92)]):=rfl
theorem gbLg64:nthG gbLG 64=some (.one 3 80):=rfl
theorem gbLg65:nthG gbLG 65=some (.one 10 92):=rfl
theorem gbLg66:nthG gbLG 66=some (.one 10 94):=rfl
theorem gbLg67:nthG gbLG 67=some (.all [(9, 95), (17, 96)]):=rfl
theorem gbLg68:nthG gbLG 68=some (.one 18 97):=rfl
theorem gbLg69:nthG gbLG 69=some (.all [(6, 94), (11, 98), (13, 99), (17, 100)]):=rfl
theorem gbLg70:nthG gbLG 70=some (.one 10 99):=rfl
theorem gbLg71:nthG gbLG 71=some (.one 18 101):=rfl
theorem gbLg72:nthG gbLG 72=some (.all [(6, 97), (9, 102), (13, 101)]):=rfl
theorem gbLg73:nthG gbLG 73=some (.all [(4, 94), (11, 103), (13, 104), (17, 105)]):=rfl
theorem gbLg74:nthG gbLG 74=some (.one 10 104):=rfl
theorem gbLg75:nthG gbLG 75=some (.one 18 106):=rfl
theorem gbLg76:nthG gbLG 76=some (.all [(4, 97), (9, 107), (13, 106)]):=rfl
theorem gbLg77:nthG gbLG 77=some (.all [(4, 98), (6, 103), (13, 108), (17, 109)]):=rfl
theorem gbLg78:nthG gbLG 78=some (.all [(4, 99), (6, 104), (11, 108), (17, 110)]):=rfl
theorem gbLg79:nthG gbLG 79=some (.one 18 111):=rfl
theorem gbLg80:nthG gbLG 80=some (.all [(4, 101), (6, 106), (9, 112)]):=rfl
theorem gbLg81:nthG gbLG 81=some (.one 10 111):=rfl
theorem gbLg82:nthG gbLG 82=some (.one 3 103):=rfl
theorem gbLg83:nthG gbLG 83=some (.one 14 113):=rfl
theorem gbLg84:nthG gbLG 84=some (.one 18 114):=rfl
theorem gbLg85:nthG gbLG 85=some (.one 3 104):=rfl
theorem gbLg86:nthG gbLG 86=some (.one 18 115):=rfl
theorem gbLg87:nthG gbLG 87=some (.all [(2, 116), (11, 114), (13, 115)]):=rfl
theorem gbLg88:nthG gbLG 88=some (.one 3 106):=rfl
theorem gbLg89:nthG gbLG 89=some (.one 10 115):=rfl
theorem gbLg90:nthG gbLG 90=some (.all [(2, 117), (6, 113), (15, 118), (17, 119)]):=rfl
theorem gbLg91:nthG gbLG 91=some (.all [(2, 120), (6, 114), (13, 121)]):=rfl
theorem gbLg92:nthG gbLG 92=some (.all [(2, 122), (6, 115), (11, 121)]):=rfl
theorem gbLg93:nthG gbLG 93=some (.one 3 111):=rfl
theorem gbLg94:nthG gbLG 94=some (.all [(11, 123), (13, 124), (17, 125)]):=rfl
theorem gbLg95:nthG gbLG 95=some (.one 10 124):=rfl
theorem gbLg96:nthG gbLG 96=some (.one 18 126):=rfl
theorem gbLg97:nthG gbLG 97=some (.all [(9, 127), (13, 126)]):=rfl
theorem gbLg98:nthG gbLG 98=some (.all [(6, 123), (13, 128), (17, 129)]):=rfl
theorem gbLg99:nthG gbLG 99=some (.all [(6, 124), (11, 128), (17, 130)]):=rfl
theorem gbLg100:nthG gbLG 100=some (.one 18 131):=rfl
theorem gbLg101:nthG gbLG 101=some (.all [(6, 126), (9, 132)]):=rfl
theorem gbLg102:nthG gbLG 102=some (.one 10 131):=rfl
theorem gbLg103:nthG gbLG 103=some (.all [(4, 123), (13, 133), (17, 134)]):=rfl
theorem gbLg104:nthG gbLG 104=some (.all [(4, 124), (11, 133), (17, 135)]):=rfl
theorem gbLg105:nthG gbLG 105=some (.one 18 136):=rfl
theorem gbLg106:nthG gbLG 106=some (.all [(4, 126), (9, 137)]):=rfl
theorem gbLg107:nthG gbLG 107=some (.one 10 136):=rfl
theorem gbLg108:nthG gbLG 108=some (.one 14 138):=rfl
theorem gbLg109:nthG gbLG 109=some (.one 18 139):=rfl
theorem gbLg110:nthG gbLG 110=some (.one 18 140):=rfl
theorem gbLg111:nthG gbLG 111=some (.all [(4, 131), (6, 136), (11, 139), (13, 140)]):=rfl
theorem gbLg112:nthG gbLG 112=some (.one 10 140):=rfl
theorem gbLg113:nthG gbLG 113=some (.all [(2, 141), (15, 142), (17, 143)]):=rfl
theorem gbLg114:nthG gbLG 114=some (.all [(2, 144), (13, 145)]):=rfl
theorem gbLg115:nthG gbLG 115=some (.all [(2, 146), (11, 145)]):=rfl
theorem gbLg116:nthG gbLG 116=some (.one 3 136):=rfl
theorem gbLg117:nthG gbLG 117=some (.one 3 138):=rfl
theorem gbLg118:nthG gbLG 118=some (.all [(2, 147), (6, 142), (17, 148)]):=rfl
theorem gbLg119:nthG gbLG 119=some (.one 18 149):=rfl
theorem gbLg120:nthG gbLG 120=some (.one 3 139):=rfl
theorem gbLg121:nthG gbLG 121=some (.one 14 149):=rfl
theorem gbLg122:nthG gbLG 122=some (.one 3 140):=rfl
theorem gbLg123:nthG gbLG 123=some (.all [(13, 150), (17, 151)]):=rfl
theorem gbLg124:nthG gbLG 124=some (.all [(11, 150), (17, 152)]):=rfl
theorem gbLg125:nthG gbLG 125=some (.one 18 153):=rfl
theorem gbLg126:nthG gbLG 126=some (.all [(9, 154)]):=rfl
theorem gbLg127:nthG gbLG 127=some (.one 10 153):=rfl
theorem gbLg128:nthG gbLG 128=some (.one 14 155):=rfl
theorem gbLg129:nthG gbLG 129=some (.one 18 156):=rfl
theorem gbLg130:nthG gbLG 130=some (.one 18 157):=rfl
theorem gbLg131:nthG gbLG 131=some (.all [(6, 153), (11, 156), (13, 157)]):=rfl
theorem gbLg132:nthG gbLG 132=some (.one 10 157):=rfl
theorem gbLg133:nthG gbLG 133=some (.one 14 158):=rfl
theorem gbLg134:nthG gbLG 134=some (.one 18 159):=rfl
theorem gbLg135:nthG gbLG 135=some (.one 18 160):=rfl
theorem gbLg136:nthG gbLG 136=some (.all [(4, 153), (11, 159), (13, 160)]):=rfl
theorem gbLg137:nthG gbLG 137=some (.one 10 160):=rfl
theorem gbLg138:nthG gbLG 138=some (.all [(4, 155), (6, 158), (15, 161), (17, 162)]):=rfl
theorem gbLg139:nthG gbLG 139=some (.all [(4, 156), (6, 159), (13, 163)]):=rfl
theorem gbLg140:nthG gbLG 140=some (.all [(4, 157), (6, 160), (11, 163)]):=rfl
theorem gbLg141:nthG gbLG 141=some (.one 3 158):=rfl
theorem gbLg142:nthG gbLG 142=some (.all [(2, 164), (17, 165)]):=rfl
theorem gbLg143:nthG gbLG 143=some (.one 18 166):=rfl
theorem gbLg144:nthG gbLG 144=some (.one 3 159):=rfl
theorem gbLg145:nthG gbLG 145=some (.one 14 166):=rfl
theorem gbLg146:nthG gbLG 146=some (.one 3 160):=rfl
theorem gbLg147:nthG gbLG 147=some (.one 3 161):=rfl
theorem gbLg148:nthG gbLG 148=some (.one 18 167):=rfl
theorem gbLg149:nthG gbLG 149=some (.all [(2, 168), (6, 166), (15, 167)]):=rfl
theorem gbLg150:nthG gbLG 150=some (.one 14 169):=rfl
theorem gbLg151:nthG gbLG 151=some (.one 18 170):=rfl
theorem gbLg152:nthG gbLG 152=some (.one 18 171):=rfl
theorem gbLg153:nthG gbLG 153=some (.all [(11, 170), (13, 171)]):=rfl
theorem gbLg154:nthG gbLG 154=some (.one 10 171):=rfl
theorem gbLg155:nthG gbLG 155=some (.all [(6, 169), (15, 172), (17, 173)]):=rfl
theorem gbLg156:nthG gbLG 156=some (.all [(6, 170), (13, 174)]):=rfl
theorem gbLg157:nthG gbLG 157=some (.all [(6, 171), (11, 174)]):=rfl
theorem gbLg158:nthG gbLG 158=some (.all [(4, 169), (15, 175), (17, 176)]):=rfl
theorem gbLg159:nthG gbLG 159=some (.all [(4, 170), (13, 177)]):=rfl
theorem gbLg160:nthG gbLG 160=some (.all [(4, 171), (11, 177)]):=rfl
theorem gbLg161:nthG gbLG 161=some (.all [(4, 172), (6, 175), (17, 178)]):=rfl
theorem gbLg162:nthG gbLG 162=some (.one 18 179):=rfl
theorem gbLg163:nthG gbLG 163=some (.one 14 179):=rfl
theorem gbLg164:nthG gbLG 164=some (.one 3 175):=rfl
theorem gbLg165:nthG gbLG 165=some (.one 18 180):=rfl
theorem gbLg166:nthG gbLG 166=some (.all [(2, 181), (15, 180)]):=rfl
theorem gbLg167:nthG gbLG 167=some (.all [(2, 182), (6, 180), (19, 183)]):=rfl
theorem gbLg168:nthG gbLG 168=some (.one 3 179):=rfl
theorem gbLg169:nthG gbLG 169=some (.all [(15, 184), (17, 185)]):=rfl
theorem gbLg170:nthG gbLG 170=some (.all [(13, 186)]):=rfl
theorem gbLg171:nthG gbLG 171=some (.all [(11, 186)]):=rfl
theorem gbLg172:nthG gbLG 172=some (.all [(6, 184), (17, 187)]):=rfl
theorem gbLg173:nthG gbLG 173=some (.one 18 188):=rfl
theorem gbLg174:nthG gbLG 174=some (.one 14 188):=rfl
theorem gbLg175:nthG gbLG 175=some (.all [(4, 184), (17, 189)]):=rfl
theorem gbLg176:nthG gbLG 176=some (.one 18 190):=rfl
theorem gbLg177:nthG gbLG 177=some (.one 14 190):=rfl
theorem gbLg178:nthG gbLG 178=some (.one 18 191):=rfl
theorem gbLg179:nthG gbLG 179=some (.all [(4, 188), (6, 190), (15, 191)]):=rfl
theorem gbLg180:nthG gbLG 180=some (.all [(2, 192), (19, 193)]):=rfl
theorem gbLg181:nthG gbLG 181=some (.one 3 190):=rfl
theorem gbLg182:nthG gbLG 182=some (.one 3 191):=rfl
theorem gbLg183:nthG gbLG 183=some (.all [(2, 194), (6, 193)]):=rfl
theorem gbLg184:nthG gbLG 184=some (.all [(17, 195)]):=rfl
theorem gbLg185:nthG gbLG 185=some (.one 18 196):=rfl
theorem gbLg186:nthG gbLG 186=some (.one 14 196):=rfl
theorem gbLg187:nthG gbLG 187=some (.one 18 197):=rfl
theorem gbLg188:nthG gbLG 188=some (.all [(6, 196), (15, 197)]):=rfl
theorem gbLg189:nthG gbLG 189=some (.one 18 198):=rfl
theorem gbLg190:nthG gbLG 190=some (.all [(4, 196), (15, 198)]):=rfl
theorem gbLg191:nthG gbLG 191=some (.all [(4, 197), (6, 198), (19, 199)]):=rfl
theorem gbLg192:nthG gbLG 192=some (.one 3 198):=rfl
theorem gbLg193:nthG gbLG 193=some (.all [(2, 200)]):=rfl
theorem gbLg194:nthG gbLG 194=some (.one 3 199):=rfl
theorem gbLg195:nthG gbLG 195=some (.one 18 201):=rfl
theorem gbLg196:nthG gbLG 196=some (.all [(15, 201)]):=rfl
theorem gbLg197:nthG gbLG 197=some (.all [(6, 201), (19, 202)]):=rfl
theorem gbLg198:nthG gbLG 198=some (.all [(4, 201), (19, 203)]):=rfl
theorem gbLg199:nthG gbLG 199=some (.all [(4, 202), (6, 203)]):=rfl
theorem gbLg200:nthG gbLG 200=some (.one 3 203):=rfl
theorem gbLg201:nthG gbLG 201=some (.all [(19, 204)]):=rfl
theorem gbLg202:nthG gbLG 202=some (.all [(6, 204)]):=rfl
theorem gbLg203:nthG gbLG 203=some (.all [(4, 204)]):=rfl
theorem gbLg204:nthG gbLG 204=some (.one 20 205):=rfl
theorem gbLg205:nthG gbLG 205=some (.all [(21, 206)]):=rfl
theorem gbLg206:nthG gbLG 206=some (.fin):=rfl
section
variable (P : Program) (K : St → Prop) (σ : St)
theorem gbLs0:atS P K c29_23L 0 σ=sGuard P K σ (some 40) (.mv (.t 6)) none (guardOf σ none):=rfl
theorem gbLo0:atO K c29_23L 0 σ=SFg K σ (some 40) (.mv (.t 6)) none (guardOf σ none):=by unfold c29_23L; simp only [atO_zero, atO_succ]
theorem gbLs1:atS P K c29_23L 1 σ=sGuard P K σ (some 41) (.fad 0 (.t 9)) none (guardOf σ none):=rfl
theorem gbLo1:atO K c29_23L 1 σ=SFg K σ (some 41) (.fad 0 (.t 9)) none (guardOf σ none):=by unfold c29_23L; simp only [atO_zero, atO_succ]
theorem gbLs2:atS P K c29_23L 2 σ=sGuard P K σ (some 42) (.ld none (.t 41)) none (guardOf σ none):=rfl
theorem gbLs3:atS P K c29_23L 3 σ=sGuard P K σ (some 43) (.iad 1 (.t 40) (.t 42)) none (guardOf σ none):=rfl
theorem gbLo3:atO K c29_23L 3 σ=SFg K σ (some 43) (.iad 1 (.t 40) (.t 42)) none (guardOf σ none):=by unfold c29_23L; simp only [atO_zero, atO_succ]
theorem gbLs4:atS P K c29_23L 4 σ=sGuard P K σ (some 44) (.ld none (.t 43)) none (guardOf σ none):=rfl
theorem gbLs5:atS P K c29_23L 5 σ=sGuard P K σ (some 45) (.fad 1 (.t 9)) none (guardOf σ none):=rfl
theorem gbLo5:atO K c29_23L 5 σ=SFg K σ (some 45) (.fad 1 (.t 9)) none (guardOf σ none):=by unfold c29_23L; simp only [atO_zero, atO_succ]
theorem gbLs6:atS P K c29_23L 6 σ=sGuard P K σ (some 46) (.ld none (.t 45)) none (guardOf σ none):=rfl
theorem gbLs7:atS P K c29_23L 7 σ=sGuard P K σ (some 47) (.mv (.t 6)) none (guardOf σ none):=rfl
theorem gbLo7:atO K c29_23L 7 σ=SFg K σ (some 47) (.mv (.t 6)) none (guardOf σ none):=by unfold c29_23L; simp only [atO_zero, atO_succ]
theorem gbLs8:atS P K c29_23L 8 σ=sGuard P K σ (some 48) (.fad 0 (.t 9)) none (guardOf σ none):=rfl
theorem gbLo8:atO K c29_23L 8 σ=SFg K σ (some 48) (.fad 0 (.t 9)) none (guardOf σ none):=by unfold c29_23L; simp only [atO_zero, atO_succ]
theorem gbLs9:atS P K c29_23L 9 σ=sGuard P K σ (some 49) (.ld none (.t 48)) none (guardOf σ none):=rfl
theorem gbLs10:atS P K c29_23L 10 σ=sGuard P K σ (some 50) (.iad 1 (.t 47) (.t 49)) none (guardOf σ none):=rfl
theorem gbLo10:atO K c29_23L 10 σ=SFg K σ (some 50) (.iad 1 (.t 47) (.t 49)) none (guardOf σ none):=by unfold c29_23L; simp only [atO_zero, atO_succ]
theorem gbLs11:atS P K c29_23L 11 σ=sGuard P K σ (some 51) (.ld none (.t 50)) none (guardOf σ none):=rfl
theorem gbLs12:atS P K c29_23L 12 σ=sGuard P K σ (some 52) (.fad 1 (.t 9)) none (guardOf σ none):=rfl
theorem gbLo12:atO K c29_23L 12 σ=SFg K σ (some 52) (.fad 1 (.t 9)) none (guardOf σ none):=by unfold c29_23L; simp only [atO_zero, atO_succ]
theorem gbLs13:atS P K c29_23L 13 σ=sGuard P K σ (some 53) (.ld none (.t 52)) none (guardOf σ none):=rfl
theorem gbLs14:atS P K c29_23L 14 σ=sGuard P K σ (some 54) (.iad 2 (.t 51) (.t 53)) none (guardOf σ none):=rfl
theorem gbLo14:atO K c29_23L 14 σ=SFg K σ (some 54) (.iad 2 (.t 51) (.t 53)) none (guardOf σ none):=by unfold c29_23L; simp only [atO_zero, atO_succ]
theorem gbLs15:atS P K c29_23L 15 σ=sGuard P K σ (some 55) (.ld (some 2) (.t 54)) none (guardOf σ none):=rfl
theorem gbLs16:atS P K c29_23L 16 σ=sGuard P K σ (some 56) (.fad 2 (.t 9)) none (guardOf σ none):=rfl
theorem gbLo16:atO K c29_23L 16 σ=SFg K σ (some 56) (.fad 2 (.t 9)) none (guardOf σ none):=by unfold c29_23L; simp only [atO_zero, atO_succ]
theorem gbLs17:atS P K c29_23L 17 σ=sGuard P K σ (some 57) (.ld none (.t 56)) none (guardOf σ none):=rfl
theorem gbLs18:atS P K c29_23L 18 σ=sGuard P K σ (some 58) (.build [(.I 0), (.B false)] [(0, 1, (.t 57)), (1, 1, (.k (.B true)))]) none (guardOf σ none):=rfl
theorem gbLo18:atO K c29_23L 18 σ=SFg K σ (some 58) (.build [(.I 0), (.B false)] [(0, 1, (.t 57)), (1, 1, (.k (.B true)))]) none (guardOf σ none):=by unfold c29_23L; simp only [atO_zero, atO_succ]
theorem gbLs19:atS P K c29_23L 19 σ=sGuard P K σ (some 59) (.call 44 [(.t 55), (.t 58)]) none (guardOf σ none):=rfl
theorem gbLs20:atS P K c29_23L 20 σ=sGuard P K σ (some 60) (.iad 2 (.t 44) (.t 46)) none (guardOf σ none):=rfl
theorem gbLo20:atO K c29_23L 20 σ=SFg K σ (some 60) (.iad 2 (.t 44) (.t 46)) none (guardOf σ none):=by unfold c29_23L; simp only [atO_zero, atO_succ]
theorem gbLs21:atS P K c29_23L 21 σ=sGuard P K σ none (.st (some 2) (.t 60) (.t 59)) none (guardOf σ none):=rfl
end
attribute [go_sem] gbLB gbL16 gbL24 gbL26 gbL28 gbL32 gbL35 gbL37 gbL40 gbL42 gbL45 gbL47 gbL50 gbL52 gbL53 gbL55 gbL59 gbL63 gbL67 gbL69 gbL72 gbL73 gbL76 gbL77 gbL78 gbL80 gbL83 gbL87 gbL91 gbL92 gbL94 gbL97 gbL98 gbL99 gbL101 gbL103 gbL104 gbL106 gbL108 gbL111 gbL113 gbL114 gbL115 gbL121 gbL123 gbL124 gbL126 gbL128 gbL131 gbL133 gbL136 gbL138 gbL139 gbL140 gbL142 gbL145 gbL149 gbL150 gbL153 gbL155 gbL156 gbL157 gbL158 gbL159 gbL160 gbL161 gbL163 gbL166 gbL167 gbL169 gbL170 gbL171 gbL172 gbL174 gbL175 gbL177 gbL179 gbL180 gbL184 gbL186 gbL188 gbL190 gbL191 gbL193 gbL196 gbL197 gbL198 gbL199 gbL201 gbL202 gbL203 gbL204 gbLl0 gbLl1 gbLl2 gbLl3 gbLl4 gbLl5 gbLl6 gbLl7 gbLl8 gbLl9 gbLl10 gbLl11 gbLl12 gbLl13 gbLl14 gbLl15 gbLl16 gbLl17 gbLl18 gbLl19 gbLl20 gbLl21 gbLl22 gbLl23 gbLl24 gbLl25 gbLl26 gbLl27 gbLl28 gbLl29 gbLl30 gbLl31 gbLl32 gbLl33 gbLl34 gbLl35 gbLl36 gbLl37 gbLl38 gbLl39 gbLl40 gbLl41 gbLl42 gbLl43 gbLl44 gbLl45 gbLl46 gbLl47 gbLl48 gbLl49 gbLl50 gbLl51 gbLl52 gbLl53 gbLl54 gbLl55 gbLl56 gbLl57 gbLl58 gbLl59 gbLl60 gbLl61 gbLl62 gbLl63 gbLl64 gbLl65 gbLl66 gbLl67 gbLl68 gbLl69 gbLl70 gbLl71 gbLl72 gbLl73 gbLl74 gbLl75 gbLl76 gbLl77 gbLl78 gbLl79 gbLl80 gbLl81 gbLl82 gbLl83 gbLl84 gbLl85 gbLl86 gbLl87 gbLl88 gbLl89 gbLl90 gbLl91 gbLl92 gbLl93 gbLl94 gbLl95 gbLl96 gbLl97 gbLl98 gbLl99 gbLl100 gbLl101 gbLl102 gbLl103 gbLl104 gbLl105 gbLl106 gbLl107 gbLl108 gbLl109 gbLl110 gbLl111 gbLl112 gbLl113 gbLl114 gbLl115 gbLl116 gbLl117 gbLl118 gbLl119 gbLl120 gbLl121 gbLl122 gbLl123 gbLl124 gbLl125 gbLl126 gbLl127 gbLl128 gbLl129 gbLl130 gbLl131 gbLl132 gbLl133 gbLl134 gbLl135 gbLl136 gbLl137 gbLl138 gbLl139 gbLl140 gbLl141 gbLl142 gbLl143 gbLl144 gbLl145 gbLl146 gbLl147 gbLl148 gbLl149 gbLl150 gbLl151 gbLl152 gbLl153 gbLl154 gbLl155 gbLl156 gbLl157 gbLl158 gbLl159 gbLl160 gbLl161 gbLl162 gbLl163 gbLl164 gbLl165 gbLl166 gbLl167 gbLl168 gbLl169 gbLl170 gbLl171 gbLl172 gbLl173 gbLl174 gbLl175 gbLl176 gbLl177 gbLl178 gbLl179 gbLl180 gbLl181 gbLl182 gbLl183 gbLl184 gbLl185 gbLl186 gbLl187 gbLl188 gbLl189 gbLl190 gbLl191 gbLl192 gbLl193 gbLl194 gbLl195 gbLl196 gbLl197 gbLl198 gbLl199 gbLl200 gbLl201 gbLl202 gbLl203 gbLl204 gbLl205 gbLl206 gbLg0 gbLg1 gbLg2 gbLg3 gbLg4 gbLg5 gbLg6 gbLg7 gbLg8 gbLg9 gbLg10 gbLg11 gbLg12 gbLg13 gbLg14 gbLg15 gbLg16 gbLg17 gbLg18 gbLg19 gbLg20 gbLg21 gbLg22 gbLg23 gbLg24 gbLg25 gbLg26 gbLg27 gbLg28 gbLg29 gbLg30 gbLg31 gbLg32 gbLg33 gbLg34 gbLg35 gbLg36 gbLg37 gbLg38 gbLg39 gbLg40 gbLg41 gbLg42 gbLg43 gbLg44 gbLg45 gbLg46 gbLg47 gbLg48 gbLg49 gbLg50 gbLg51 gbLg52 gbLg53 gbLg54 gbLg55 gbLg56 gbLg57 gbLg58 gbLg59 gbLg60 gbLg61 gbLg62 gbLg63 gbLg64 gbLg65 gbLg66 gbLg67 gbLg68 gbLg69 gbLg70 gbLg71 gbLg72 gbLg73 gbLg74 gbLg75 gbLg76 gbLg77 gbLg78 gbLg79 gbLg80 gbLg81 gbLg82 gbLg83 gbLg84 gbLg85 gbLg86 gbLg87 gbLg88 gbLg89 gbLg90 gbLg91 gbLg92 gbLg93 gbLg94 gbLg95 gbLg96 gbLg97 gbLg98 gbLg99 gbLg100 gbLg101 gbLg102 gbLg103 gbLg104 gbLg105 gbLg106 gbLg107 gbLg108 gbLg109 gbLg110 gbLg111 gbLg112 gbLg113 gbLg114 gbLg115 gbLg116 gbLg117 gbLg118 gbLg119 gbLg120 gbLg121 gbLg122 gbLg123 gbLg124 gbLg125 gbLg126 gbLg127 gbLg128 gbLg129 gbLg130 gbLg131 gbLg132 gbLg133 gbLg134 gbLg135 gbLg136 gbLg137 gbLg138 gbLg139 gbLg140 gbLg141 gbLg142 gbLg143 gbLg144 gbLg145 gbLg146 gbLg147 gbLg148 gbLg149 gbLg150 gbLg151 gbLg152 gbLg153 gbLg154 gbLg155 gbLg156 gbLg157 gbLg158 gbLg159 gbLg160 gbLg161 gbLg162 gbLg163 gbLg164 gbLg165 gbLg166 gbLg167 gbLg168 gbLg169 gbLg170 gbLg171 gbLg172 gbLg173 gbLg174 gbLg175 gbLg176 gbLg177 gbLg178 gbLg179 gbLg180 gbLg181 gbLg182 gbLg183 gbLg184 gbLg185 gbLg186 gbLg187 gbLg188 gbLg189 gbLg190 gbLg191 gbLg192 gbLg193 gbLg194 gbLg195 gbLg196 gbLg197 gbLg198 gbLg199 gbLg200 gbLg201 gbLg202 gbLg203 gbLg204 gbLg205 gbLg206 gbLs0 gbLo0 gbLs1 gbLo1 gbLs2 gbLs3 gbLo3 gbLs4 gbLs5 gbLo5 gbLs6 gbLs7 gbLo7 gbLs8 gbLo8 gbLs9 gbLs10 gbLo10 gbLs11 gbLs12 gbLo12 gbLs13 gbLs14 gbLo14 gbLs15 gbLs16 gbLo16 gbLs17 gbLs18 gbLo18 gbLs19 gbLs20 gbLo20 gbLs21
def in29 (v0 v34 v35 v36 : AV) (T : List (List (List CD))) (R : List (List CD)) (I J : Nat) (C : Int) : St := ⟨121, [(0, v0), (6, .own 15), (9, .ptr 9 0), (34, v34), (35, v35), (36, v36)], [(9, .box 55 [.I (I : Int), .I (J : Int), .I C]), (15, .rows 77 76 2 T (some I) (some 901)), (901, .arr 76 2 R)]⟩
set_option maxHeartbeats 40000000 in
theorem r29p (z : gbLP) (hI : z.I < z.T.length) (hJ : z.J < z.R.length) (hR : z.R.getD z.J [] = [.I z.a, .B z.ab])
    (g : FnR Try.prog 44 [.agg [.I z.a, .B z.ab], .agg [.I z.C, .B true]] [.agg [.I z.p, .B z.q]]) : AW Try.prog c29_23 (cutQ (in29 z.v0 z.v34 z.v35 z.v36 z.T (z.R.set z.J [.I z.p, .B z.q]) z.I z.J z.C)) (in29 z.v0 z.v34 z.v35 z.v36 z.T z.R z.I z.J z.C) := by
  have hI' : ((z.I : Int) < (z.T.length : Int)) = True := eq_true (by omega)
  have hJ' : ((z.J : Int) < (z.R.length : Int)) = True := eq_true (by omega)
  refine AW_regG (gbL z) gbLM gbLG (by kernel_rfl) (by kernel_rfl) (Both.mk ?_ ?_)
  · unfold in29
    (repeat' (first | refine Both.mk ?_ ?_ | ((first | refine aw ?_ | refine aD ?_ | refine aX ?_ | refine cT ?_ | refine cF ?_ | refine cR (g ..) ?_ | refine cG (g ..) ?_); try simp (disch := omega) only [go_sem, seval, reduceCtorEq, hR, hI', hJ', Int.toNat_natCast, List.length_set]) | refine aI (fun hc => ?_) fun hc => ?_ | simp (disch := omega) only [go_sem, seval, reduceCtorEq, hR, hI', hJ', Int.toNat_natCast, List.length_set] | refine aO ?_ | refine aC ?_ ?_ | refine aC' ?_ ?_ | refine aA ?_ ?_ | fail))
    all_goals first | omega | skip
  · unfold gbL
    (repeat' (first | refine Both.mk ?_ ?_ | ((first | refine aw ?_ | refine aD ?_ | refine aX ?_ | refine cT ?_ | refine cF ?_ | refine cR (g ..) ?_ | refine cG (g ..) ?_); try simp (disch := omega) only [go_sem, seval, reduceCtorEq, in29, knotsP_nil, knotsP_cons, hR, hI', hJ', Int.toNat_natCast, List.length_set]) | refine aI (fun hc => ?_) fun hc => ?_ | simp (disch := omega) only [go_sem, seval, reduceCtorEq, in29, knotsP_nil, knotsP_cons, hR, hI', hJ', Int.toNat_natCast, List.length_set] | refine aO ?_ | refine aC ?_ ?_ | refine aC' ?_ ?_ | refine aA ?_ ?_ | fail))
    all_goals first | omega | skip
theorem r29 (v0 v34 v35 v36 : AV) (T : List (List (List CD))) (R : List (List CD)) (I J : Nat) (C a p : Int) (ab q : Bool) (hI : I < T.length) (hJ : J < R.length) (hR : R.getD J [] = [.I a, .B ab])
    (g : FnR Try.prog 44 [.agg [.I a, .B ab], .agg [.I C, .B true]] [.agg [.I p, .B q]]) : AW Try.prog c29_23 (cutQ (in29 v0 v34 v35 v36 T (R.set J [.I p, .B q]) I J C)) (in29 v0 v34 v35 v36 T R I J C) := r29p ⟨v0, v34, v35, v36, T, R, I, J, C, a, p, ab, q⟩ hI hJ hR g
end Go.Proofs.Ytdmngdphgnnoiaa

open Go Go.AL Go.RowKit
namespace Go.Proofs.Ytdmngdphgnnoiaa
set_option maxRecDepth 20000
structure gdP where
  (v0 v62 v63 v66 v67 v70 v71 : AV) (T : List (List (List CD))) (R S : List (List CD)) (i j k : Nat) (a x y u p : Int) (ab xb yb v q : Bool)
section
variable (z : gdP)
def gdB (l : List (Nat × AV)) : St := ⟨121, l ++ [(0, z.v0), (6, .own 15), (10, .I (z.k : Int)), (11, .I (z.i : Int)), (12, .I (z.j : Int)), (62, z.v62), (63, z.v63), (66, z.v66), (67, z.v67), (70, z.v70), (71, z.v71)], [(15, .rows2 77 76 2 z.T z.i z.k (some 901) (some 902)), (901, .arr 76 2 z.R), (902, .arr 76 2 z.S)]⟩
def gd27:St:=gdB z [(77, .own 901), (78, .I (z.j : Int)), (84, .eptr 901 2 z.j 0), (88, .eptr 15 1 z.i 0), (90, .I (z.k : Int)), (95, .eptr 15 1 z.k 0), (97, .I (z.j : Int))]
def gd28:St:=gdB z [(77, .own 901), (78, .I (z.j : Int)), (81, .eptr 15 1 z.i 0), (83, .I (z.j : Int)), (91, .eptr 901 2 z.k 0), (95, .eptr 15 1 z.k 0), (97, .I (z.j : Int))]
def gd29:St:=gdB z [(77, .own 901), (78, .I (z.j : Int)), (81, .eptr 15 1 z.i 0), (83, .I (z.j : Int)), (88, .eptr 15 1 z.i 0), (90, .I (z.k : Int)), (98, .eptr 902 2 z.j 0)]
def gd39:St:=gdB z [(77, .own 901), (78, .I (z.j : Int)), (85, .agg [.I z.a, .B z.ab]), (88, .eptr 15 1 z.i 0), (90, .I (z.k : Int)), (95, .eptr 15 1 z.k 0), (97, .I (z.j : Int))]
def gd43:St:=gdB z [(77, .own 901), (78, .I (z.j : Int)), (81, .eptr 15 1 z.i 0), (83, .I (z.j : Int)), (92, .agg [.I z.x, .B z.xb]), (95, .eptr 15 1 z.k 0), (97, .I (z.j : Int))]
def gd47:St:=gdB z [(77, .own 901), (78, .I (z.j : Int)), (81, .eptr 15 1 z.i 0), (83, .I (z.j : Int)), (88, .eptr 15 1 z.i 0), (90, .I (z.k : Int)), (99, .agg [.I z.y, .B z.yb])]
def gd50:St:=gdB z [(76, .eptr 15 1 z.i 0), (78, .I (z.j : Int)), (84, .eptr 901 2 z.j 0), (91, .eptr 901 2 z.k 0), (95, .eptr 15 1 z.k 0), (97, .I (z.j : Int))]
def gd51:St:=gdB z [(76, .eptr 15 1 z.i 0), (78, .I (z.j : Int)), (84, .eptr 901 2 z.j 0), (88, .eptr 15 1 z.i 0), (90, .I (z.k : Int)), (98, .eptr 902 2 z.j 0)]
def gd54:St:=gdB z [(76, .eptr 15 1 z.i 0), (78, .I (z.j : Int)), (81, .eptr 15 1 z.i 0), (83, .I (z.j : Int)), (91, .eptr 901 2 z.k 0), (98, .eptr 902 2 z.j 0)]
def gd59:St:=gdB z [(77, .own 901), (78, .I (z.j : Int)), (84, .eptr 901 2 z.j 0), (91, .eptr 901 2 z.k 0), (95, .eptr 15 1 z.k 0), (97, .I (z.j : Int))]
def gd60:St:=gdB z [(77, .own 901), (78, .I (z.j : Int)), (84, .eptr 901 2 z.j 0), (88, .eptr 15 1 z.i 0), (90, .I (z.k : Int)), (98, .eptr 902 2 z.j 0)]
def gd63:St:=gdB z [(77, .own 901), (78, .I (z.j : Int)), (81, .eptr 15 1 z.i 0), (83, .I (z.j : Int)), (91, .eptr 901 2 z.k 0), (98, .eptr 902 2 z.j 0)]
def gd66:St:=gdB z [(76, .eptr 15 1 z.i 0), (78, .I (z.j : Int)), (85, .agg [.I z.a, .B z.ab]), (91, .eptr 901 2 z.k 0), (95, .eptr 15 1 z.k 0), (97, .I (z.j : Int))]
def gd67:St:=gdB z [(76, .eptr 15 1 z.i 0), (78, .I (z.j : Int)), (85, .agg [.I z.a, .B z.ab]), (88, .eptr 15 1 z.i 0), (90, .I (z.k : Int)), (98, .eptr 902 2 z.j 0)]
def gd68:St:=gdB z [(76, .eptr 15 1 z.i 0), (78, .I (z.j : Int)), (84, .eptr 901 2 z.j 0), (92, .agg [.I z.x, .B z.xb]), (95, .eptr 15 1 z.k 0), (97, .I (z.j : Int))]
def gd71:St:=gdB z [(76, .eptr 15 1 z.i 0), (78, .I (z.j : Int)), (84, .eptr 901 2 z.j 0), (88, .eptr 15 1 z.i 0), (90, .I (z.k : Int)), (99, .agg [.I z.y, .B z.yb])]
def gd72:St:=gdB z [(76, .eptr 15 1 z.i 0), (78, .I (z.j : Int)), (81, .eptr 15 1 z.i 0), (83, .I (z.j : Int)), (92, .agg [.I z.x, .B z.xb]), (98, .eptr 902 2 z.j 0)]
def gd74:St:=gdB z [(76, .eptr 15 1 z.i 0), (78, .I (z.j : Int)), (81, .eptr 15 1 z.i 0), (83, .I (z.j : Int)), (91, .eptr 901 2 z.k 0), (99, .agg [.I z.y, .B z.yb])]
def gd75:St:=gdB z [(77, .own 901), (78, .I (z.j : Int)), (85, .agg [.I z.a, .B z.ab]), (91, .eptr 901 2 z.k 0), (95, .eptr 15 1 z.k 0), (97, .I (z.j : Int))]
def gd76:St:=gdB z [(77, .own 901), (78, .I (z.j : Int)), (85, .agg [.I z.a, .B z.ab]), (88, .eptr 15 1 z.i 0), (90, .I (z.k : Int)), (98, .eptr 902 2 z.j 0)]
def gd77:St:=gdB z [(77, .own 901), (78, .I (z.j : Int)), (84, .eptr 901 2 z.j 0), (92, .agg [.I z.x, .B z.xb]), (95, .eptr 15 1 z.k 0), (97, .I (z.j : Int))]
def gd80:St:=gdB z [(77, .own 901), (78, .I (z.j : Int)), (84, .eptr 901 2 z.j 0), (88, .eptr 15 1 z.i 0), (90, .I (z.k : Int)), (99, .agg [.I z.y, .B z.yb])]
def gd81:St:=gdB z [(77, .own 901), (78, .I (z.j : Int)), (81, .eptr 15 1 z.i 0), (83, .I (z.j : Int)), (92, .agg [.I z.x, .B z.xb]), (98, .eptr 902 2 z.j 0)]
def gd83:St:=gdB z [(77, .own 901), (78, .I (z.j : Int)), (81, .eptr 15 1 z.i 0), (83, .I (z.j : Int)), (91, .eptr 901 2 z.k 0), (99, .agg [.I z.y, .B z.yb])]
def gd84:St:=gdB z [(76, .eptr 15 1 z.i 0), (78, .I (z.j : Int)), (85, .agg [.I z.a, .B z.ab]), (92, .agg [.I z.x, .B z.xb]), (95, .eptr 15 1 z.k 0), (97, .I (z.j : Int))]
def gd87:St:=gdB z [(76, .eptr 15 1 z.i 0), (78, .I (z.j : Int)), (85, .agg [.I z.a, .B z.ab]), (88, .eptr 15 1 z.i 0), (90, .I (z.k : Int)), (99, .agg [.I z.y, .B z.yb])]
def gd89:St:=gdB z [(76, .eptr 15 1 z.i 0), (78, .I (z.j : Int)), (84, .eptr 901 2 z.j 0), (91, .eptr 901 2 z.k 0), (98, .eptr 902 2 z.j 0)]
def gd92:St:=gdB z [(76, .eptr 15 1 z.i 0), (78, .I (z.j : Int)), (81, .eptr 15 1 z.i 0), (83, .I (z.j : Int)), (92, .agg [.I z.x, .B z.xb]), (99, .agg [.I z.y, .B z.yb])]
def gd94:St:=gdB z [(77, .own 901), (78, .I (z.j : Int)), (85, .agg [.I z.a, .B z.ab]), (92, .agg [.I z.x, .B z.xb]), (95, .eptr 15 1 z.k 0), (97, .I (z.j : Int))]
def gd97:St:=gdB z [(77, .own 901), (78, .I (z.j : Int)), (85, .agg [.I z.a, .B z.ab]), (88, .eptr 15 1 z.i 0), (90, .I (z.k : Int)), (99, .agg [.I z.y, .B z.yb])]
def gd99:St:=gdB z [(77, .own 901), (78, .I (z.j : Int)), (84, .eptr 901 2 z.j 0), (91, .eptr 901 2 z.k 0), (98, .eptr 902 2 z.j 0)]
def gd102:St:=gdB z [(77, .own 901), (78, .I (z.j : Int)), (81, .eptr 15 1 z.i 0), (83, .I (z.j : Int)), (92, .agg [.I z.x, .B z.xb]), (99, .agg [.I z.y, .B z.yb])]
def gd105:St:=gdB z [(76, .eptr 15 1 z.i 0), (78, .I (z.j : Int)), (85, .agg [.I z.a, .B z.ab]), (91, .eptr 901 2 z.k 0), (98, .eptr 902 2 z.j 0)]
def gd107:St:=gdB z [(76, .eptr 15 1 z.i 0), (78, .I (z.j : Int)), (84, .eptr 901 2 z.j 0), (92, .agg [.I z.x, .B z.xb]), (98, .eptr 902 2 z.j 0)]
def gd108:St:=gdB z [(76, .eptr 15 1 z.i 0), (78, .I (z.j : Int)), (84, .eptr 901 2 z.j 0), (91, .eptr 901 2 z.k 0), (99, .agg [.I z.y, .B z.yb])]
def gd112:St:=gdB z [(77, .own 901), (78, .I (z.j : Int)), (85, .agg [.I z.a, .B z.ab]), (91, .eptr 901 2 z.k 0), (98, .eptr 902 2 z.j 0)]
def gd114:St:=gdB z [(77, .own 901), (78, .I (z.j : Int)), (84, .eptr 901 2 z.j 0), (92, .agg [.I z.x, .B z.xb]), (98, .eptr 902 2 z.j 0)]
def gd115:St:=gdB z [(77, .own 901), (78, .I (z.j : Int)), (84, .eptr 901 2 z.j 0), (91, .eptr 901 2 z.k 0), (99, .agg [.I z.y, .B z.yb])]
def gd117:St:=gdB z [(77, .own 901), (78, .I (z.j : Int)), (81, .eptr 15 1 z.i 0), (83, .I (z.j : Int)), (100, .agg [.I z.u, .B z.v])]
def gd118:St:=gdB z [(76, .eptr 15 1 z.i 0), (78, .I (z.j : Int)), (85, .agg [.I z.a, .B z.ab]), (92, .agg [.I z.x, .B z.xb]), (98, .eptr 902 2 z.j 0)]
def gd119:St:=gdB z [(76, .eptr 15 1 z.i 0), (78, .I (z.j : Int)), (85, .agg [.I z.a, .B z.ab]), (91, .eptr 901 2 z.k 0), (99, .agg [.I z.y, .B z.yb])]
def gd120:St:=gdB z [(76, .eptr 15 1 z.i 0), (78, .I (z.j : Int)), (84, .eptr 901 2 z.j 0), (92, .agg [.I z.x, .B z.xb]), (99, .agg [.I z.y, .B z.yb])]
def gd122:St:=gdB z [(77, .own 901), (78, .I (z.j : Int)), (85, .agg [.I z.a, .B z.ab]), (92, .agg [.I z.x, .B z.xb]), (98, .eptr 902 2 z.j 0)]
def gd123:St:=gdB z [(77, .own 901), (78, .I (z.j : Int)), (85, .agg [.I z.a, .B z.ab]), (91, .eptr 901 2 z.k 0), (99, .agg [.I z.y, .B z.yb])]
def gd124:St:=gdB z [(77, .own 901), (78, .I (z.j : Int)), (84, .eptr 901 2 z.j 0), (92, .agg [.I z.x, .B z.xb]), (99, .agg [.I z.y, .B z.yb])]
def gd126:St:=gdB z [(76, .eptr 15 1 z.i 0), (78, .I (z.j : Int)), (85, .agg [.I z.a, .B z.ab]), (92, .agg [.I z.x, .B z.xb]), (99, .agg [.I z.y, .B z.yb])]
def gd127:St:=gdB z [(76, .eptr 15 1 z.i 0), (78, .I (z.j : Int)), (84, .eptr 901 2 z.j 0), (100, .agg [.I z.u, .B z.v])]
def gd128:St:=gdB z [(77, .own 901), (78, .I (z.j : Int)), (85, .agg [.I z.a, .B z.ab]), (92, .agg [.I z.x, .B z.xb]), (99, .agg [.I z.y, .B z.yb])]
def gd129:St:=gdB z [(77, .own 901), (78, .I (z.j : Int)), (84, .eptr 901 2 z.j 0), (100, .agg [.I z.u, .B z.v])]
def gd130:St:=gdB z [(76, .eptr 15 1 z.i 0), (78, .I (z.j : Int)), (85, .agg [.I z.a, .B z.ab]), (100, .agg [.I z.u, .B z.v])]
def gd131:St:=gdB z [(77, .own 901), (78, .I (z.j : Int)), (85, .agg [.I z.a, .B z.ab]), (100, .agg [.I z.u, .B z.v])]
def gd133:St:=gdB z [(77, .own 901), (78, .I (z.j : Int)), (101, .agg [.I z.p, .B z.q])]
def gd:List (Nat × St):=[(27, gd27 z), (28, gd28 z), (29, gd29 z), (39, gd39 z), (43, gd43 z), (47, gd47 z), (50, gd50 z), (51, gd51 z), (54, gd54 z), (59, gd59 z), (60, gd60 z), (63, gd63 z), (66, gd66 z), (67, gd67 z), (68, gd68 z), (71, gd71 z), (72, gd72 z), (74, gd74 z), (75, gd75 z), (76, gd76 z), (77, gd77 z), (80, gd80 z), (81, gd81 z), (83, gd83 z), (84, gd84 z), (87, gd87 z), (89, gd89 z), (92, gd92 z), (94, gd94 z), (97, gd97 z), (99, gd99 z), (102, gd102 z), (105, gd105 z), (107, gd107 z), (108, gd108 z), (112, gd112 z), (114, gd114 z), (115, gd115 z), (117, gd117 z), (118, gd118 z), (119, gd119 z), (120, gd120 z), (122, gd122 z), (123, gd123 z), (124, gd124 z), (126, gd126 z), (127, gd127 z), (128, gd128 z), (129, gd129 z), (130, gd130 z), (131, gd131 z), (133, gd133 z)]
theorem gdl0:lookT 0 (gd z)=none:=rfl
theorem gdl1:lookT 1 (gd z)=none:=rfl
theorem gdl2:lookT 2 (gd z)=none:=rfl
theorem gdl3:lookT 3 (gd z)=none:=rfl
theorem gdl4:lookT 4 (gd z)=none:=rfl
theorem gdl5:lookT 5 (gd z)=none:=rfl
theorem gdl6:lookT 6 (gd z)=none:=rfl
theorem gdl7:lookT 7 (gd z)=none:=rfl
theorem gdl8:lookT 8 (gd z)=none:=rfl
theorem gdl9:lookT 9 (gd z)=none:=rfl
theorem gdl10:lookT 10 (gd z)=none:=rfl
theorem gdl11:lookT 11 (gd z)=none:=rfl
theorem gdl12:lookT 12 (gd z)=none:=rfl
theorem gdl13:lookT 13 (gd z)=none:=rfl
theorem gdl14:lookT 14 (gd z)=none:=rfl
theorem gdl15:lookT 15 (gd z)=none:=rfl
theorem gdl16:lookT 16 (gd z)=none:=rfl
theorem gdl17:lookT 17 (gd z)=none:=rfl
theorem gdl18:lookT 18 (gd z)=none:=rfl
theorem gdl19:lookT 19 (gd z)=none:=rfl
theorem gdl20:lookT 20 (gd z)=none:=rfl
theorem gdl21:lookT 21 (gd z)=none:=rfl
theorem gdl22:lookT 22 (gd z)=none:=rfl
theorem gdl23:lookT 23 (gd z)=none:=rfl
theorem gdl24:lookT 24 (gd z)=none:=rfl
theorem gdl25:lookT 25 (gd z)=none:=rfl
theorem gdl26:lookT 26 (gd z)=none:=rfl
theorem gdl27:lookT 27 (gd z)=some (gd27 z):=rfl
theorem gdl28:lookT 28 (gd z)=some (gd28 z):=rfl
theorem gdl29:lookT 29 (gd z)=some (gd29 z):=rfl
theorem gdl30:lookT 30 (gd z)=none:=rfl
theorem gdl31:lookT 31 (gd z)=none:=rfl
theorem gdl32:lookT 32 (gd z)=none:=rfl
theorem gdl33:lookT 33 (gd z)=none:=rfl
theorem gdl34:lookT 34 (gd z)=none:=rfl
theorem gdl35:lookT 35 (gd z)=none:=rfl
theorem gdl36:lookT 36 (gd z)=none:=rfl
theorem gdl37:lookT 37 (gd z)=none:=rfl
theorem gdl38:lookT 38 (gd z)=none:=rfl
theorem gdl39:lookT 39 (gd z)=some (gd39 z):=rfl
theorem gdl40:lookT 40 (gd z)=none:=rfl
theorem gdl41:lookT 41 (gd z)=none:=rfl
theorem gdl42:lookT 42 (gd z)=none:=rfl
theorem gdl43:lookT 43 (gd z)=some (gd43 z):=rfl
theorem gdl44:lookT 44 (gd z)=none:=rfl
theorem gdl45:lookT 45 (gd z)=none:=rfl
theorem gdl46:lookT 46 (gd z)=none:=rfl
theorem gdl47:lookT 47 (gd z)=some (gd47 z):=rfl
theorem gdl48:lookT 48 (gd z)=none:=rfl
theorem gdl49:lookT 49 (gd z)=none:=rfl
theorem gdl50:lookT 50 (gd z)=some (gd50 z):=rfl
theorem gdl51:lookT 51 (gd z)=some (gd51 z):=rfl
theorem gdl52:lookT 52 (gd z)=none:=rfl
theorem gdl53:lookT 53 (gd z)=none:=rfl
theorem gdl54:lookT 54 (gd z)=some (gd54 z):=rfl
theorem gdl55:lookT 55 (gd z)=none:=rfl
theorem gdl56:lookT 56 (gd z)=none:=rfl
theorem gdl57:lookT 57 (gd z)=none:=rfl
theorem gdl58:lookT 58 (gd z)=none:=rfl
theorem gdl59:lookT 59 (gd z)=some (gd59 z):=rfl
theorem gdl60:lookT 60 (gd z)=some (gd60 z):=rfl
theorem gdl61:lookT 61 (gd z)=none:=rfl
theorem gdl62:lookT 62 (gd z)=none:=rfl
theorem gdl63:lookT 63 (gd z)=some (gd63 z):=rfl
theorem gdl64:lookT 64 (gd z)=none:=rfl
theorem gdl65:lookT 65 (gd z)=none:=rfl
theorem gdl66:lookT 66 (gd z)=some (gd66 z):=rfl
theorem gdl67:lookT 67 (gd z)=some (gd67 z):=rfl
theorem gdl68:lookT 68 (gd z)=some (gd68 z):=rfl
theorem gdl69:lookT 69 (gd z)=none:=rfl
theorem gdl70:lookT 70 (gd z)=none:=rfl
theorem gdl71:lookT 71 (gd z)=some (gd71 z):=rfl
theorem gdl72:lookT 72 (gd z)=some (gd72 z):=rfl
theorem gdl73:lookT 73 (gd z)=none:=rfl
theorem gdl74:lookT 74 (gd z)=some (gd74 z):=rfl
theorem gdl75:lookT 75 (gd z)=some (gd75 z):=rfl
theorem gdl76:lookT 76 (gd z)=some (gd76 z):=rfl
theorem gdl77:lookT 77 (gd z)=some (gd77 z):=rfl
theorem gdl78:lookT 78 (gd z)=none:=rfl
theorem gdl79:lookT 79 (gd z)=none:=rfl
theorem gdl80:lookT 80 (gd z)=some (gd80 z):=rfl
theorem gdl81:lookT 81 (gd z)=some (gd81 z):=rfl
theorem gdl82:lookT 82 (gd z)=none:=rfl
theorem gdl83:lookT 83 (gd z)=some (gd83 z):=rfl
theorem gdl84:lookT 84 (gd z)=some (gd84 z):=rfl
theorem gdl85:lookT 85 (gd z)=none:=rfl
theorem gdl86:lookT 86 (gd z)=none:=rfl
theorem gdl87:lookT 87 (gd z)=some (gd87 z):=rfl
theorem gdl88:lookT 88 (gd z)=none:=rfl
theorem gdl89:lookT 89 (gd z)=some (gd89 z):=rfl
theorem gdl90:lookT 90 (gd z)=none:=rfl
theorem gdl91:lookT 91 (gd z)=none:=rfl
theorem gdl92:lookT 92 (gd z)=some (gd92 z):=rfl
theorem gdl93:lookT 93 (gd z)=none:=rfl
theorem gdl94:lookT 94 (gd z)=some (gd94 z):=rfl
theorem gdl95:lookT 95 (gd z)=none:=rfl
theorem gdl96:lookT 96 (gd z)=none:=rfl
theorem gdl97:lookT 97 (gd z)=some (gd97 z):=rfl
theorem gdl98:lookT 98 (gd z)=none:=rfl
theorem gdl99:lookT 99 (gd z)=some (gd99 z):=rfl
theorem gdl100:lookT 100 (gd z)=none:=rfl
theorem gdl101:lookT 101 (gd z)=none:=rfl
theorem gdl102:lookT 102 (gd z)=some (gd102 z):=rfl
theorem gdl103:lookT 103 (gd z)=none:=rfl
theorem gdl104:lookT 104 (gd z)=none:=rfl
theorem gdl105:lookT 105 (gd z)=some (gd105 z):=rfl
theorem gdl106:lookT 106 (gd z)=none:=rfl
theorem gdl107:lookT 107 (gd z)=some (gd107 z):=rfl
theorem gdl108:lookT 108 (gd z)=some (gd108 z):=rfl
theorem gdl109:lookT 109 (gd z)=none:=rfl
theorem gdl110:lookT 110 (gd z)=none:=rfl
theorem gdl111:lookT 111 (gd z)=none:=rfl
theorem gdl112:lookT 112 (gd z)=some (gd112 z):=rfl
theorem gdl113:lookT 113 (gd z)=none:=rfl
theorem gdl114:lookT 114 (gd z)=some (gd114 z):=rfl
theorem gdl115:lookT 115 (gd z)=some (gd115 z):=rfl
theorem gdl116:lookT 116 (gd z)=none:=rfl
theorem gdl117:lookT 117 (gd z)=some (gd117 z):=rfl
theorem gdl118:lookT 118 (gd z)=some (gd118 z):=rfl
theorem gdl119:lookT 119 (gd z)=some (gd119 z):=rfl
theorem gdl120:lookT 120 (gd z)=some (gd120 z):=rfl
theorem gdl121:lookT 121 (gd z)=none:=rfl
theorem gdl122:lookT 122 (gd z)=some (gd122 z):=rfl
theorem gdl123:lookT 123 (gd z)=some (gd123 z):=rfl
theorem gdl124:lookT 124 (gd z)=some (gd124 z):=rfl
theorem gdl125:lookT 125 (gd z)=none:=rfl
theorem gdl126:lookT 126 (gd z)=some (gd126 z):=rfl
theorem gdl127:lookT 127 (gd z)=some (gd127 z):=rfl
theorem gdl128:lookT 128 (gd z)=some (gd128 z):=rfl
theorem gdl129:lookT 129 (gd z)=some (gd129 z):=rfl
theorem gdl130:lookT 130 (gd z)=some (gd130 z):=rfl
theorem gdl131:lookT 131 (gd z)=some (gd131 z):=rfl
theorem gdl132:lookT 132 (gd z)=none:=rfl
theorem gdl133:lookT 133 (gd z)=some (gd133 z):=rfl
theorem gdl134:lookT 134 (gd z)=none:=rfl
theorem gdl135:lookT 135 (gd z)=none:=rfl
end
def gdG:List GN:=[.one 0 1, .one 1 2, .one 2 3, .one 4 4, .one 5 5, .one 6 6, .one 7 7, .one 9 8, .one 12 9, .one 13 10, .one 14 11, .one 16 12, .one 19 13, .one 20 14, .one 21 15, .one 23 16, .all [(3, 17), (8, 18), (15, 19), (22, 20)], .all [(8, 21), (15, 22), (22, 23)], .one 10 24, .one 17 25, .one 24 26, .one 10 27, .one 17 28, .one 24 29, .all [(3, 27), (11, 30), (15, 31), (22, 32)], .all [(3, 28), (8, 33), (18, 34), (22, 35)], .all [(3, 29), (8, 36), (15, 37), (25, 38)], .all [(11, 39), (15, 40), (22, 41)], .all [(8, 42), (18, 43), (22, 44)], .all [(8, 45), (15, 46), (25, 47)], .all [(3, 39), (15, 48), (22, 49)], .one 17 50, .one 24 51, .one 10 50, .all [(3, 43), (8, 52), (22, 53)], .one 24 54, .one 10 51, .one 17 54, .all [(3, 47), (8, 55), (15, 56)], .all [(15, 57), (22, 58)], .one 17 59, .one 24 60, .one 10 59, .all [(8, 61), (22, 62)], .one 24 63, .one 10 60, .one 17 63, .all [(8, 64), (15, 65)], .one 17 66, .one 24 67, .all [(3, 59), (11, 66), (18, 68), (22, 69)], .all [(3, 60), (11, 67), (15, 70), (25, 71)], .one 10 68, .one 24 72, .all [(3, 63), (8, 73), (18, 72), (25, 74)], .one 10 71, .one 17 74, .one 17 75, .one 24 76, .all [(11, 75), (18, 77), (22, 78)], .all [(11, 76), (15, 79), (25, 80)], .one 10 77, .one 24 81, .all [(8, 82), (18, 81), (25, 83)], .one 10 80, .one 17 83, .all [(3, 75), (18, 84), (22, 85)], .all [(3, 76), (15, 86), (25, 87)], .all [(3, 77), (11, 84), (22, 88)], .one 24 89, .one 17 89, .all [(3, 80), (11, 87), (15, 90)], .all [(3, 81), (8, 91), (25, 92)], .one 10 89, .all [(3, 83), (8, 93), (18, 92)], .all [(18, 94), (22, 95)], .all [(15, 96), (25, 97)], .all [(11, 94), (22, 98)], .one 24 99, .one 17 99, .all [(11, 97), (15, 100)], .all [(8, 101), (25, 102)], .one 10 99, .all [(8, 103), (18, 102)], .all [(3, 94), (22, 104)], .one 24 105, .one 17 105, .all [(3, 97), (15, 106)], .one 24 107, .all [(3, 99), (11, 105), (18, 107), (25, 108)], .one 17 108, .one 10 107, .all [(3, 102), (8, 109), (26, 110)], .one 10 108, .all [(22, 111)], .one 24 112, .one 17 112, .all [(15, 113)], .one 24 114, .all [(11, 112), (18, 114), (25, 115)], .one 17 115, .one 10 114, .all [(8, 116), (26, 117)], .one 10 115, .one 24 118, .all [(3, 112), (18, 118), (25, 119)], .one 17 119, .all [(3, 114), (11, 118), (25, 120)], .all [(3, 115), (11, 119), (18, 120)], .one 10 120, .all [(3, 117), (8, 121)], .one 24 122, .all [(18, 122), (25, 123)], .one 17 123, .all [(11, 122), (25, 124)], .all [(11, 123), (18, 124)], .one 10 124, .all [(8, 125)], .all [(3, 122), (25, 126)], .all [(3, 123), (18, 126)], .all [(3, 124), (11, 126), (26, 127)], .one 10 127, .all [(25, 128)], .all [(18, 128)], .all [(11, 128), (26, 129)], .one 10 129, .all [(3, 128), (26, 130)], .all [(3, 129), (11, 130)], .all [(26, 131)], .all [(11, 131)], .all [(3, 131), (27, 132)], .all [(27, 133)], .all [(3, 133)], .one 28 134, .all [(29, 135)], .fin]
abbrev gdM:List Nat:=[0, 1, 3, 7, 23, 55, 119, 247, 759, 4855, 13047, 29431, 94967, 619255, 1667831, 3764983, 12153591, 12153599, 12153847, 12186359, 16347895, 12153855, 12186367, 16347903, 12154871, 12317431, 33125111, 12154879, 12317439, 33125119, 12156919, 12187639, 16349175, 12317687, 12579575, 16511735, 33125367, 33157879, 66679543, 12156927, 12187647, 16349183, 12317695, 12579583, 16511743, 33125375, 33157887, 66679551, 12189687, 16351223, 12318711, 33126391, 12579831, 16773879, 33288951, 66679799, 66712311, 12189695, 16351231, 12318719, 33126399, 12579839, 16773887, 33288959, 66679807, 66712319, 12320759, 33128439, 12580855, 16513015, 33159159, 66680823, 33551095, 33289207, 66843383, 12320767, 33128447, 12580863, 16513023, 33159167, 66680831, 33551103, 33289215, 66843391, 12582903, 16515063, 33161207, 66682871, 16775159, 33290231, 66713591, 33551351, 67105527, 66843639, 12582911, 16515071, 33161215, 66682879, 16775167, 33290239, 66713599, 33551359, 67105535, 66843647, 16777207, 33292279, 66715639, 33552375, 66844663, 67105783, 134214391, 16777215, 33292287, 66715647, 33552383, 66844671, 67105791, 134214399, 33554423, 66846711, 67106807, 134214647, 33554431, 66846719, 67106815, 134214655, 67108855, 134215671, 67108863, 134215679, 134217719, 134217727, 268435447, 268435455, 536870911, 1073741823]
theorem gdg0:nthG gdG 0=some (.one 0 1):=rfl
theorem gdg1:nthG gdG 1=some (.one 1 2):=rfl
theorem gdg2:nthG gdG 2=some (.one 2 3):=rfl
theorem gdg3:nthG gdG 3=some (.one 4 4):=rfl
theorem gdg4:nthG gdG 4=some (.one 5 5):=rfl
theorem gdg5:nthG gdG 5=some (.one 6 6):=rfl
theorem gdg6:nthG gdG 6=some (.one 7 7):=rfl
theorem gdg7:nthG gdG 7=some (.one 9 8):=rfl
theorem gdg8:nthG gdG 8=some (.one 12 9):=rfl
theorem gdg9:nthG gdG 9=some (.one 13 10):=rfl
theorem gdg10:nthG gdG 10=some (.one 14 11):=rfl
theorem gdg11:nthG gdG 11=some (.one 16 12):=rfl
theorem gdg12:nthG gdG 12=some (.one 19 13):=rfl
theorem gdg13:nthG gdG 13=some (.one 20 14):=rfl
theorem gdg14:nthG gdG 14=some (.one 21 15):=rfl
theorem gdg15:nthG gdG 15=some (.one 23 16):=rfl
theorem gdg16:nthG gdG 16=some (.all [(3, 17), (8, 18), (15, 19), (22, 20)]):=rfl
theorem gdg17:nthG gdG 17=some (.all [(8, 21), (15, 22), (22, 23)]):=rfl
theorem gdg18:nthG gdG 18=some (.one 10 24):=rfl
theorem gdg19:nthG gdG 19=some (.one 17 25):=rfl
theorem gdg20:nthG gdG 20=some (.one 24 26):=rfl
theorem gdg21:nthG gdG 21=some (.one 10 27):=rfl
theorem gdg22:nthG gdG 22=some (.one 17 28):=rfl
theorem gdg23:nthG gdG 23=some (.one 24 29):=rfl
theorem gdg24:nthG gdG 24=some (.all [(3, 27), (11, 30), (15, 31), (22, 32)]):=rfl
theorem gdg25:nthG gdG 25=some (.all [(3, 28), (8, 33), (18, 34), (22, 35)]):=rfl
theorem gdg26:nthG gdG 26=some (.all [(3, 29), (8, 36), (15, 37), (25, 38)]):=rfl
theorem gdg27:nthG gdG 27=some (.all [(11, 39), (15, 40), (22, 41)]):=rfl
theorem gdg28:nthG gdG 28=some (.all [(8, 42), (18, 43), (22, 44)]):=rfl
theorem gdg29:nthG gdG 29=some (.all [(8, 45), (15, 46), (25, 47)]):=rfl
theorem gdg30:nthG gdG 30=some (.all [(3, 39), (15, 48), (22, 49)]):=rfl
theorem gdg31:nthG gdG 31=some (.one 17 50):=rfl
theorem gdg32:nthG gdG 32=some (.one 24 51):=rfl
theorem gdg33:nthG gdG 33=some (.one 10 50):=rfl
theorem gdg34:nthG gdG 34=some (.all [(3, 43), (8, 52), (22, 53)]):=rfl
theorem gdg35:nthG gdG 35=some (.one 24 54):=rfl
theorem gdg36:nthG gdG 36=some (.one 10 51):=rfl
theorem gdg37:nthG gdG 37=some (.one 17 54):=rfl
theorem gdg38:nthG gdG 38=some (.all [(3, 47), (8, 55), (15, 56)]):=rfl
theorem gdg39:nthG gdG 39=some (.all [(15, 57), (22, 58)]):=rfl
theorem gdg40:nthG gdG 40=some (.one 17 59):=rfl
theorem gdg41:nthG gdG 41=some (.one 24 60):=rfl
theorem gdg42:nthG gdG 42=some (.one 10 59):=rfl
theorem gdg43:nthG gdG 43=some (.all [(8, 61), (22, 62)]):=rfl
theorem gdg44:nthG gdG 44=some (.one 24 63):=rfl
theorem gdg45:nthG gdG 45=some (.one 10 60):=rfl
theorem gdg46:nthG gdG 46=some (.one 17 63):=rfl
theorem gdg47:nthG gdG 47=some (.all [(8, 64), (15, 65)]):=rfl
theorem gdg48:nthG gdG 48=some (.one 17 66):=rfl
theorem gdg49:nthG gdG 49=some (.one 24 67):=rfl
theorem gdg50:nthG gdG 50=some (.all [(3, 59), (11, 66), (18, 68), (22, 69)]):=rfl
theorem gdg51:nthG gdG 51=some (.all [(3, 60), (11, 67), (15, 70), (25, 71)]):=rfl
theorem gdg52:nthG gdG 52=some (.one 10 68):=rfl
theorem gdg53:nthG gdG 53=some (.one 24 72):=rfl
theorem gdg54:nthG gdG 54=some (.all [(3, 63), (8, 73), (18, 72), (25, 74)]):=rfl
theorem gdg55:nthG gdG 55=some (.one 10 71):=rfl
theorem gdg56:nthG gdG 56=some (.one 17 74):=rfl
theorem gdg57:nthG gdG 57=some (.one 17 75):=rfl
theorem gdg58:nthG gdG 58=some (.one 24 76):=rfl
theorem gdg59:nthG gdG 59=some (.all [(11, 75), (18, 77), (22, 78)]):=rfl
theorem gdg60:nthG gdG 60=some (.all [(11, 76), (15, 79), (25, 80)]):=rfl
theorem gdg61:nthG gdG 61=some (.one 10 77):=rfl
theorem gdg62:nthG gdG 62=some (.one 24 81):=rfl
theorem gdg63:nthG gdG 63=some (.all [(8, 82), (18, 81), (25, 83)]):=rfl
theorem gdg64:nthG gdG 64=some (.one 10 80):=rfl
theorem gdg65:nthG gdG 65=some (.one 17 83):=rfl
theorem gdg66:nthG gdG 66=some (.all [(3, 75), (18, 84), (22, 85)]):=rfl
theorem gdg67:nthG gdG 67=some (.all [(3, 76), (15, 86), (25, 87)]):=rfl
theorem gdg68:nthG gdG 68=some (.all [(3, 77), (11, 84), (22, 88)]):=rfl
theorem gdg69:nthG gdG 69=some (.one 24 89):=rfl
theorem gdg70:nthG gdG 70=some (.one 17 89):=rfl
theorem gdg71:nthG gdG 71=some (.all [(3, 80), (11, 87), (15, 90)]):=rfl
theorem gdg72:nthG gdG 72=some (.all [(3, 81), (8, 91), (25, 92)]):=rfl
theorem gdg73:nthG gdG 73=some (.one 10 89):=rfl
theorem gdg74:nthG gdG 74=some (.all [(3, 83), (8, 93), (18, 92)]):=rfl
theorem gdg75:nthG gdG 75=some (.all [(18, 94), (22, 95)]):=rfl
theorem gdg76:nthG gdG 76=some (.all [(15, 96), (25, 97)]):=rfl
theorem gdg77:nthG gdG 77=some (.all [(11, 94), (22, 98)]):=rfl
theorem gdg78:nthG gdG 78=some (.one 24 99):=rfl
theorem gdg79:nthG gdG 79=some (.one 17 99):=rfl
theorem gdg80:nthG gdG 80=some (.all [(11, 97), (15, 100)]):=rfl
theorem gdg81:nthG gdG 81=some (.all [(8, 101), (25, 102)]):=rfl
theorem gdg82:nthG gdG 82=some (.one 10 99):=rfl
theorem gdg83:nthG gdG 83=some (.all [(8, 103), (18, 102)]):=rfl
theorem gdg84:nthG gdG 84=some (.all [(3, 94), (22, 104)]):=rfl
theorem gdg85:nthG gdG 85=some (.one 24 105):=rfl
theorem gdg86:nthG gdG 86=some (.one 17 105):=rfl
theorem gdg87:nthG gdG 87=some (.all [(3, 97), (15, 106)]):=rfl
theorem gdg88:nthG gdG 88=some (.one 24 107):=rfl
theorem gdg89:nthG gdG 89=some (.all [(3, 99), (11, 105), (18, 107), (25, 108)]):=rfl
theorem gdg90:nthG gdG 90=some (.one 17 108):=rfl
theorem gdg91:nthG gdG 91=some (.one 10 107):=rfl
theorem gdg92:nthG gdG 92=some (.all [(3, 102), (8, 109), (26, 110)]):=rfl
theorem gdg93:nthG gdG 93=some (.one 10 108):=rfl
theorem gdg94:nthG gdG 94=some (.all [(22, 111)]):=rfl
theorem gdg95:nthG gdG 95=some (.one 24 112):=rfl
theorem gdg96:nthG gdG 96=some (.one 17 112):=rfl
theorem gdg97:nthG gdG 97=some (.all [(15, 113)]):=rfl
theorem gdg98:nthG gdG 98=some (.one 24 114):=rfl
theorem gdg99:nthG gdG 99=some (.all [(11, 112), (18, 114), (25, 115)]):=rfl
theorem gdg100:nthG gdG 100=some (.one 17 115):=rfl
theorem gdg101:nthG gdG 101=some (.one 10 114):=rfl
theorem gdg102:nthG gdG 102=some (.all [(8, 116), (26, 117)]):=rfl
theorem gdg103:nthG gdG 103=some (.one 10 115):=rfl
theorem gdg104:nthG gdG 104=some (.one 24 118):=rfl
theorem gdg105:nthG gdG 105=some (.all [(3, 112), (18, 118), (25, 119)]):=rfl
theorem gdg106:nthG gdG 106=some (.one 17 119):=rfl
theorem gdg107:nthG gdG 107=some (.all [(3, 114), (11, 118), (25, 120)]):=rfl
theorem gdg108:nthG gdG 108=some (.all [(3, 115), (11, 119), (18, 120)]):=rfl
theorem gdg109:nthG gdG 109=some (.one 10 120):=rfl
theorem gdg110:nthG gdG 110=some (.all [(3, 117), (8, 121)]):=rfl
theorem gdg111:nthG gdG 111=some (.one 24 122):=rfl
theorem gdg112:nthG gdG 112=some (.all [(18, 122), (25, 123)]):=rfl
theorem gdg113:nthG gdG 113=some (.one 17 123):=rfl
theorem gdg114:nthG gdG 114=some (.all [(11, 122), (25, 124)]):=rfl
theorem gdg115:nthG gdG 115=some (.all [(11, 123), (18, 124)]):=rfl
theorem gdg116:nthG gdG 116=some (.one 10 124):=rfl
theorem gdg117:nthG gdG 117=some (.all [(8, 125)]):=rfl
theorem gdg118:nthG gdG 118=some (.all [(3, 122), (25, 126)]):=rfl
theorem gdg119:nthG gdG 119=some (.all [(3, 123), (18, 126)]):=rfl
theorem gdg120:nthG gdG 120=some (.all [(3, 124), (11, 126), (26, 127)]):=rfl
theorem gdg121:nthG gdG 121=some (.one 10 127):=rfl
theorem gdg122:nthG gdG 122=some (.all [(25, 128)]):=rfl
theorem gdg123:nthG gdG 123=some (.all [(18, 128)]):=rfl
theorem gdg124:nthG gdG 124=some (.all [(11, 128), (26, 129)]):=rfl
theorem gdg125:nthG gdG 125=some (.one 10 129):=rfl
theorem gdg126:nthG gdG 126=some (.all [(3, 128), (26, 130)]):=rfl
theorem gdg127:nthG gdG 127=some (.all [(3, 129), (11, 130)]):=rfl
theorem gdg128:nthG gdG 128=some (.all [(26, 131)]):=rfl
theorem gdg129:nthG gdG 129=some (.all [(11, 131)]):=rfl
theorem gdg130:nthG gdG 130=some (.all [(3, 131), (27, 132)]):=rfl
theorem gdg131:nthG gdG 131=some (.all [(27, 133)]):=rfl
theorem gdg132:nthG gdG 132=some (.all [(3, 133)]):=rfl
theorem gdg133:nthG gdG 133=some (.one 28 134):=rfl
theorem gdg134:nthG gdG 134=some (.all [(29, 135)]):=rfl
theorem gdg135:nthG gdG 135=some (.fin):=rfl
section
variable (P : Program) (K : St → Prop) (σ : St)
theorem gds0:atS P K c29_45L 0 σ=sGuard P K σ (some 74) (.mv (.t 6)) none (guardOf σ none):=rfl
theorem gdo0:atO K c29_45L 0 σ=SFg K σ (some 74) (.mv (.t 6)) none (guardOf σ none):=by unfold c29_45L; simp only [atO_zero, atO_succ]
theorem gds1:atS P K c29_45L 1 σ=sGuard P K σ (some 75) (.mv (.t 11)) none (guardOf σ none):=rfl
theorem gdo1:atO K c29_45L 1 σ=SFg K σ (some 75) (.mv (.t 11)) none (guardOf σ none):=by unfold c29_45L; simp only [atO_zero, atO_succ]
theorem gds2:atS P K c29_45L 2 σ=sGuard P K σ (some 76) (.iad 1 (.t 74) (.t 75)) none (guardOf σ none):=rfl
theorem gdo2:atO K c29_45L 2 σ=SFg K σ (some 76) (.iad 1 (.t 74) (.t 75)) none (guardOf σ none):=by unfold c29_45L; simp only [atO_zero, atO_succ]
theorem gds3:atS P K c29_45L 3 σ=sGuard P K σ (some 77) (.ld none (.t 76)) none (guardOf σ none):=rfl
theorem gds4:atS P K c29_45L 4 σ=sGuard P K σ (some 78) (.mv (.t 12)) none (guardOf σ none):=rfl
theorem gdo4:atO K c29_45L 4 σ=SFg K σ (some 78) (.mv (.t 12)) none (guardOf σ none):=by unfold c29_45L; simp only [atO_zero, atO_succ]
theorem gds5:atS P K c29_45L 5 σ=sGuard P K σ (some 79) (.mv (.t 6)) none (guardOf σ none):=rfl
theorem gdo5:atO K c29_45L 5 σ=SFg K σ (some 79) (.mv (.t 6)) none (guardOf σ none):=by unfold c29_45L; simp only [atO_zero, atO_succ]
theorem gds6:atS P K c29_45L 6 σ=sGuard P K σ (some 80) (.mv (.t 11)) none (guardOf σ none):=rfl
theorem gdo6:atO K c29_45L 6 σ=SFg K σ (some 80) (.mv (.t 11)) none (guardOf σ none):=by unfold c29_45L; simp only [atO_zero, atO_succ]
theorem gds7:atS P K c29_45L 7 σ=sGuard P K σ (some 81) (.iad 1 (.t 79) (.t 80)) none (guardOf σ none):=rfl
theorem gdo7:atO K c29_45L 7 σ=SFg K σ (some 81) (.iad 1 (.t 79) (.t 80)) none (guardOf σ none):=by unfold c29_45L; simp only [atO_zero, atO_succ]
theorem gds8:atS P K c29_45L 8 σ=sGuard P K σ (some 82) (.ld none (.t 81)) none (guardOf σ none):=rfl
theorem gds9:atS P K c29_45L 9 σ=sGuard P K σ (some 83) (.mv (.t 12)) none (guardOf σ none):=rfl
theorem gdo9:atO K c29_45L 9 σ=SFg K σ (some 83) (.mv (.t 12)) none (guardOf σ none):=by unfold c29_45L; simp only [atO_zero, atO_succ]
theorem gds10:atS P K c29_45L 10 σ=sGuard P K σ (some 84) (.iad 2 (.t 82) (.t 83)) none (guardOf σ none):=rfl
theorem gdo10:atO K c29_45L 10 σ=SFg K σ (some 84) (.iad 2 (.t 82) (.t 83)) none (guardOf σ none):=by unfold c29_45L; simp only [atO_zero, atO_succ]
theorem gds11:atS P K c29_45L 11 σ=sGuard P K σ (some 85) (.ld (some 2) (.t 84)) none (guardOf σ none):=rfl
theorem gds12:atS P K c29_45L 12 σ=sGuard P K σ (some 86) (.mv (.t 6)) none (guardOf σ none):=rfl
theorem gdo12:atO K c29_45L 12 σ=SFg K σ (some 86) (.mv (.t 6)) none (guardOf σ none):=by unfold c29_45L; simp only [atO_zero, atO_succ]
theorem gds13:atS P K c29_45L 13 σ=sGuard P K σ (some 87) (.mv (.t 11)) none (guardOf σ none):=rfl
theorem gdo13:atO K c29_45L 13 σ=SFg K σ (some 87) (.mv (.t 11)) none (guardOf σ none):=by unfold c29_45L; simp only [atO_zero, atO_succ]
theorem gds14:atS P K c29_45L 14 σ=sGuard P K σ (some 88) (.iad 1 (.t 86) (.t 87)) none (guardOf σ none):=rfl
theorem gdo14:atO K c29_45L 14 σ=SFg K σ (some 88) (.iad 1 (.t 86) (.t 87)) none (guardOf σ none):=by unfold c29_45L; simp only [atO_zero, atO_succ]
theorem gds15:atS P K c29_45L 15 σ=sGuard P K σ (some 89) (.ld none (.t 88)) none (guardOf σ none):=rfl
theorem gds16:atS P K c29_45L 16 σ=sGuard P K σ (some 90) (.mv (.t 10)) none (guardOf σ none):=rfl
theorem gdo16:atO K c29_45L 16 σ=SFg K σ (some 90) (.mv (.t 10)) none (guardOf σ none):=by unfold c29_45L; simp only [atO_zero, atO_succ]
theorem gds17:atS P K c29_45L 17 σ=sGuard P K σ (some 91) (.iad 2 (.t 89) (.t 90)) none (guardOf σ none):=rfl
theorem gdo17:atO K c29_45L 17 σ=SFg K σ (some 91) (.iad 2 (.t 89) (.t 90)) none (guardOf σ none):=by unfold c29_45L; simp only [atO_zero, atO_succ]
theorem gds18:atS P K c29_45L 18 σ=sGuard P K σ (some 92) (.ld (some 2) (.t 91)) none (guardOf σ none):=rfl
theorem gds19:atS P K c29_45L 19 σ=sGuard P K σ (some 93) (.mv (.t 6)) none (guardOf σ none):=rfl
theorem gdo19:atO K c29_45L 19 σ=SFg K σ (some 93) (.mv (.t 6)) none (guardOf σ none):=by unfold c29_45L; simp only [atO_zero, atO_succ]
theorem gds20:atS P K c29_45L 20 σ=sGuard P K σ (some 94) (.mv (.t 10)) none (guardOf σ none):=rfl
theorem gdo20:atO K c29_45L 20 σ=SFg K σ (some 94) (.mv (.t 10)) none (guardOf σ none):=by unfold c29_45L; simp only [atO_zero, atO_succ]
theorem gds21:atS P K c29_45L 21 σ=sGuard P K σ (some 95) (.iad 1 (.t 93) (.t 94)) none (guardOf σ none):=rfl
theorem gdo21:atO K c29_45L 21 σ=SFg K σ (some 95) (.iad 1 (.t 93) (.t 94)) none (guardOf σ none):=by unfold c29_45L; simp only [atO_zero, atO_succ]
theorem gds22:atS P K c29_45L 22 σ=sGuard P K σ (some 96) (.ld none (.t 95)) none (guardOf σ none):=rfl
theorem gds23:atS P K c29_45L 23 σ=sGuard P K σ (some 97) (.mv (.t 12)) none (guardOf σ none):=rfl
theorem gdo23:atO K c29_45L 23 σ=SFg K σ (some 97) (.mv (.t 12)) none (guardOf σ none):=by unfold c29_45L; simp only [atO_zero, atO_succ]
theorem gds24:atS P K c29_45L 24 σ=sGuard P K σ (some 98) (.iad 2 (.t 96) (.t 97)) none (guardOf σ none):=rfl
theorem gdo24:atO K c29_45L 24 σ=SFg K σ (some 98) (.iad 2 (.t 96) (.t 97)) none (guardOf σ none):=by unfold c29_45L; simp only [atO_zero, atO_succ]
theorem gds25:atS P K c29_45L 25 σ=sGuard P K σ (some 99) (.ld (some 2) (.t 98)) none (guardOf σ none):=rfl
theorem gds26:atS P K c29_45L 26 σ=sGuard P K σ (some 100) (.call 45 [(.t 92), (.t 99)]) none (guardOf σ none):=rfl
theorem gds27:atS P K c29_45L 27 σ=sGuard P K σ (some 101) (.call 44 [(.t 85), (.t 100)]) none (guardOf σ none):=rfl
theorem gds28:atS P K c29_45L 28 σ=sGuard P K σ (some 102) (.iad 2 (.t 77) (.t 78)) none (guardOf σ none):=rfl
theorem gdo28:atO K c29_45L 28 σ=SFg K σ (some 102) (.iad 2 (.t 77) (.t 78)) none (guardOf σ none):=by unfold c29_45L; simp only [atO_zero, atO_succ]
theorem gds29:atS P K c29_45L 29 σ=sGuard P K σ none (.st (some 2) (.t 102) (.t 101)) none (guardOf σ none):=rfl
end
attribute [go_sem] gdB gd27 gd28 gd29 gd39 gd43 gd47 gd50 gd51 gd54 gd59 gd60 gd63 gd66 gd67 gd68 gd71 gd72 gd74 gd75 gd76 gd77 gd80 gd81 gd83 gd84 gd87 gd89 gd92 gd94 gd97 gd99 gd102 gd105 gd107 gd108 gd112 gd114 gd115 gd117 gd118 gd119 gd120 gd122 gd123 gd124 gd126 gd127 gd128 gd129 gd130 gd131 gd133 gdl0 gdl1 gdl2 gdl3 gdl4 gdl5 gdl6 gdl7 gdl8 gdl9 gdl10 gdl11 gdl12 gdl13 gdl14 gdl15 gdl16 gdl17 gdl18 gdl19 gdl20 gdl21 gdl22 gdl23 gdl24 gdl25 gdl26 gdl27 gdl28 gdl29 gdl30 gdl31 gdl32 gdl33 gdl34 gdl35 gdl36 gdl37 gdl38 gdl39 gdl40 gdl41 gdl42 gdl43 gdl44 gdl45 gdl46 gdl47 gdl48 gdl49 gdl50 gdl51 gdl52 gdl53 gdl54 gdl55 gdl56 gdl57 gdl58 gdl59 gdl60 gdl61 gdl62 gdl63 gdl64 gdl65 gdl66 gdl67 gdl68 gdl69 gdl70 gdl71 gdl72 gdl73 gdl74 gdl75 gdl76 gdl77 gdl78 gdl79 gdl80 gdl81 gdl82 gdl83 gdl84 gdl85 gdl86 gdl87 gdl88 gdl89 gdl90 gdl91 gdl92 gdl93 gdl94 gdl95 gdl96 gdl97 gdl98 gdl99 gdl100 gdl101 gdl102 gdl103 gdl104 gdl105 gdl106 gdl107 gdl108 gdl109 gdl110 gdl111 gdl112 gdl113 gdl114 gdl115 gdl116 gdl117 gdl118 gdl119 gdl120 gdl121 gdl122 gdl123 gdl124 gdl125 gdl126 gdl127 gdl128 gdl129 gdl130 gdl131 gdl132 gdl133 gdl134 gdl135 gdg0 gdg1 gdg2 gdg3 gdg4 gdg5 gdg6 gdg7 gdg8 gdg9 gdg10 gdg11 gdg12 gdg13 gdg14 gdg15 gdg16 gdg17 gdg18 gdg19 gdg20 gdg21 gdg22 gdg23 gdg24 gdg25 gdg26 gdg27 gdg28 gdg29 gdg30 gdg31 gdg32 gdg33 gdg34 gdg35 gdg36 gdg37 gdg38 gdg39 gdg40 gdg41 gdg42 gdg43 gdg44 gdg45 gdg46 gdg47 gdg48 gdg49 gdg50 gdg51 gdg52 gdg53 gdg54 gdg55 gdg56 gdg57 gdg58 gdg59 gdg60 gdg61 gdg62 gdg63 gdg64 gdg65 gdg66 gdg67 gdg68 gdg69 gdg70 gdg71 gdg72 gdg73 gdg74 gdg75 gdg76 gdg77 gdg78 gdg79 gdg80 gdg81 gdg82 gdg83 gdg84 gdg85 gdg86 gdg87 gdg88 gdg89 gdg90 gdg91 gdg92 gdg93 gdg94 gdg95 gdg96 gdg97 gdg98 gdg99 gdg100 gdg101 gdg102 gdg103 gdg104 gdg105 gdg106 gdg107 gdg108 gdg109 gdg110 gdg111 gdg112 gdg113 gdg114 gdg115 gdg116 gdg117 gdg118 gdg119 gdg120 gdg121 gdg122 gdg123 gdg124 gdg125 gdg126 gdg127 gdg128 gdg129 gdg130 gdg131 gdg132 gdg133 gdg134 gdg135 gds0 gdo0 gds1 gdo1 gds2 gdo2 gds3 gds4 gdo4 gds5 gdo5 gds6 gdo6 gds7 gdo7 gds8 gds9 gdo9 gds10 gdo10 gds11 gds12 gdo12 gds13 gdo13 gds14 gdo14 gds15 gds16 gdo16 gds17 gdo17 gds18 gds19 gdo19 gds20 gdo20 gds21 gdo21 gds22 gds23 gdo23 gds24 gdo24 gds25 gds26 gds27 gds28 gdo28 gds29
def ingd (v0 v62 v63 v66 v67 v70 v71 : AV) (T : List (List (List CD))) (R S : List (List CD)) (i j k : Nat) : St := ⟨121, [(0, v0), (6, .own 15), (10, .I (k : Int)), (11, .I (i : Int)), (12, .I (j : Int)), (62, v62), (63, v63), (66, v66), (67, v67), (70, v70), (71, v71)], [(15, .rows2 77 76 2 T i k (some 901) (some 902)), (901, .arr 76 2 R), (902, .arr 76 2 S)]⟩
set_option maxHeartbeats 40000000 in
theorem rgdp (z : gdP) (hi : z.i < z.T.length) (hk : z.k < z.T.length) (hj : z.j < z.R.length) (hkl : z.k < z.R.length)
    (hR : z.R.getD z.j [] = [.I z.a, .B z.ab]) (hX : z.R.getD z.k [] = [.I z.x, .B z.xb]) (hS : z.S.getD z.j [] = [.I z.y, .B z.yb]) (hSl : z.j < z.S.length) (hik : z.i ≠ z.k)
    (g1 : FnR Try.prog 45 [.agg [.I z.x, .B z.xb], .agg [.I z.y, .B z.yb]] [.agg [.I z.u, .B z.v]])
    (g2 : FnR Try.prog 44 [.agg [.I z.a, .B z.ab], .agg [.I z.u, .B z.v]] [.agg [.I z.p, .B z.q]]) : AW Try.prog c29_45 (cutQ (ingd z.v0 z.v62 z.v63 z.v66 z.v67 z.v70 z.v71 z.T (z.R.set z.j [.I z.p, .B z.q]) z.S z.i z.j z.k)) (ingd z.v0 z.v62 z.v63 z.v66 z.v67 z.v70 z.v71 z.T z.R z.S z.i z.j z.k) := by
  have hdk : decide (z.k = z.i) = false := decide_eq_false fun h => hik h.symm
  have hSj : ((z.j : Int) < (z.S.length : Int)) = True := eq_true (by omega)
  have hI' : ((z.i : Int) < (z.T.length : Int)) = True := eq_true (by omega)
  have hK' : ((z.k : Int) < (z.T.length : Int)) = True := eq_true (by omega)
  have hJ' : ((z.j : Int) < (z.R.length : Int)) = True := eq_true (by omega)
  have hL' : ((z.k : Int) < (z.R.length : Int)) = True := eq_true (by omega)
  refine AW_regG (gd z) gdM gdG (by kernel_rfl) (by kernel_rfl) (Both.mk ?_ ?_)
  · unfold ingd
    (repeat' (first | refine Both.mk ?_ ?_ | ((first | refine aw ?_ | refine aD ?_ | refine aX ?_ | refine cT ?_ | refine cF ?_ | refine cR (g1 ..) ?_ | refine cG (g1 ..) ?_ | refine cR (g2 ..) ?_ | refine cG (g2 ..) ?_); try simp (disch := omega) only [go_sem, seval, reduceCtorEq, hR, hX, hS, hdk, hSj, hI', hK', hJ', hL', Int.toNat_natCast, List.length_set]) | refine aI (fun hc => ?_) fun hc => ?_ | simp (disch := omega) only [go_sem, seval, reduceCtorEq, hR, hX, hS, hdk, hSj, hI', hK', hJ', hL', Int.toNat_natCast, List.length_set] | refine aO ?_ | refine aC ?_ ?_ | refine aC' ?_ ?_ | refine aA ?_ ?_ | fail))
    all_goals first | omega | skip
  · unfold gd
    (repeat' (first | refine Both.mk ?_ ?_ | ((first | refine aw ?_ | refine aD ?_ | refine aX ?_ | refine cT ?_ | refine cF ?_ | refine cR (g1 ..) ?_ | refine cG (g1 ..) ?_ | refine cR (g2 ..) ?_ | refine cG (g2 ..) ?_); try simp (disch := omega) only [go_sem, seval, reduceCtorEq, ingd, knotsP_nil, knotsP_cons, hR, hX, hS, hdk, hSj, hI', hK', hJ', hL', Int.toNat_natCast, List.length_set]) | refine aI (fun hc => ?_) fun hc => ?_ | simp (disch := omega) only [go_sem, seval, reduceCtorEq, ingd, knotsP_nil, knotsP_cons, hR, hX, hS, hdk, hSj, hI', hK', hJ', hL', Int.toNat_natCast, List.length_set] | refine aO ?_ | refine aC ?_ ?_ | refine aC' ?_ ?_ | refine aA ?_ ?_ | fail))
    all_goals first | omega | skip
theorem rgd (v0 v62 v63 v66 v67 v70 v71 : AV) (T : List (List (List CD))) (R S : List (List CD)) (i j k : Nat) (a x y u p : Int) (ab xb yb v q : Bool) (hi : i < T.length) (hk : k < T.length) (hj : j < R.length) (hkl : k < R.length)
    (hR : R.getD j [] = [.I a, .B ab]) (hX : R.getD k [] = [.I x, .B xb]) (hS : S.getD j [] = [.I y, .B yb]) (hSl : j < S.length) (hik : i ≠ k)
    (g1 : FnR Try.prog 45 [.agg [.I x, .B xb], .agg [.I y, .B yb]] [.agg [.I u, .B v]])
    (g2 : FnR Try.prog 44 [.agg [.I a, .B ab], .agg [.I u, .B v]] [.agg [.I p, .B q]]) : AW Try.prog c29_45 (cutQ (ingd v0 v62 v63 v66 v67 v70 v71 T (R.set j [.I p, .B q]) S i j k)) (ingd v0 v62 v63 v66 v67 v70 v71 T R S i j k) := rgdp ⟨v0, v62, v63, v66, v67, v70, v71, T, R, S, i, j, k, a, x, y, u, p, ab, xb, yb, v, q⟩ hi hk hj hkl hR hX hS hSl hik g1 g2
end Go.Proofs.Ytdmngdphgnnoiaa

