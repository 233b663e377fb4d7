/-
  Lemmas for the proof: no statement of its own.
-/
import Derived.Test.YtdmngdphgnnoiaaAlD
import Derived.Test.YtdmngdphgnnoiaaWalkD
import Derived.Test.YtdmngdphgnnoiaaPlainA
set_option linter.unusedVariables false
set_option linter.unusedSimpArgs false
open Go Go.AL Go.RowKit
namespace Go.Proofs.Ytdmngdphgnnoiaa
set_option maxRecDepth 20000
/- coinage/difference.walks -/
abbrev c46_1 : AC := .reg [⟨(some 10), .mv (.k (.c .nil)), none⟩] false
abbrev c46_2 : AC := .reg [⟨(some 16), .mv (.t 0), none⟩,
  ⟨(some 17), .mks 76 2 16 [(.sc (.int .i64 0)), (.sc (.bool false))] (.t 16) (.t 16), none⟩,
  ⟨(some 18), .bslice 77 1 [(.t 17)], none⟩,
  ⟨(some 11), .mv (.t 18), none⟩] false
abbrev c46_3 : AC := .reg [⟨(some 19), .mv (.t 11), none⟩,
  ⟨(some 20), .iad 1 (.t 19) (.k (.I 0)), none⟩,
  ⟨(some 21), .ld none (.t 20), none⟩,
  ⟨(some 22), .mv (.t 3), none⟩,
  ⟨(some 23), .build [(.I 0), (.B false)] [(0, 1, (.k (.I 0))), (1, 1, (.k (.B true)))], none⟩,
  ⟨(some 24), .iad 2 (.t 21) (.t 22), none⟩,
  ⟨none, .st (some 2) (.t 24) (.t 23), none⟩] false
abbrev c46_4 : AC := .reg [⟨(some 25), .mv (.t 4), none⟩,
  ⟨(some 26), .mv (.k (.I 0)), none⟩] false
abbrev c46_5 : AC := .reg [⟨(some 27), .bin .lss (.t 26) (.t 25), none⟩] false
abbrev c46_6 : AC := .cond (.t 27) .skip (.exit 0)
abbrev c46_7 : AC := .reg [⟨(some 28), .mv (.t 0), none⟩,
  ⟨(some 29), .mks 76 2 16 [(.sc (.int .i64 0)), (.sc (.bool false))] (.t 28) (.t 28), none⟩,
  ⟨(some 12), .mv (.t 29), none⟩] false
abbrev c46_8 : AC := .reg [⟨(some 30), .mv (.t 11), none⟩,
  ⟨(some 31), .mv (.t 11), none⟩,
  ⟨(some 32), .len (.t 31), none⟩,
  ⟨(some 33), .bin .sub (.t 32) (.k (.I 1)), none⟩,
  ⟨(some 34), .iad 1 (.t 30) (.t 33), none⟩,
  ⟨(some 35), .ld none (.t 34), none⟩,
  ⟨(some 13), .mv (.t 35), none⟩] false
abbrev c46_9 : AC := .reg [⟨(some 36), .mv (.t 1), none⟩,
  ⟨(some 37), .mv (.t 2), none⟩,
  ⟨(some 38), .slc 3 (.t 36) (some (.t 37)) none, none⟩,
  ⟨(some 39), .len (.t 38), none⟩,
  ⟨(some 40), .mv (.k (.I 0)), none⟩] false
abbrev c46_10 : AC := .reg [⟨(some 41), .bin .lss (.t 40) (.t 39), none⟩] false
abbrev c46_11 : AC := .cond (.t 41) .skip (.exit 2)
abbrev c46_12 : AC := .reg [⟨(some 42), .iad 3 (.t 38) (.t 40), none⟩,
  ⟨(some 43), .ld (some 3) (.t 42), none⟩,
  ⟨(some 15), .alloc 55 [(.I 0), (.I 0), (.I 0)], none⟩,
  ⟨none, .st (some 3) (.t 15) (.t 43), none⟩] false
def c46_13L : List AP := [⟨(some 44), .mv (.t 12), none⟩,
  ⟨(some 45), .fad 0 (.t 15), none⟩,
  ⟨(some 46), .ld none (.t 45), none⟩,
  ⟨(some 47), .mv (.t 12), none⟩,
  ⟨(some 48), .fad 0 (.t 15), none⟩,
  ⟨(some 49), .ld none (.t 48), none⟩,
  ⟨(some 50), .iad 2 (.t 47) (.t 49), none⟩,
  ⟨(some 51), .ld (some 2) (.t 50), none⟩,
  ⟨(some 52), .fad 2 (.t 15), none⟩,
  ⟨(some 53), .ld none (.t 52), none⟩,
  ⟨(some 54), .build [(.I 0), (.B false)] [(0, 1, (.t 53)), (1, 1, (.k (.B true)))], none⟩,
  ⟨(some 55), .mv (.t 13), none⟩,
  ⟨(some 56), .fad 1 (.t 15), none⟩,
  ⟨(some 57), .ld none (.t 56), none⟩,
  ⟨(some 58), .iad 2 (.t 55) (.t 57), none⟩,
  ⟨(some 59), .ld (some 2) (.t 58), none⟩,
  ⟨(some 60), .call 45 [(.t 54), (.t 59)], none⟩,
  ⟨(some 61), .call 44 [(.t 51), (.t 60)], none⟩,
  ⟨(some 62), .iad 2 (.t 44) (.t 46), none⟩,
  ⟨none, .st (some 2) (.t 62) (.t 61), none⟩]
abbrev c46_13 : AC := .regG c46_13L [0, 0, 2, 0, 0, 16, 40, 64, 0, 256, 512, 0, 0, 4096, 10240, 16384, 33792, 65664, 262143, 524287] [0, 0, 2, 0, 0, 16, 40, 64, 0, 256, 512, 0, 0, 4096, 10240, 16384, 33792, 65664, 5, 393216]
abbrev c46_14 : AC := .seq c46_12 c46_13
abbrev c46_15 : AC := .block 3 c46_14
abbrev c46_16 : AC := .reg [⟨(some 63), .bin .add (.t 40) (.k (.I 1)), none⟩,
  ⟨(some 40), .mv (.t 63), none⟩] false
abbrev c46_17 : AC := .seq c46_15 c46_16
abbrev c46_18 : AC := .seq c46_11 c46_17
abbrev c46_19 : AC := .seq c46_10 c46_18
abbrev c46_20 : AC := .loop c46_19
abbrev c46_21 : AC := .block 2 c46_20
abbrev c46_22 : AC := .seq c46_9 c46_21
abbrev c46_23 : AC := .reg [⟨(some 64), .mv (.t 11), none⟩,
  ⟨(some 65), .mv (.t 12), none⟩,
  ⟨(some 66), .bslice 77 1 [(.t 65)], none⟩,
  ⟨(some 67), .app 77 1 24 (.t 64) (.t 66), none⟩,
  ⟨(some 11), .mv (.t 67), none⟩] false
abbrev c46_24 : AC := .seq c46_22 c46_23
abbrev c46_25 : AC := .seq c46_8 c46_24
abbrev c46_26 : AC := .seq c46_7 c46_25
abbrev c46_27 : AC := .block 1 c46_26
abbrev c46_28 : AC := .reg [⟨(some 68), .bin .add (.t 26) (.k (.I 1)), none⟩,
  ⟨(some 26), .mv (.t 68), none⟩] false
abbrev c46_29 : AC := .seq c46_27 c46_28
abbrev c46_30 : AC := .seq c46_6 c46_29
abbrev c46_31 : AC := .seq c46_5 c46_30
abbrev c46_32 : AC := .loop c46_31
abbrev c46_33 : AC := .block 0 c46_32
abbrev c46_34 : AC := .seq c46_4 c46_33
abbrev c46_35 : AC := .reg [⟨(some 69), .mv (.t 11), none⟩,
  ⟨(some 10), .mv (.t 69), none⟩] false
abbrev c46_36 : AC := .seq c46_35 .ret
abbrev c46_37 : AC := .seq c46_34 c46_36
abbrev c46_38 : AC := .seq c46_3 c46_37
abbrev c46_39 : AC := .seq c46_2 c46_38
abbrev c46_40 : AC := .seq c46_1 c46_39
abbrev c46 : AC := c46_40
theorem code46 : fnCode Try.prog 46 = some (c46, [10], 70) := by kernel_rfl
structure gwP where
  (v0 v1 v2 v25 v26 v38 v39 v40 : AV) (T R L : List (List CD)) (I J : Nat) (C a y u p : Int) (ab yb v q : Bool)
section
variable (z : gwP)
def gwB (l : List (Nat × AV)) : St := ⟨70, l ++ [(0, z.v0), (1, z.v1), (2, z.v2), (11, .own 18), (12, .own 29), (13, .c (.sl 2 z.L)), (15, .ptr 15 0), (25, z.v25), (26, z.v26), (38, z.v38), (39, z.v39), (40, z.v40)], [(15, .box 55 [.I (z.I : Int), .I (z.J : Int), .I z.C]), (18, .arr 77 1 z.T), (29, .arr 76 2 z.R)]⟩
def gw18:St:=gwB z [(44, .own 29), (46, .I (z.I : Int)), (50, .eptr 29 2 z.I 0), (52, .ptr 15 2), (55, .c (.sl 2 z.L)), (56, .ptr 15 1)]
def gw19:St:=gwB z [(44, .own 29), (46, .I (z.I : Int)), (47, .own 29), (48, .ptr 15 0), (54, .agg [.I z.C, .B true]), (55, .c (.sl 2 z.L)), (56, .ptr 15 1)]
def gw20:St:=gwB z [(44, .own 29), (46, .I (z.I : Int)), (47, .own 29), (48, .ptr 15 0), (52, .ptr 15 2), (58, .dptr [.I z.y, .B z.yb])]
def gw29:St:=gwB z [(44, .own 29), (46, .I (z.I : Int)), (51, .agg [.I z.a, .B z.ab]), (52, .ptr 15 2), (55, .c (.sl 2 z.L)), (56, .ptr 15 1)]
def gw36:St:=gwB z [(44, .own 29), (46, .I (z.I : Int)), (47, .own 29), (48, .ptr 15 0), (52, .ptr 15 2), (59, .agg [.I z.y, .B z.yb])]
def gw39:St:=gwB z [(44, .own 29), (45, .ptr 15 0), (50, .eptr 29 2 z.I 0), (54, .agg [.I z.C, .B true]), (55, .c (.sl 2 z.L)), (56, .ptr 15 1)]
def gw40:St:=gwB z [(44, .own 29), (45, .ptr 15 0), (50, .eptr 29 2 z.I 0), (52, .ptr 15 2), (58, .dptr [.I z.y, .B z.yb])]
def gw41:St:=gwB z [(44, .own 29), (45, .ptr 15 0), (47, .own 29), (48, .ptr 15 0), (54, .agg [.I z.C, .B true]), (58, .dptr [.I z.y, .B z.yb])]
def gw46:St:=gwB z [(44, .own 29), (46, .I (z.I : Int)), (50, .eptr 29 2 z.I 0), (54, .agg [.I z.C, .B true]), (55, .c (.sl 2 z.L)), (56, .ptr 15 1)]
def gw47:St:=gwB z [(44, .own 29), (46, .I (z.I : Int)), (50, .eptr 29 2 z.I 0), (52, .ptr 15 2), (58, .dptr [.I z.y, .B z.yb])]
def gw48:St:=gwB z [(44, .own 29), (46, .I (z.I : Int)), (47, .own 29), (48, .ptr 15 0), (54, .agg [.I z.C, .B true]), (58, .dptr [.I z.y, .B z.yb])]
def gw51:St:=gwB z [(44, .own 29), (45, .ptr 15 0), (51, .agg [.I z.a, .B z.ab]), (54, .agg [.I z.C, .B true]), (55, .c (.sl 2 z.L)), (56, .ptr 15 1)]
def gw52:St:=gwB z [(44, .own 29), (45, .ptr 15 0), (51, .agg [.I z.a, .B z.ab]), (52, .ptr 15 2), (58, .dptr [.I z.y, .B z.yb])]
def gw55:St:=gwB z [(44, .own 29), (45, .ptr 15 0), (50, .eptr 29 2 z.I 0), (52, .ptr 15 2), (59, .agg [.I z.y, .B z.yb])]
def gw57:St:=gwB z [(44, .own 29), (45, .ptr 15 0), (47, .own 29), (48, .ptr 15 0), (54, .agg [.I z.C, .B true]), (59, .agg [.I z.y, .B z.yb])]
def gw58:St:=gwB z [(44, .own 29), (46, .I (z.I : Int)), (51, .agg [.I z.a, .B z.ab]), (54, .agg [.I z.C, .B true]), (55, .c (.sl 2 z.L)), (56, .ptr 15 1)]
def gw59:St:=gwB z [(44, .own 29), (46, .I (z.I : Int)), (51, .agg [.I z.a, .B z.ab]), (52, .ptr 15 2), (58, .dptr [.I z.y, .B z.yb])]
def gw62:St:=gwB z [(44, .own 29), (46, .I (z.I : Int)), (50, .eptr 29 2 z.I 0), (52, .ptr 15 2), (59, .agg [.I z.y, .B z.yb])]
def gw64:St:=gwB z [(44, .own 29), (46, .I (z.I : Int)), (47, .own 29), (48, .ptr 15 0), (54, .agg [.I z.C, .B true]), (59, .agg [.I z.y, .B z.yb])]
def gw67:St:=gwB z [(44, .own 29), (45, .ptr 15 0), (51, .agg [.I z.a, .B z.ab]), (52, .ptr 15 2), (59, .agg [.I z.y, .B z.yb])]
def gw68:St:=gwB z [(44, .own 29), (45, .ptr 15 0), (50, .eptr 29 2 z.I 0), (54, .agg [.I z.C, .B true]), (58, .dptr [.I z.y, .B z.yb])]
def gw74:St:=gwB z [(44, .own 29), (46, .I (z.I : Int)), (51, .agg [.I z.a, .B z.ab]), (52, .ptr 15 2), (59, .agg [.I z.y, .B z.yb])]
def gw75:St:=gwB z [(44, .own 29), (46, .I (z.I : Int)), (50, .eptr 29 2 z.I 0), (54, .agg [.I z.C, .B true]), (58, .dptr [.I z.y, .B z.yb])]
def gw78:St:=gwB z [(44, .own 29), (46, .I (z.I : Int)), (47, .own 29), (48, .ptr 15 0), (60, .agg [.I z.u, .B z.v])]
def gw79:St:=gwB z [(44, .own 29), (45, .ptr 15 0), (51, .agg [.I z.a, .B z.ab]), (54, .agg [.I z.C, .B true]), (58, .dptr [.I z.y, .B z.yb])]
def gw81:St:=gwB z [(44, .own 29), (45, .ptr 15 0), (50, .eptr 29 2 z.I 0), (54, .agg [.I z.C, .B true]), (59, .agg [.I z.y, .B z.yb])]
def gw83:St:=gwB z [(44, .own 29), (46, .I (z.I : Int)), (51, .agg [.I z.a, .B z.ab]), (54, .agg [.I z.C, .B true]), (58, .dptr [.I z.y, .B z.yb])]
def gw85:St:=gwB z [(44, .own 29), (46, .I (z.I : Int)), (50, .eptr 29 2 z.I 0), (54, .agg [.I z.C, .B true]), (59, .agg [.I z.y, .B z.yb])]
def gw87:St:=gwB z [(44, .own 29), (45, .ptr 15 0), (51, .agg [.I z.a, .B z.ab]), (54, .agg [.I z.C, .B true]), (59, .agg [.I z.y, .B z.yb])]
def gw88:St:=gwB z [(44, .own 29), (45, .ptr 15 0), (50, .eptr 29 2 z.I 0), (60, .agg [.I z.u, .B z.v])]
def gw89:St:=gwB z [(44, .own 29), (46, .I (z.I : Int)), (51, .agg [.I z.a, .B z.ab]), (54, .agg [.I z.C, .B true]), (59, .agg [.I z.y, .B z.yb])]
def gw90:St:=gwB z [(44, .own 29), (46, .I (z.I : Int)), (50, .eptr 29 2 z.I 0), (60, .agg [.I z.u, .B z.v])]
def gw91:St:=gwB z [(44, .own 29), (45, .ptr 15 0), (51, .agg [.I z.a, .B z.ab]), (60, .agg [.I z.u, .B z.v])]
def gw92:St:=gwB z [(44, .own 29), (46, .I (z.I : Int)), (51, .agg [.I z.a, .B z.ab]), (60, .agg [.I z.u, .B z.v])]
def gw94:St:=gwB z [(44, .own 29), (46, .I (z.I : Int)), (61, .agg [.I z.p, .B z.q])]
def gw:List (Nat × St):=[(18, gw18 z), (19, gw19 z), (20, gw20 z), (29, gw29 z), (36, gw36 z), (39, gw39 z), (40, gw40 z), (41, gw41 z), (46, gw46 z), (47, gw47 z), (48, gw48 z), (51, gw51 z), (52, gw52 z), (55, gw55 z), (57, gw57 z), (58, gw58 z), (59, gw59 z), (62, gw62 z), (64, gw64 z), (67, gw67 z), (68, gw68 z), (74, gw74 z), (75, gw75 z), (78, gw78 z), (79, gw79 z), (81, gw81 z), (83, gw83 z), (85, gw85 z), (87, gw87 z), (88, gw88 z), (89, gw89 z), (90, gw90 z), (91, gw91 z), (92, gw92 z), (94, gw94 z)]
theorem gwl0:lookT 0 (gw z)=none:=rfl
theorem gwl1:lookT 1 (gw z)=none:=rfl
theorem gwl2:lookT 2 (gw z)=none:=rfl
theorem gwl3:lookT 3 (gw z)=none:=rfl
theorem gwl4:lookT 4 (gw z)=none:=rfl
theorem gwl5:lookT 5 (gw z)=none:=rfl
theorem gwl6:lookT 6 (gw z)=none:=rfl
theorem gwl7:lookT 7 (gw z)=none:=rfl
theorem gwl8:lookT 8 (gw z)=none:=rfl
theorem gwl9:lookT 9 (gw z)=none:=rfl
theorem gwl10:lookT 10 (gw z)=none:=rfl
theorem gwl11:lookT 11 (gw z)=none:=rfl
theorem gwl12:lookT 12 (gw z)=none:=rfl
theorem gwl13:lookT 13 (gw z)=none:=rfl
theorem gwl14:lookT 14 (gw z)=none:=rfl
theorem gwl15:lookT 15 (gw z)=none:=rfl
theorem gwl16:lookT 16 (gw z)=none:=rfl
theorem gwl17:lookT 17 (gw z)=none:=rfl
theorem gwl18:lookT 18 (gw z)=some (gw18 z):=rfl
theorem gwl19:lookT 19 (gw z)=some (gw19 z):=rfl
theorem gwl20:lookT 20 (gw z)=some (gw20 z):=rfl
theorem gwl21:lookT 21 (gw z)=none:=rfl
theorem gwl22:lookT 22 (gw z)=none:=rfl
theorem gwl23:lookT 23 (gw z)=none:=rfl
theorem gwl24:lookT 24 (gw z)=none:=rfl
theorem gwl25:lookT 25 (gw z)=none:=rfl
theorem gwl26:lookT 26 (gw z)=none:=rfl
theorem gwl27:lookT 27 (gw z)=none:=rfl
theorem gwl28:lookT 28 (gw z)=none:=rfl
theorem gwl29:lookT 29 (gw z)=some (gw29 z):=rfl
theorem gwl30:lookT 30 (gw z)=none:=rfl
theorem gwl31:lookT 31 (gw z)=none:=rfl
theorem gwl32:lookT 32 (gw z)=none:=rfl
theorem gwl33:lookT 33 (gw z)=none:=rfl
theorem gwl34:lookT 34 (gw z)=none:=rfl
theorem gwl35:lookT 35 (gw z)=none:=rfl
theorem gwl36:lookT 36 (gw z)=some (gw36 z):=rfl
theorem gwl37:lookT 37 (gw z)=none:=rfl
theorem gwl38:lookT 38 (gw z)=none:=rfl
theorem gwl39:lookT 39 (gw z)=some (gw39 z):=rfl
theorem gwl40:lookT 40 (gw z)=some (gw40 z):=rfl
theorem gwl41:lookT 41 (gw z)=some (gw41 z):=rfl
theorem gwl42:lookT 42 (gw z)=none:=rfl
theorem gwl43:lookT 43 (gw z)=none:=rfl
theorem gwl44:lookT 44 (gw z)=none:=rfl
theorem gwl45:lookT 45 (gw z)=none:=rfl
theorem gwl46:lookT 46 (gw z)=some (gw46 z):=rfl
theorem gwl47:lookT 47 (gw z)=some (gw47 z):=rfl
theorem gwl48:lookT 48 (gw z)=some (gw48 z):=rfl
theorem gwl49:lookT 49 (gw z)=none:=rfl
theorem gwl50:lookT 50 (gw z)=none:=rfl
theorem gwl51:lookT 51 (gw z)=some (gw51 z):=rfl
theorem gwl52:lookT 52 (gw z)=some (gw52 z):=rfl
theorem gwl53:lookT 53 (gw z)=none:=rfl
theorem gwl54:lookT 54 (gw z)=none:=rfl
theorem gwl55:lookT 55 (gw z)=some (gw55 z):=rfl
theorem gwl56:lookT 56 (gw z)=none:=rfl
theorem gwl57:lookT 57 (gw z)=some (gw57 z):=rfl
theorem gwl58:lookT 58 (gw z)=some (gw58 z):=rfl
theorem gwl59:lookT 59 (gw z)=some (gw59 z):=rfl
theorem gwl60:lookT 60 (gw z)=none:=rfl
theorem gwl61:lookT 61 (gw z)=none:=rfl
theorem gwl62:lookT 62 (gw z)=some (gw62 z):=rfl
theorem gwl63:lookT 63 (gw z)=none:=rfl
theorem gwl64:lookT 64 (gw z)=some (gw64 z):=rfl
theorem gwl65:lookT 65 (gw z)=none:=rfl
theorem gwl66:lookT 66 (gw z)=none:=rfl
theorem gwl67:lookT 67 (gw z)=some (gw67 z):=rfl
theorem gwl68:lookT 68 (gw z)=some (gw68 z):=rfl
theorem gwl69:lookT 69 (gw z)=none:=rfl
theorem gwl70:lookT 70 (gw z)=none:=rfl
theorem gwl71:lookT 71 (gw z)=none:=rfl
theorem gwl72:lookT 72 (gw z)=none:=rfl
theorem gwl73:lookT 73 (gw z)=none:=rfl
theorem gwl74:lookT 74 (gw z)=some (gw74 z):=rfl
theorem gwl75:lookT 75 (gw z)=some (gw75 z):=rfl
theorem gwl76:lookT 76 (gw z)=none:=rfl
theorem gwl77:lookT 77 (gw z)=none:=rfl
theorem gwl78:lookT 78 (gw z)=some (gw78 z):=rfl
theorem gwl79:lookT 79 (gw z)=some (gw79 z):=rfl
theorem gwl80:lookT 80 (gw z)=none:=rfl
theorem gwl81:lookT 81 (gw z)=some (gw81 z):=rfl
theorem gwl82:lookT 82 (gw z)=none:=rfl
theorem gwl83:lookT 83 (gw z)=some (gw83 z):=rfl
theorem gwl84:lookT 84 (gw z)=none:=rfl
theorem gwl85:lookT 85 (gw z)=some (gw85 z):=rfl
theorem gwl86:lookT 86 (gw z)=none:=rfl
theorem gwl87:lookT 87 (gw z)=some (gw87 z):=rfl
theorem gwl88:lookT 88 (gw z)=some (gw88 z):=rfl
theorem gwl89:lookT 89 (gw z)=some (gw89 z):=rfl
theorem gwl90:lookT 90 (gw z)=some (gw90 z):=rfl
theorem gwl91:lookT 91 (gw z)=some (gw91 z):=rfl
theorem gwl92:lookT 92 (gw z)=some (gw92 z):=rfl
theorem gwl93:lookT 93 (gw z)=none:=rfl
theorem gwl94:lookT 94 (gw z)=some (gw94 z):=rfl
theorem gwl95:lookT 95 (gw z)=none:=rfl
theorem gwl96:lookT 96 (gw z)=none:=rfl
end
def gwG:List GN:=[.one 0 1, .one 1 2, .one 3 3, .one 4 4, .one 8 5, .one 11 6, .one 12 7, .all [(2, 8), (5, 9), (9, 10), (13, 11)], .all [(5, 12), (9, 13), (13, 14)], .one 6 15, .one 10 16, .one 14 17, .one 6 18, .one 10 19, .one 14 20, .all [(2, 18), (7, 21), (9, 22), (13, 23)], .all [(2, 19), (5, 24), (13, 25)], .all [(2, 20), (5, 26), (9, 27), (15, 28)], .all [(7, 29), (9, 30), (13, 31)], .all [(5, 32), (13, 33)], .all [(5, 34), (9, 35), (15, 36)], .all [(2, 29), (9, 37), (13, 38)], .one 10 39, .one 14 40, .one 6 39, .one 14 41, .one 6 40, .one 10 41, .all [(2, 36), (5, 42), (9, 43)], .all [(9, 44), (13, 45)], .one 10 46, .one 14 47, .one 6 46, .one 14 48, .one 6 47, .one 10 48, .all [(5, 49), (9, 50)], .one 10 51, .one 14 52, .all [(2, 46), (7, 51), (13, 53)], .all [(2, 47), (7, 52), (9, 54), (15, 55)], .all [(2, 48), (5, 56), (15, 57)], .one 6 55, .one 10 57, .one 10 58, .one 14 59, .all [(7, 58), (13, 60)], .all [(7, 59), (9, 61), (15, 62)], .all [(5, 63), (15, 64)], .one 6 62, .one 10 64, .all [(2, 58), (13, 65)], .all [(2, 59), (9, 66), (15, 67)], .one 14 68, .one 10 68, .all [(2, 62), (7, 67), (9, 69)], .one 6 68, .all [(2, 64), (5, 70), (16, 71)], .all [(13, 72)], .all [(9, 73), (15, 74)], .one 14 75, .one 10 75, .all [(7, 74), (9, 76)], .one 6 75, .all [(5, 77), (16, 78)], .one 14 79, .one 10 79, .all [(2, 74), (9, 80)], .all [(2, 75), (7, 79), (15, 81)], .one 10 81, .one 6 81, .all [(2, 78), (5, 82)], .one 14 83, .one 10 83, .all [(9, 84)], .all [(7, 83), (15, 85)], .one 10 85, .one 6 85, .all [(5, 86)], .all [(2, 83), (15, 87)], .one 10 87, .all [(2, 85), (7, 87), (16, 88)], .one 6 88, .all [(15, 89)], .one 10 89, .all [(7, 89), (16, 90)], .one 6 90, .all [(2, 89), (16, 91)], .all [(2, 90), (7, 91)], .all [(16, 92)], .all [(7, 92)], .all [(2, 92), (17, 93)], .all [(17, 94)], .all [(2, 94)], .one 18 95, .all [(19, 96)], .fin]
abbrev gwM:List Nat:=[0, 1, 3, 11, 27, 283, 2331, 6427, 6431, 6459, 6939, 14619, 6463, 6943, 14623, 6523, 7963, 31003, 6527, 7967, 31007, 6651, 7035, 14715, 7995, 16155, 31035, 31515, 63771, 6655, 7039, 14719, 7999, 16159, 31039, 31519, 63775, 7163, 14843, 8059, 31099, 32539, 63803, 64283, 7167, 14847, 8063, 31103, 32543, 63807, 64287, 8187, 31227, 16251, 31611, 63867, 32571, 65307, 8191, 31231, 16255, 31615, 63871, 32575, 65311, 16379, 31739, 63995, 32635, 64379, 65339, 130843, 16383, 31743, 63999, 32639, 64383, 65343, 130847, 32763, 64507, 65403, 130875, 32767, 64511, 65407, 130879, 65531, 130939, 65535, 130943, 131067, 131071, 262139, 262143, 524287, 1048575]
theorem gwg0:nthG gwG 0=some (.one 0 1):=rfl
theorem gwg1:nthG gwG 1=some (.one 1 2):=rfl
theorem gwg2:nthG gwG 2=some (.one 3 3):=rfl
theorem gwg3:nthG gwG 3=some (.one 4 4):=rfl
theorem gwg4:nthG gwG 4=some (.one 8 5):=rfl
theorem gwg5:nthG gwG 5=some (.one 11 6):=rfl
theorem gwg6:nthG gwG 6=some (.one 12 7):=rfl
theorem gwg7:nthG gwG 7=some (.all [(2, 8), (5, 9), (9, 10), (13, 11)]):=rfl
theorem gwg8:nthG gwG 8=some (.all [(5, 12), (9, 13), (13, 14)]):=rfl
theorem gwg9:nthG gwG 9=some (.one 6 15):=rfl
theorem gwg10:nthG gwG 10=some (.one 10 16):=rfl
theorem gwg11:nthG gwG 11=some (.one 14 17):=rfl
theorem gwg12:nthG gwG 12=some (.one 6 18):=rfl
theorem gwg13:nthG gwG 13=some (.one 10 19):=rfl
theorem gwg14:nthG gwG 14=some (.one 14 20):=rfl
theorem gwg15:nthG gwG 15=some (.all [(2, 18), (7, 21), (9, 22), (13, 23)]):=rfl
theorem gwg16:nthG gwG 16=some (.all [(2, 19), (5, 24), (13, 25)]):=rfl
theorem gwg17:nthG gwG 17=some (.all [(2, 20), (5, 26), (9, 27), (15, 28)]):=rfl
theorem gwg18:nthG gwG 18=some (.all [(7, 29), (9, 30), (13, 31)]):=rfl
theorem gwg19:nthG gwG 19=some (.all [(5, 32), (13, 33)]):=rfl
theorem gwg20:nthG gwG 20=some (.all [(5, 34), (9, 35), (15, 36)]):=rfl
theorem gwg21:nthG gwG 21=some (.all [(2, 29), (9, 37), (13, 38)]):=rfl
theorem gwg22:nthG gwG 22=some (.one 10 39):=rfl
theorem gwg23:nthG gwG 23=some (.one 14 40):=rfl
theorem gwg24:nthG gwG 24=some (.one 6 39):=rfl
theorem gwg25:nthG gwG 25=some (.one 14 41):=rfl
theorem gwg26:nthG gwG 26=some (.one 6 40):=rfl
theorem gwg27:nthG gwG 27=some (.one 10 41):=rfl
theorem gwg28:nthG gwG 28=some (.all [(2, 36), (5, 42), (9, 43)]):=rfl
theorem gwg29:nthG gwG 29=some (.all [(9, 44), (13, 45)]):=rfl
theorem gwg30:nthG gwG 30=some (.one 10 46):=rfl
theorem gwg31:nthG gwG 31=some (.one 14 47):=rfl
theorem gwg32:nthG gwG 32=some (.one 6 46):=rfl
theorem gwg33:nthG gwG 33=some (.one 14 48):=rfl
theorem gwg34:nthG gwG 34=some (.one 6 47):=rfl
theorem gwg35:nthG gwG 35=some (.one 10 48):=rfl
theorem gwg36:nthG gwG 36=some (.all [(5, 49), (9, 50)]):=rfl
theorem gwg37:nthG gwG 37=some (.one 10 51):=rfl
theorem gwg38:nthG gwG 38=some (.one 14 52):=rfl
theorem gwg39:nthG gwG 39=some (.all [(2, 46), (7, 51), (13, 53)]):=rfl
theorem gwg40:nthG gwG 40=some (.all [(2, 47), (7, 52), (9, 54), (15, 55)]):=rfl
theorem gwg41:nthG gwG 41=some (.all [(2, 48), (5, 56), (15, 57)]):=rfl
theorem gwg42:nthG gwG 42=some (.one 6 55):=rfl
theorem gwg43:nthG gwG 43=some (.one 10 57):=rfl
theorem gwg44:nthG gwG 44=some (.one 10 58):=rfl
theorem gwg45:nthG gwG 45=some (.one 14 59):=rfl
theorem gwg46:nthG gwG 46=some (.all [(7, 58), (13, 60)]):=rfl
theorem gwg47:nthG gwG 47=some (.all [(7, 59), (9, 61), (15, 62)]):=rfl
theorem gwg48:nthG gwG 48=some (.all [(5, 63), (15, 64)]):=rfl
theorem gwg49:nthG gwG 49=some (.one 6 62):=rfl
theorem gwg50:nthG gwG 50=some (.one 10 64):=rfl
theorem gwg51:nthG gwG 51=some (.all [(2, 58), (13, 65)]):=rfl
theorem gwg52:nthG gwG 52=some (.all [(2, 59), (9, 66), (15, 67)]):=rfl
theorem gwg53:nthG gwG 53=some (.one 14 68):=rfl
theorem gwg54:nthG gwG 54=some (.one 10 68):=rfl
theorem gwg55:nthG gwG 55=some (.all [(2, 62), (7, 67), (9, 69)]):=rfl
theorem gwg56:nthG gwG 56=some (.one 6 68):=rfl
theorem gwg57:nthG gwG 57=some (.all [(2, 64), (5, 70), (16, 71)]):=rfl
theorem gwg58:nthG gwG 58=some (.all [(13, 72)]):=rfl
theorem gwg59:nthG gwG 59=some (.all [(9, 73), (15, 74)]):=rfl
theorem gwg60:nthG gwG 60=some (.one 14 75):=rfl
theorem gwg61:nthG gwG 61=some (.one 10 75):=rfl
theorem gwg62:nthG gwG 62=some (.all [(7, 74), (9, 76)]):=rfl
theorem gwg63:nthG gwG 63=some (.one 6 75):=rfl
theorem gwg64:nthG gwG 64=some (.all [(5, 77), (16, 78)]):=rfl
theorem gwg65:nthG gwG 65=some (.one 14 79):=rfl
theorem gwg66:nthG gwG 66=some (.one 10 79):=rfl
theorem gwg67:nthG gwG 67=some (.all [(2, 74), (9, 80)]):=rfl
theorem gwg68:nthG gwG 68=some (.all [(2, 75), (7, 79), (15, 81)]):=rfl
theorem gwg69:nthG gwG 69=some (.one 10 81):=rfl
theorem gwg70:nthG gwG 70=some (.one 6 81):=rfl
theorem gwg71:nthG gwG 71=some (.all [(2, 78), (5, 82)]):=rfl
theorem gwg72:nthG gwG 72=some (.one 14 83):=rfl
theorem gwg73:nthG gwG 73=some (.one 10 83):=rfl
theorem gwg74:nthG gwG 74=some (.all [(9, 84)]):=rfl
theorem gwg75:nthG gwG 75=some (.all [(7, 83), (15, 85)]):=rfl
theorem gwg76:nthG gwG 76=some (.one 10 85):=rfl
theorem gwg77:nthG gwG 77=some (.one 6 85):=rfl
theorem gwg78:nthG gwG 78=some (.all [(5, 86)]):=rfl
theorem gwg79:nthG gwG 79=some (.all [(2, 83), (15, 87)]):=rfl
theorem gwg80:nthG gwG 80=some (.one 10 87):=rfl
theorem gwg81:nthG gwG 81=some (.all [(2, 85), (7, 87), (16, 88)]):=rfl
theorem gwg82:nthG gwG 82=some (.one 6 88):=rfl
theorem gwg83:nthG gwG 83=some (.all [(15, 89)]):=rfl
theorem gwg84:nthG gwG 84=some (.one 10 89):=rfl
theorem gwg85:nthG gwG 85=some (.all [(7, 89), (16, 90)]):=rfl
theorem gwg86:nthG gwG 86=some (.one 6 90):=rfl
theorem gwg87:nthG gwG 87=some (.all [(2, 89), (16, 91)]):=rfl
theorem gwg88:nthG gwG 88=some (.all [(2, 90), (7, 91)]):=rfl
theorem gwg89:nthG gwG 89=some (.all [(16, 92)]):=rfl
theorem gwg90:nthG gwG 90=some (.all [(7, 92)]):=rfl
theorem gwg91:nthG gwG 91=some (.all [(2, 92), (17, 93)]):=rfl
theorem gwg92:nthG gwG 92=some (.all [(17, 94)]):=rfl
theorem gwg93:nthG gwG 93=some (.all [(2, 94)]):=rfl
theorem gwg94:nthG gwG 94=some (.one 18 95):=rfl
theorem gwg95:nthG gwG 95=some (.all [(19, 96)]):=rfl
theorem gwg96:nthG gwG 96=some (.fin):=rfl
section
variable (P : Program) (K : St → Prop) (σ : St)
theorem gws0:atS P K c46_13L 0 σ=sGuard P K σ (some 44) (.mv (.t 12)) none (guardOf σ none):=rfl
theorem gwo0:atO K c46_13L 0 σ=SFg K σ (some 44) (.mv (.t 12)) none (guardOf σ none):=by unfold c46_13L; simp only [atO_zero, atO_succ]
theorem gws1:atS P K c46_13L 1 σ=sGuard P K σ (some 45) (.fad 0 (.t 15)) none (guardOf σ none):=rfl
theorem gwo1:atO K c46_13L 1 σ=SFg K σ (some 45) (.fad 0 (.t 15)) none (guardOf σ none):=by unfold c46_13L; simp only [atO_zero, atO_succ]
theorem gws2:atS P K c46_13L 2 σ=sGuard P K σ (some 46) (.ld none (.t 45)) none (guardOf σ none):=rfl
theorem gws3:atS P K c46_13L 3 σ=sGuard P K σ (some 47) (.mv (.t 12)) none (guardOf σ none):=rfl
theorem gwo3:atO K c46_13L 3 σ=SFg K σ (some 47) (.mv (.t 12)) none (guardOf σ none):=by unfold c46_13L; simp only [atO_zero, atO_succ]
theorem gws4:atS P K c46_13L 4 σ=sGuard P K σ (some 48) (.fad 0 (.t 15)) none (guardOf σ none):=rfl
theorem gwo4:atO K c46_13L 4 σ=SFg K σ (some 48) (.fad 0 (.t 15)) none (guardOf σ none):=by unfold c46_13L; simp only [atO_zero, atO_succ]
theorem gws5:atS P K c46_13L 5 σ=sGuard P K σ (some 49) (.ld none (.t 48)) none (guardOf σ none):=rfl
theorem gws6:atS P K c46_13L 6 σ=sGuard P K σ (some 50) (.iad 2 (.t 47) (.t 49)) none (guardOf σ none):=rfl
theorem gwo6:atO K c46_13L 6 σ=SFg K σ (some 50) (.iad 2 (.t 47) (.t 49)) none (guardOf σ none):=by unfold c46_13L; simp only [atO_zero, atO_succ]
theorem gws7:atS P K c46_13L 7 σ=sGuard P K σ (some 51) (.ld (some 2) (.t 50)) none (guardOf σ none):=rfl
theorem gws8:atS P K c46_13L 8 σ=sGuard P K σ (some 52) (.fad 2 (.t 15)) none (guardOf σ none):=rfl
theorem gwo8:atO K c46_13L 8 σ=SFg K σ (some 52) (.fad 2 (.t 15)) none (guardOf σ none):=by unfold c46_13L; simp only [atO_zero, atO_succ]
theorem gws9:atS P K c46_13L 9 σ=sGuard P K σ (some 53) (.ld none (.t 52)) none (guardOf σ none):=rfl
theorem gws10:atS P K c46_13L 10 σ=sGuard P K σ (some 54) (.build [(.I 0), (.B false)] [(0, 1, (.t 53)), (1, 1, (.k (.B true)))]) none (guardOf σ none):=rfl
theorem gwo10:atO K c46_13L 10 σ=SFg K σ (some 54) (.build [(.I 0), (.B false)] [(0, 1, (.t 53)), (1, 1, (.k (.B true)))]) none (guardOf σ none):=by unfold c46_13L; simp only [atO_zero, atO_succ]
theorem gws11:atS P K c46_13L 11 σ=sGuard P K σ (some 55) (.mv (.t 13)) none (guardOf σ none):=rfl
theorem gwo11:atO K c46_13L 11 σ=SFg K σ (some 55) (.mv (.t 13)) none (guardOf σ none):=by unfold c46_13L; simp only [atO_zero, atO_succ]
theorem gws12:atS P K c46_13L 12 σ=sGuard P K σ (some 56) (.fad 1 (.t 15)) none (guardOf σ none):=rfl
theorem gwo12:atO K c46_13L 12 σ=SFg K σ (some 56) (.fad 1 (.t 15)) none (guardOf σ none):=by unfold c46_13L; simp only [atO_zero, atO_succ]
theorem gws13:atS P K c46_13L 13 σ=sGuard P K σ (some 57) (.ld none (.t 56)) none (guardOf σ none):=rfl
theorem gws14:atS P K c46_13L 14 σ=sGuard P K σ (some 58) (.iad 2 (.t 55) (.t 57)) none (guardOf σ none):=rfl
theorem gwo14:atO K c46_13L 14 σ=SFg K σ (some 58) (.iad 2 (.t 55) (.t 57)) none (guardOf σ none):=by unfold c46_13L; simp only [atO_zero, atO_succ]
theorem gws15:atS P K c46_13L 15 σ=sGuard P K σ (some 59) (.ld (some 2) (.t 58)) none (guardOf σ none):=rfl
theorem gws16:atS P K c46_13L 16 σ=sGuard P K σ (some 60) (.call 45 [(.t 54), (.t 59)]) none (guardOf σ none):=rfl
theorem gws17:atS P K c46_13L 17 σ=sGuard P K σ (some 61) (.call 44 [(.t 51), (.t 60)]) none (guardOf σ none):=rfl
theorem gws18:atS P K c46_13L 18 σ=sGuard P K σ (some 62) (.iad 2 (.t 44) (.t 46)) none (guardOf σ none):=rfl
theorem gwo18:atO K c46_13L 18 σ=SFg K σ (some 62) (.iad 2 (.t 44) (.t 46)) none (guardOf σ none):=by unfold c46_13L; simp only [atO_zero, atO_succ]
theorem gws19:atS P K c46_13L 19 σ=sGuard P K σ none (.st (some 2) (.t 62) (.t 61)) none (guardOf σ none):=rfl
end
attribute [go_sem] gwB gw18 gw19 gw20 gw29 gw36 gw39 gw40 gw41 gw46 gw47 gw48 gw51 gw52 gw55 gw57 gw58 gw59 gw62 gw64 gw67 gw68 gw74 gw75 gw78 gw79 gw81 gw83 gw85 gw87 gw88 gw89 gw90 gw91 gw92 gw94 gwl0 gwl1 gwl2 gwl3 gwl4 gwl5 gwl6 gwl7 gwl8 gwl9 gwl10 gwl11 gwl12 gwl13 gwl14 gwl15 gwl16 gwl17 gwl18 gwl19 gwl20 gwl21 gwl22 gwl23 gwl24 gwl25 gwl26 gwl27 gwl28 gwl29 gwl30 gwl31 gwl32 gwl33 gwl34 gwl35 gwl36 gwl37 gwl38 gwl39 gwl40 gwl41 gwl42 gwl43 gwl44 gwl45 gwl46 gwl47 gwl48 gwl49 gwl50 gwl51 gwl52 gwl53 gwl54 gwl55 gwl56 gwl57 gwl58 gwl59 gwl60 gwl61 gwl62 gwl63 gwl64 gwl65 gwl66 gwl67 gwl68 gwl69 gwl70 gwl71 gwl72 gwl73 gwl74 gwl75 gwl76 gwl77 gwl78 gwl79 gwl80 gwl81 gwl82 gwl83 gwl84 gwl85 gwl86 gwl87 gwl88 gwl89 gwl90 gwl91 gwl92 gwl93 gwl94 gwl95 gwl96 gwg0 gwg1 gwg2 gwg3 gwg4 gwg5 gwg6 gwg7 gwg8 gwg9 gwg10 gwg11 gwg12 gwg13 gwg14 gwg15 gwg16 gwg17 gwg18 gwg19 gwg20 gwg21 gwg22 gwg23 gwg24 gwg25 gwg26 gwg27 gwg28 gwg29 gwg30 gwg31 gwg32 gwg33 gwg34 gwg35 gwg36 gwg37 gwg38 gwg39 gwg40 gwg41 gwg42 gwg43 gwg44 gwg45 gwg46 gwg47 gwg48 gwg49 gwg50 gwg51 gwg52 gwg53 gwg54 gwg55 gwg56 gwg57 gwg58 gwg59 gwg60 gwg61 gwg62 gwg63 gwg64 gwg65 gwg66 gwg67 gwg68 gwg69 gwg70 gwg71 gwg72 gwg73 gwg74 gwg75 gwg76 gwg77 gwg78 gwg79 gwg80 gwg81 gwg82 gwg83 gwg84 gwg85 gwg86 gwg87 gwg88 gwg89 gwg90 gwg91 gwg92 gwg93 gwg94 gwg95 gwg96 gws0 gwo0 gws1 gwo1 gws2 gws3 gwo3 gws4 gwo4 gws5 gws6 gwo6 gws7 gws8 gwo8 gws9 gws10 gwo10 gws11 gwo11 gws12 gwo12 gws13 gws14 gwo14 gws15 gws16 gws17 gws18 gwo18 gws19
def in46 (v0 v1 v2 v25 v26 v38 v39 v40 : AV) (T R L : List (List CD)) (I J : Nat) (C : Int) : St := ⟨70, [(0, v0), (1, v1), (2, v2), (11, .own 18), (12, .own 29), (13, .c (.sl 2 L)), (15, .ptr 15 0), (25, v25), (26, v26), (38, v38), (39, v39), (40, v40)], [(15, .box 55 [.I (I : Int), .I (J : Int), .I C]), (18, .arr 77 1 T), (29, .arr 76 2 R)]⟩
set_option maxHeartbeats 40000000 in
theorem r46p (z : gwP) (hI : z.I < z.R.length) (hJ : z.J < z.L.length) (hR : z.R.getD z.I [] = [.I z.a, .B z.ab]) (hL : z.L.getD z.J [] = [.I z.y, .B z.yb])
    (g1 : FnR Try.prog 45 [.agg [.I z.C, .B true], .agg [.I z.y, .B z.yb]] [.agg [.I z.u, .B z.v]])
    (g2 : FnR Try.prog 44 [.agg [.I z.a, .B z.ab], .agg [.I z.u, .B z.v]] [.agg [.I z.p, .B z.q]]) : AW Try.prog c46_13 (cutQ (in46 z.v0 z.v1 z.v2 z.v25 z.v26 z.v38 z.v39 z.v40 z.T (z.R.set z.I [.I z.p, .B z.q]) z.L z.I z.J z.C)) (in46 z.v0 z.v1 z.v2 z.v25 z.v26 z.v38 z.v39 z.v40 z.T z.R z.L z.I z.J z.C) := by
  have hI' : ((z.I : Int) < (z.R.length : Int)) = True := eq_true (by omega)
  have hJ' : ((z.J : Int) < (z.L.length : Int)) = True := eq_true (by omega)
  refine AW_regG (gw z) gwM gwG (by kernel_rfl) (by kernel_rfl) (Both.mk ?_ ?_)
  · unfold in46
    (repeat' (first | refine Both.mk ?_ ?_ | ((first | refine aw ?_ | refine aD ?_ | refine aX ?_ | refine cT ?_ | refine cF ?_ | refine cR (g1 ..) ?_ | refine cG (g1 ..) ?_ | refine cR (g2 ..) ?_ | refine cG (g2 ..) ?_); try simp (disch := omega) only [go_sem, seval, reduceCtorEq, hR, hL, hI', hJ', Int.toNat_natCast, List.length_set]) | refine aI (fun hc => ?_) fun hc => ?_ | simp (disch := omega) only [go_sem, seval, reduceCtorEq, hR, hL, hI', hJ', Int.toNat_natCast, List.length_set] | refine aO ?_ | refine aC ?_ ?_ | refine aC' ?_ ?_ | refine aA ?_ ?_ | fail))
    all_goals first | omega | skip
  · unfold gw
    (repeat' (first | refine Both.mk ?_ ?_ | ((first | refine aw ?_ | refine aD ?_ | refine aX ?_ | refine cT ?_ | refine cF ?_ | refine cR (g1 ..) ?_ | refine cG (g1 ..) ?_ | refine cR (g2 ..) ?_ | refine cG (g2 ..) ?_); try simp (disch := omega) only [go_sem, seval, reduceCtorEq, in46, knotsP_nil, knotsP_cons, hR, hL, hI', hJ', Int.toNat_natCast, List.length_set]) | refine aI (fun hc => ?_) fun hc => ?_ | simp (disch := omega) only [go_sem, seval, reduceCtorEq, in46, knotsP_nil, knotsP_cons, hR, hL, hI', hJ', Int.toNat_natCast, List.length_set] | refine aO ?_ | refine aC ?_ ?_ | refine aC' ?_ ?_ | refine aA ?_ ?_ | fail))
    all_goals first | omega | skip
theorem r46 (v0 v1 v2 v25 v26 v38 v39 v40 : AV) (T R L : List (List CD)) (I J : Nat) (C a y u p : Int) (ab yb v q : Bool) (hI : I < R.length) (hJ : J < L.length) (hR : R.getD I [] = [.I a, .B ab]) (hL : L.getD J [] = [.I y, .B yb])
    (g1 : FnR Try.prog 45 [.agg [.I C, .B true], .agg [.I y, .B yb]] [.agg [.I u, .B v]])
    (g2 : FnR Try.prog 44 [.agg [.I a, .B ab], .agg [.I u, .B v]] [.agg [.I p, .B q]]) : AW Try.prog c46_13 (cutQ (in46 v0 v1 v2 v25 v26 v38 v39 v40 T (R.set I [.I p, .B q]) L I J C)) (in46 v0 v1 v2 v25 v26 v38 v39 v40 T R L I J C) := r46p ⟨v0, v1, v2, v25, v26, v38, v39, v40, T, R, L, I, J, C, a, y, u, p, ab, yb, v, q⟩ hI hJ hR hL g1 g2
end Go.Proofs.Ytdmngdphgnnoiaa

open Go Go.AL Go.RowKit
namespace Go.Proofs.Ytdmngdphgnnoiaa
set_option maxRecDepth 20000
theorem h46_13 {Q : Exit → St → Prop} {σ : St} (h : Hold (AW Try.prog c46_13 Q σ)) : AW Try.prog c46_13 Q σ := h.out
theorem h46_37 {Q : Exit → St → Prop} {σ : St} (h : Hold (AW Try.prog c46_37 Q σ)) : AW Try.prog c46_37 Q σ := h.out
def idx (b : List Bd) (f : Nat) : List Nat := List.range' f (b.length - f)
def WK (n : Nat) (m : Mo) (t : Nat) : List (List CD) := (List.range t).map fun s => [CD.sl 2 (rowL n m s)]
theorem WK_len (n : Nat) (m : Mo) (t : Nat) : (WK n m t).length = t := by simp [WK]
theorem WK_succ (n : Nat) (m : Mo) (t : Nat) : WK n m t ++ [[CD.sl 2 (rowL n m t)]] = WK n m (t + 1) := by simp [WK, List.range_succ]
theorem WK_get {n : Nat} (m : Mo) {t s : Nat} (h : s < t) : (WK n m t).getD s [] = [.sl 2 (rowL n m s)] := by
  unfold WK
  rw [List.getD_eq_getElem?_getD, List.getElem?_eq_getElem (by simpa using h)]
  simp
theorem repL_0 (n i : Nat) (m : Mo) (h : ∀ v, m i v = none) : (List.replicate n [CD.sc (.int .i64 0), CD.sc (.bool false)]) = rowL n m i := by
  have : List.replicate n [CD.sc (.int .i64 0), CD.sc (.bool false)] = (List.range n).map fun _ => [CD.sc (.int .i64 0), CD.sc (.bool false)] := by
    apply List.ext_getElem <;> simp
  rw [this]
  unfold rowL
  refine List.map_congr_left fun b _ => ?_
  rw [h b]; rfl
theorem repL_w (n : Nat) (b : List Bd) (es : List Nat) (to : Nat) : (List.replicate n [CD.sc (.int .i64 0), CD.sc (.bool false)]).set to [CD.sc (.int .i64 0), CD.sc (.bool true)] = rowL n (wkN b es to) 0 := by
  have : List.replicate n [CD.sc (.int .i64 0), CD.sc (.bool false)] = (List.range n).map fun _ => [CD.sc (.int .i64 0), CD.sc (.bool false)] := by
    apply List.ext_getElem <;> simp
  rw [this, map_range_set]
  unfold rowL
  refine List.map_congr_left fun v _ => ?_
  show _ = lc (if v = to then some 0 else none)
  by_cases h : v = to
  · rw [if_pos h, if_pos h]; rfl
  · rw [if_neg h, if_neg h]; rfl
def nxM (b : List Bd) (es : List Nat) (last : Nat → Option Int) (q : Nat) : Mo := fun _ v => (es.take q).foldl (stp b last v) none
theorem idx_len (b : List Bd) (f : Nat) : (idx b f).length = b.length - f := by simp [idx]
theorem idx_mem {b : List Bd} {f e : Nat} (h : e ∈ idx b f) : f ≤ e ∧ e < b.length := by
  unfold idx at h
  rw [List.mem_range'_1] at h
  omega
theorem mem_idx {b : List Bd} {f e : Nat} (h : f ≤ e) (h' : e < b.length) : e ∈ idx b f := by
  unfold idx
  rw [List.mem_range'_1]
  omega
theorem nxM_succ (b : List Bd) (f : Nat) (last : Nat → Option Int) (q v : Nat) (hq : f + q < b.length) : nxM b (idx b f) last (q + 1) 0 v = stp b last v (nxM b (idx b f) last q 0 v) (f + q) := by
  unfold nxM
  have hl : q < (idx b f).length := by rw [idx_len]; omega
  rw [List.take_succ_eq_append_getElem hl, List.foldl_append]
  have : (idx b f)[q] = f + q := by simp [idx]
  rw [this]; rfl
theorem nxM_upd (b : List Bd) (f : Nat) (last : Nat → Option Int) (q : Nat) (hq : f + q < b.length) : updO (nxM b (idx b f) last q) 0 (nth b (f + q)).i (lessO (nxM b (idx b f) last q 0 (nth b (f + q)).i) (plusO (some (nth b (f + q)).c) (last (nth b (f + q)).j))) 0 = nxM b (idx b f) last (q + 1) 0 := by
  funext v
  rw [nxM_succ b f last q v hq]
  unfold updO stp
  by_cases h : v = (nth b (f + q)).i
  · rw [if_pos ⟨rfl, h⟩, if_pos h.symm, h]
  · rw [if_neg fun h' => h h'.2, if_neg fun h' => h h'.symm]
theorem rowL_eq {n : Nat} {m m' : Mo} {i i' : Nat} (h : m i = m' i') : rowL n m i = rowL n m' i' := by unfold rowL; rw [h]
theorem nxM_last (b : List Bd) (f to t : Nat) : nxM b (idx b f) (wkN b (idx b f) to t) (b.length - f) 0 = wkN b (idx b f) to (t + 1) := by
  funext v
  unfold nxM
  rw [List.take_of_length_le (by rw [idx_len]; omega)]
  rfl
theorem wkN_abs {n : Nat} {b : List Bd} (h : Rgt n b) {f to t v : Nat} {s : Int} (hw : wkN b (idx b f) to t v = some s) : -1000000 * (t : Int) ≤ s ∧ s ≤ 1000000 * (t : Int) := by
  obtain ⟨ws, h1, h2, h3, h4⟩ := wkN_some (fun e he => (idx_mem he).2) t v s hw
  have := sumW_abs h ws fun e he => (idx_mem (h2 e he)).2
  rw [h1, h4] at this; exact this
theorem Bds_drop {b : List Bd} {f q : Nat} (h : f + q < b.length) : ((b.map bdc).drop f).getD q [] = bdc (nth b (f + q)) := by
  rw [List.getD_eq_getElem?_getD, List.getElem?_drop, List.getElem?_map, List.getElem?_eq_getElem h, nth_eq b _ h]; rfl
set_option maxHeartbeats 16000000 in
theorem x46 (n : Nat) (hn : 1 ≤ n ∧ n ≤ 16) (b : List Bd) (hl : b.length ≤ 1000) (hb : Rgt n b) (f to len : Nat) (hf : f ≤ b.length) (ht : to < n) (hlen : len ≤ 100) :
    FnR Try.prog 46 [.I (n : Int), .c (Bds b), .I (f : Int), .I (to : Int), .I (len : Int)] [.c (.sl 1 (WK n (wkN b (idx b f) to) (len + 1)))] := by
  have hw0 := repL_w n b (idx b f) to
  have hrl : (List.replicate n [CD.sc (.int .i64 0), CD.sc (.bool false)]).length = n := by simp
  refine fn_walk code46 (by simp) ?_
  refine AW_mark ?_
  (repeat' (first | (with_reducible refine h46_37 ?_) | refine Both.mk ?_ ?_ | ((first | refine aw ?_ | refine aD ?_ | refine aX ?_ | refine cT ?_ | refine cF ?_); try simp (disch := omega) only [go_sem, seval, reduceCtorEq, hrl, hw0, maxLen, Int.toNat_natCast]) | refine aI (fun hc => ?_) fun hc => ?_ | simp (disch := omega) only [go_sem, seval, reduceCtorEq, hrl, hw0, maxLen, Int.toNat_natCast] | refine aO ?_ | refine aA ?_ ?_ | fail))
  all_goals first | omega | skip
  refine ⟨AW_inn 18 17 0 (by rfl) (by rfl) ?_⟩
  simp (disch := omega) only [go_sem, seval, reduceCtorEq]
  refine AW_rowsArr 18 11 (by rfl) (by rfl) ?_
  simp (disch := omega) only [go_sem, seval, reduceCtorEq]
  have hW1 : [[CD.sl 2 (rowL n (wkN b (idx b f) to) 0)]] = WK n (wkN b (idx b f) to) 1 := by simp [WK]
  rw [hW1]
  (repeat' (first | refine Both.mk ?_ ?_ | ((first | refine aw ?_ | refine aD ?_ | refine aX ?_ | refine cT ?_ | refine cF ?_); try simp (disch := omega) only [go_sem, seval, reduceCtorEq]) | refine aI (fun hc => ?_) fun hc => ?_ | simp (disch := omega) only [go_sem, seval, reduceCtorEq] | refine aO ?_ | refine aA ?_ ?_ | fail))
  refine AW_loopK [0, 1, 2, 25] [11, 12, 13, 15, 26, 27, 28, 29, 30, 31, 32, 33, 34, 35, 36, 37, 38, 39, 40, 41, 42, 43, 44, 45, 46, 47, 48, 49, 50, 51, 52, 53, 54, 55, 56, 57, 58, 59, 60, 61, 62, 63, 64, 65, 66, 67, 68] (fun t : Nat => t ≤ len) (fun t => [(11, .own 18), (26, .I t)]) (fun t => [(18, .arr 77 1 (WK n (wkN b (idx b f) to) (t + 1)))]) (fun t => len - t) 0 (by omega) ?_ ?_
  · simp (disch := omega) only [go_sem, seval, reduceCtorEq, Int.natCast_zero]
  · intro t ht'
    have hWl := WK_len n (wkN b (idx b f) to) (t + 1)
    rcases Nat.lt_or_ge t len with htl | htl
    · have hkk : ((t : Int) < (len : Int)) = True := eq_true (by omega)
      have hWg := WK_get (n := n) (wkN b (idx b f) to) (t := t + 1) (s := t) (by omega)
      have hsub : ((t + 1 : Nat) : Int) - 1 = (t : Int) := by omega
      have hWi : ((t : Int) < ((t + 1 : Nat) : Int)) = True := eq_true (by omega)
      have hr0 : (List.replicate n [CD.sc (.int .i64 0), CD.sc (.bool false)]) = rowL n (nxM b (idx b f) (wkN b (idx b f) to t) 0) 0 := repL_0 n 0 _ fun v => rfl
      have hdl : (List.drop f (List.map bdc b)).length = b.length - f := by simp
      have htk : List.take b.length (List.map bdc b) = List.map bdc b := List.take_of_length_le (by simp)
      (repeat' (first | refine Both.mk ?_ ?_ | ((first | refine aw ?_ | refine aD ?_ | refine aX ?_ | refine cT ?_ | refine cF ?_); try simp (disch := omega) only [go_sem, seval, reduceCtorEq, hkk, hWl, hWg, hsub, hWi, hrl, hr0, htk, hdl, maxLen, Int.toNat_natCast, List.length_map]) | refine aI (fun hc => ?_) fun hc => ?_ | simp (disch := omega) only [go_sem, seval, reduceCtorEq, hkk, hWl, hWg, hsub, hWi, hrl, hr0, htk, hdl, maxLen, Int.toNat_natCast, List.length_map] | refine aO ?_ | refine aA ?_ ?_ | fail))
      all_goals first | omega | skip
      refine AW_loopK [0, 1, 2, 11, 12, 13, 25, 26, 38, 39] [15, 40, 41, 42, 43, 44, 45, 46, 47, 48, 49, 50, 51, 52, 53, 54, 55, 56, 57, 58, 59, 60, 61, 62, 63] (fun q : Nat => q ≤ b.length - f) (fun q => [(40, .I q)]) (fun q => [(29, .arr 76 2 (rowL n (nxM b (idx b f) (wkN b (idx b f) to t) q) 0)), (18, .arr 77 1 (WK n (wkN b (idx b f) to) (t + 1)))]) (fun q => b.length - f - q) 0 (by omega) ?_ ?_
      · simp (disch := omega) only [go_sem, seval, reduceCtorEq, Int.natCast_zero]
      · intro q hq
        rcases Nat.lt_or_ge q (b.length - f) with hql | hql
        · have hkq : ((q : Int) < ((b.length - f : Nat) : Int)) = True := eq_true (by omega)
          have hbd := Bds_drop (b := b) (f := f) (q := q) (by omega)
          obtain ⟨r1, r2, r3, r4⟩ := hb (f + q) (by omega)
          (repeat' (first | (with_reducible refine h46_13 ?_) | refine Both.mk ?_ ?_ | ((first | refine aw ?_ | refine aD ?_ | refine aX ?_ | refine cT ?_ | refine cF ?_); try simp (disch := omega) only [go_sem, seval, reduceCtorEq, hkq, hbd, hdl, bdc, Int.toNat_natCast]) | refine aI (fun hc => ?_) fun hc => ?_ | simp (disch := omega) only [go_sem, seval, reduceCtorEq, hkq, hbd, hdl, bdc, Int.toNat_natCast] | refine aO ?_ | refine aA ?_ ?_ | fail))
          all_goals first | omega | skip
          have rg := rowL_get (n := n) (nxM b (idx b f) (wkN b (idx b f) to t) q) 0 r1
          have lg := rowL_get (n := n) (wkN b (idx b f) to) t r2
          have rl := rowL_len n (nxM b (idx b f) (wkN b (idx b f) to t) q) 0
          have ll := rowL_len n (wkN b (idx b f) to) t
          have hup := nxM_upd b f (wkN b (idx b f) to t) q (by omega)
          have hrs := rowL_set n (nxM b (idx b f) (wkN b (idx b f) to t) q) 0 (nth b (f + q)).i (lessO (nxM b (idx b f) (wkN b (idx b f) to t) q 0 (nth b (f + q)).i) (plusO (some (nth b (f + q)).c) (wkN b (idx b f) to t (nth b (f + q)).j)))
          rw [rowL_eq hup] at hrs
          have g1 := x45 (some (nth b (f + q)).c) (wkN b (idx b f) to t (nth b (f + q)).j) fun x y hx hy => by
            cases hx
            have := wkN_abs hb hy
            omega
          have g2 := x44 (nxM b (idx b f) (wkN b (idx b f) to t) q 0 (nth b (f + q)).i) (plusO (some (nth b (f + q)).c) (wkN b (idx b f) to t (nth b (f + q)).j))
          have q1 := r46 (.I (n : Int)) (.c (Bds b)) (.I (f : Int)) (.I (len : Int)) (.I (t : Int)) (.c (.sl 3 (List.drop f (List.map bdc b)))) (.I ((b.length - f : Nat) : Int)) (.I (q : Int)) (WK n (wkN b (idx b f) to) (t + 1)) (rowL n (nxM b (idx b f) (wkN b (idx b f) to t) q) 0) (rowL n (wkN b (idx b f) to) t) (nth b (f + q)).i (nth b (f + q)).j (nth b (f + q)).c _ _ _ _ _ _ _ _ (by rw [rl]; exact r1) (by rw [ll]; exact r2) rg lg g1 g2
          refine ⟨AW_cut _ _ q1 ?_ ?_⟩
          · unfold in46
            simp (disch := omega) only [go_sem, seval, reduceCtorEq]
          unfold in46
          rw [hrs]
          (repeat' (first | refine Both.mk ?_ ?_ | ((first | refine aw ?_ | refine aD ?_ | refine aX ?_ | refine cT ?_ | refine cF ?_); try simp (disch := omega) only [go_sem, seval, reduceCtorEq]) | refine aI (fun hc => ?_) fun hc => ?_ | simp (disch := omega) only [go_sem, seval, reduceCtorEq] | refine aO ?_ | refine aA ?_ ?_ | fail))
          refine .mk (q + 1) (by omega) (by omega) ?_
          simp (disch := omega) only [go_sem, seval, reduceCtorEq, Int.natCast_add, Int.natCast_one]
        · obtain rfl : q = b.length - f := by omega
          have hkq : (((b.length - f : Nat) : Int) < ((b.length - f : Nat) : Int)) = False := eq_false (by omega)
          have hnl := nxM_last b f to t
          have hws := WK_succ n (wkN b (idx b f) to) (t + 1)
          have hrw : rowL n (nxM b (idx b f) (wkN b (idx b f) to t) (b.length - f)) 0 = rowL n (wkN b (idx b f) to) (t + 1) := rowL_eq hnl
          (repeat' (first | refine Both.mk ?_ ?_ | ((first | refine aw ?_ | refine aD ?_ | refine aX ?_ | refine cT ?_ | refine cF ?_); try simp (disch := omega) only [go_sem, seval, reduceCtorEq, hkq, hrw, hws, hWl, maxLen, List.length_cons, List.length_nil]) | refine aI (fun hc => ?_) fun hc => ?_ | simp (disch := omega) only [go_sem, seval, reduceCtorEq, hkq, hrw, hws, hWl, maxLen, List.length_cons, List.length_nil] | refine aO ?_ | refine aA ?_ ?_ | fail))
          all_goals first | omega | skip
          refine .mk (t + 1) (by omega) (by omega) ?_
          simp (disch := omega) only [go_sem, seval, reduceCtorEq, Int.natCast_add, Int.natCast_one]
    · obtain rfl : t = len := by omega
      have hkk : ((t : Int) < (t : Int)) = False := eq_false (by omega)
      (repeat' (first | refine Both.mk ?_ ?_ | ((first | refine aw ?_ | refine aD ?_ | refine aX ?_ | refine cT ?_ | refine cF ?_); try simp (disch := omega) only [go_sem, seval, reduceCtorEq, hkk]) | refine aI (fun hc => ?_) fun hc => ?_ | simp (disch := omega) only [go_sem, seval, reduceCtorEq, hkk] | refine aO ?_ | refine aA ?_ ?_ | fail))
end Go.Proofs.Ytdmngdphgnnoiaa

open Go Go.AL
namespace Go.Proofs.Ytdmngdphgnnoiaa
set_option maxRecDepth 20000
def atE (b : List Bd) (l : List Nat) : Nat := (nth b (l.getLastD 0)).j
def gEnd (s : Int) : Option Int → Bool
  | some v => decide (s + v < 0)
  | none => false
def cOk (b : List Bd) (es : List Nat) (to k : Nat) (l : List Nat) (i : Nat) : Bool := decide ((nth b i).i = atE b l) && gEnd (sumW b l + (nth b i).c) (wkN b es to (k - l.length - 1) (nth b i).j)
def grw (b : List Bd) (es : List Nat) (to k start : Nat) : Nat → List Nat
  | 0 => [start]
  | m + 1 => match es.find? (cOk b es to k (grw b es to k start m)) with
    | some i => grw b es to k start m ++ [i]
    | none => grw b es to k start m
structure GI (b : List Bd) (es : List Nat) (to k start m : Nat) : Prop where
  len : (grw b es to k start m).length = m + 1
  ch : Wlk b (nth b start).i (grw b es to k start m) (atE b (grw b es to k start m))
  ev : ∃ v, wkN b es to (k - (m + 1)) (atE b (grw b es to k start m)) = some v ∧ sumW b (grw b es to k start m) + v < 0
theorem atE_app (b : List Bd) (l : List Nat) (i : Nat) : atE b (l ++ [i]) = (nth b i).j := by
  unfold atE
  rw [List.getLastD_eq_getLast?]; simp
theorem sumW_one (b : List Bd) (i : Nat) : sumW b [i] = (nth b i).c := by simp [sumW]
theorem GI0 {b : List Bd} {es : List Nat} {to k start : Nat} (hst : start < b.length) {v : Int} (h : wkN b es to (k - 1) (nth b start).j = some v) (hv : (nth b start).c + v < 0) : GI b es to k start 0 :=
  ⟨rfl, ⟨hst, rfl, rfl⟩, v, h, by
    show sumW b [start] + v < 0
    rw [sumW_one]; exact hv⟩
theorem GI_step {b : List Bd} {es : List Nat} (hes : ∀ e ∈ es, e < b.length) {to k start m : Nat} (hm : m + 1 < k) (h : GI b es to k start m) :
    ∃ i, i ∈ es ∧ es.find? (cOk b es to k (grw b es to k start m)) = some i ∧ cOk b es to k (grw b es to k start m) i = true ∧ grw b es to k start (m + 1) = grw b es to k start m ++ [i] ∧ GI b es to k start (m + 1) := by
  obtain ⟨v, h1, h2⟩ := h.ev
  have hk : k - (m + 1) = (k - (m + 2)) + 1 := by omega
  rw [hk] at h1
  obtain ⟨e, he, hei, s', hs', rfl⟩ := wkN_first h1
  have hkl : k - (grw b es to k start m).length - 1 = k - (m + 2) := by rw [h.len]; omega
  have hok : cOk b es to k (grw b es to k start m) e = true := by
    unfold cOk
    rw [hkl, hs', decide_eq_true hei]
    exact decide_eq_true (by omega)
  obtain ⟨i, hi⟩ : ∃ i, es.find? (cOk b es to k (grw b es to k start m)) = some i := by
    cases hf : es.find? (cOk b es to k (grw b es to k start m)) with
    | some i => exact ⟨i, rfl⟩
    | none => exact absurd hok (by have := List.find?_eq_none.1 hf e he; simpa using this)
  have him := List.mem_of_find?_eq_some hi
  have hio := List.find?_some hi
  have hg : grw b es to k start (m + 1) = grw b es to k start m ++ [i] := by
    show (match es.find? (cOk b es to k (grw b es to k start m)) with
    | some i => grw b es to k start m ++ [i]
    | none => grw b es to k start m) = _
    rw [hi]
  refine ⟨i, him, hi, hio, hg, ?_⟩
  have ho := hio
  unfold cOk at ho
  rw [Bool.and_eq_true, decide_eq_true_eq, hkl] at ho
  obtain ⟨o1, o2⟩ := ho
  refine ⟨by rw [hg, List.length_append, h.len]; rfl, ?_, ?_⟩
  · rw [hg, atE_app]
    exact h.ch.app ⟨hes i him, o1, rfl⟩
  · rw [hg, atE_app, sumW_app, sumW_one]
    unfold gEnd at o2
    split at o2
    · rename_i v hv
      exact ⟨v, hv, by simpa using o2⟩
    · cases o2
theorem GI_all {b : List Bd} {es : List Nat} (hes : ∀ e ∈ es, e < b.length) {to k start : Nat} (h0 : GI b es to k start 0) : ∀ m, m < k → GI b es to k start m
  | 0, _ => h0
  | m + 1, hm => by
    obtain ⟨_, _, _, _, _, h⟩ := GI_step hes hm (GI_all hes h0 m (by omega))
    exact h
theorem wlk_next {b : List Bd} {v : Nat} : ∀ {u : Nat} {l : List Nat}, Wlk b u l v → ∀ k, k < l.length → (nth b (nth l k)).j = if k + 1 < l.length then (nth b (nth l (k + 1))).i else v
  | u, e :: [], h, 0, _ => by
    have : (nth b e).j = v := h.2.2
    simpa [nth] using this
  | u, e :: f :: r, h, 0, _ => by
    have : (nth b f).i = (nth b e).j := h.2.2.2.1
    simp only [List.length_cons]
    rw [if_pos (by omega)]
    exact this.symm
  | u, e :: r, h, k + 1, hk => by
    have ih := wlk_next h.2.2 k (by simpa using hk)
    have e1 : nth (e :: r) (k + 1) = nth r k := rfl
    have e2 : nth (e :: r) (k + 1 + 1) = nth r (k + 1) := rfl
    rw [e1, e2, ih]
    by_cases h1 : k + 1 < r.length
    · rw [if_pos h1, if_pos (by simpa using h1)]
    · rw [if_neg h1, if_neg (by simpa using h1)]
theorem wlk_closed {b : List Bd} {u : Nat} {l : List Nat} (h : Wlk b u l u) : ∀ k, k < l.length → (nth b (nth l k)).j = (nth b (nth l ((k + 1) % l.length))).i := fun k hk => by
  rw [wlk_next h k hk]
  by_cases h1 : k + 1 < l.length
  · rw [if_pos h1, Nat.mod_eq_of_lt h1]
  · rw [if_neg h1]
    have : k + 1 = l.length := by omega
    rw [this, Nat.mod_self]
    cases l with
    | nil => simp at hk
    | cons e r => exact h.2.1.symm
def cyc (b : List Bd) (start k : Nat) : Option (List Nat) :=
  bif gEnd (nth b start).c (wkN b (idx b (start + 1)) (nth b start).i (k - 1) (nth b start).j) then some (grw b (idx b (start + 1)) (nth b start).i k start (k - 1)) else none
theorem gEnd_iff {s : Int} {o : Option Int} : gEnd s o = true ↔ ∃ v, o = some v ∧ s + v < 0 := by
  cases o <;> simp [gEnd]
theorem cyc_ok {b : List Bd} {start k : Nat} {l : List Nat} (hst : start < b.length) (hk : 1 ≤ k) (h : cyc b start k = some l) : l.length = k ∧ (∀ i, i < l.length → nth l i < b.length) ∧ (∀ k, k < l.length → (nth b (nth l k)).j = (nth b (nth l ((k + 1) % l.length))).i) ∧ sumW b l < 0 := by
  unfold cyc at h
  cases hg : gEnd (nth b start).c (wkN b (idx b (start + 1)) (nth b start).i (k - 1) (nth b start).j) with
  | false => rw [hg] at h; cases h
  | true =>
    rw [hg] at h
    simp only [cond_true, Option.some.injEq] at h
    obtain ⟨v, h1, h2⟩ := gEnd_iff.1 hg
    have hes : ∀ e ∈ idx b (start + 1), e < b.length := fun e he => (idx_mem he).2
    have g := GI_all hes (GI0 hst h1 h2) (k - 1) (by omega)
    obtain ⟨g1, g2, w, g3, g4⟩ := g
    rw [h] at g1 g2 g3 g4
    have h0 : k - (k - 1 + 1) = 0 := by omega
    rw [h0] at g3
    have h3 : (if atE b l = (nth b start).i then some (0 : Int) else none) = some w := g3
    split at h3
    · rename_i he
      cases h3
      rw [he] at g2
      refine ⟨by omega, fun i hi => g2.mem _ ?_, wlk_closed g2, by omega⟩
      rw [nth_eq l i hi]; exact List.getElem_mem hi
    · cases h3
theorem cyc_ex {n : Nat} {b : List Bd} (hb : BdOk n b) {u : Nat} {ws : List Nat} (hw : Wlk b u ws u) (hs : sumW b ws < 0) : ∃ start k, start < b.length ∧ 2 ≤ k ∧ k ≤ n ∧ cyc b start k ≠ none := by
  obtain ⟨e, r, h1, h2, h3, h4, h5, h6⟩ := neg_cycle hb hw hs
  refine ⟨e, r.length + 1, h1, h5, h6, ?_⟩
  obtain ⟨s, h7, h8⟩ := wkN_le (es := idx b (e + 1)) r _ (fun x hx => mem_idx (h4 x hx) (h2.mem x hx)) h2
  unfold cyc
  have : gEnd (nth b e).c (wkN b (idx b (e + 1)) (nth b e).i (r.length + 1 - 1) (nth b e).j) = true := gEnd_iff.2 ⟨s, h7, by omega⟩
  rw [this]; simp
theorem find_idx {b : List Bd} {f i : Nat} {p : Nat → Bool} (hf : f ≤ i) (hi : i < b.length) (hp : p i = true) (hn : ∀ x, f ≤ x → x < i → p x = false) : (idx b f).find? p = some i := by
  unfold idx
  have hl : b.length - f = (i - f) + (b.length - i) := by omega
  rw [hl, ← List.range'_append]
  rw [List.find?_append]
  have : (List.range' f (i - f)).find? p = none := List.find?_eq_none.2 fun x hx => by
    rw [List.mem_range'_1] at hx
    rw [hn x hx.1 (by omega)]; decide
  rw [this]
  have h2 : b.length - i = (b.length - i - 1) + 1 := by omega
  have h3 : f + 1 * (i - f) = i := by omega
  rw [h2, h3, List.range'_succ, List.find?_cons, hp]; rfl
end Go.Proofs.Ytdmngdphgnnoiaa

open Go Go.AL Go.RowKit
namespace Go.Proofs.Ytdmngdphgnnoiaa
set_option maxRecDepth 20000
/- coinage/difference.cycle -/
abbrev c30_1 : AC := .reg [⟨(some 8), .mv (.k (.c .nil)), none⟩] false
abbrev c30_2 : AC := .reg [⟨(some 18), .mv (.t 1), none⟩,
  ⟨(some 19), .mv (.t 2), none⟩,
  ⟨(some 20), .iad 3 (.t 18) (.t 19), none⟩,
  ⟨(some 21), .ld (some 3) (.t 20), none⟩,
  ⟨(some 9), .alloc 55 [(.I 0), (.I 0), (.I 0)], none⟩,
  ⟨none, .st (some 3) (.t 9) (.t 21), none⟩] false
abbrev c30_3 : AC := .reg [⟨(some 22), .mv (.t 0), none⟩,
  ⟨(some 23), .mv (.t 1), none⟩,
  ⟨(some 24), .mv (.t 2), none⟩,
  ⟨(some 25), .bin .add (.t 24) (.k (.I 1)), none⟩,
  ⟨(some 26), .fad 0 (.t 9), none⟩,
  ⟨(some 27), .ld none (.t 26), none⟩,
  ⟨(some 28), .mv (.t 3), none⟩,
  ⟨(some 29), .bin .sub (.t 28) (.k (.I 1)), none⟩,
  ⟨(some 30), .call 46 [(.t 22), (.t 23), (.t 25), (.t 27), (.t 29)], none⟩,
  ⟨(some 10), .mv (.t 30), none⟩] false
abbrev c30_4 : AC := .regD [(⟨(some 31), .mv (.t 2), none⟩, [2]),
  (⟨(some 32), .bslice 3 1 [(.t 31)], none⟩, [31]),
  (⟨(some 33), .fad 2 (.t 9), none⟩, [9]),
  (⟨(some 34), .ld none (.t 33), none⟩, [33]),
  (⟨(some 35), .fad 1 (.t 9), none⟩, [9]),
  (⟨(some 36), .ld none (.t 35), none⟩, [35]),
  (⟨(some 11), .mv (.t 32), none⟩, [32]),
  (⟨(some 12), .mv (.t 34), none⟩, [34]),
  (⟨(some 13), .mv (.t 36), none⟩, [36])]
abbrev c30_5 : AC := .reg [⟨(some 37), .mv (.t 10), none⟩,
  ⟨(some 38), .mv (.t 3), none⟩,
  ⟨(some 39), .bin .sub (.t 38) (.k (.I 1)), none⟩,
  ⟨(some 40), .iad 1 (.t 37) (.t 39), none⟩,
  ⟨(some 41), .ld none (.t 40), none⟩,
  ⟨(some 42), .mv (.t 13), none⟩,
  ⟨(some 43), .iad 2 (.t 41) (.t 42), none⟩,
  ⟨(some 44), .ld (some 2) (.t 43), none⟩,
  ⟨(some 14), .alloc 76 [(.I 0), (.B false)], none⟩,
  ⟨none, .st (some 2) (.t 14) (.t 44), none⟩] false
abbrev c30_6 : AC := .reg [⟨(some 45), .fad 1 (.t 14), none⟩,
  ⟨(some 46), .ld none (.t 45), none⟩,
  ⟨(some 47), .not (.t 46), none⟩,
  ⟨(some 48), .mv (.t 47), none⟩,
  ⟨(some 49), .mv (.t 12), (some (48, false))⟩,
  ⟨(some 50), .fad 0 (.t 14), (some (48, false))⟩,
  ⟨(some 51), .ld none (.t 50), (some (48, false))⟩,
  ⟨(some 52), .bin .add (.t 49) (.t 51), (some (48, false))⟩,
  ⟨(some 53), .bin .geq (.t 52) (.k (.I 0)), (some (48, false))⟩,
  ⟨(some 54), .pick (.t 48) (.k (.B true)) (.t 53), none⟩] false
abbrev c30_7 : AC := .reg [⟨(some 8), .mv (.k (.c .nil)), none⟩] false
abbrev c30_8 : AC := .seq c30_7 .ret
abbrev c30_9 : AC := .cond (.t 54) c30_8 .skip
abbrev c30_10 : AC := .seq c30_6 c30_9
abbrev c30_11 : AC := .seq c30_5 c30_10
abbrev c30_12 : AC := .reg [⟨(some 55), .mv (.t 11), none⟩,
  ⟨(some 56), .len (.t 55), none⟩,
  ⟨(some 57), .mv (.t 3), none⟩,
  ⟨(some 58), .bin .lss (.t 56) (.t 57), none⟩] false
abbrev c30_13 : AC := .cond (.t 58) .skip (.exit 0)
abbrev c30_14 : AC := .seq c30_12 c30_13
abbrev c30_15 : AC := .reg [⟨(some 59), .mv (.t 3), none⟩,
  ⟨(some 60), .mv (.t 11), none⟩,
  ⟨(some 61), .len (.t 60), none⟩,
  ⟨(some 62), .bin .sub (.t 59) (.t 61), none⟩,
  ⟨(some 63), .bin .sub (.t 62) (.k (.I 1)), none⟩,
  ⟨(some 15), .mv (.t 63), none⟩] false
abbrev c30_16 : AC := .reg [⟨(some 64), .mv (.t 2), none⟩,
  ⟨(some 65), .bin .add (.t 64) (.k (.I 1)), none⟩,
  ⟨(some 16), .mv (.t 65), none⟩] false
abbrev c30_17 : AC := .reg [⟨(some 66), .mv (.t 16), none⟩,
  ⟨(some 67), .mv (.t 1), none⟩,
  ⟨(some 68), .len (.t 67), none⟩,
  ⟨(some 69), .bin .lss (.t 66) (.t 68), none⟩] false
abbrev c30_18 : AC := .cond (.t 69) .skip (.exit 2)
abbrev c30_19 : AC := .seq c30_17 c30_18
abbrev c30_20 : AC := .regX (.first ⟨(some 72), .mv (.t 10), none⟩
  (.first ⟨(some 73), .mv (.t 15), none⟩
  (.first ⟨(some 74), .iad 1 (.t 72) (.t 73), none⟩
  (.first ⟨(some 76), .mv (.t 1), none⟩
  (.first ⟨(some 77), .mv (.t 16), none⟩
  (.first ⟨(some 78), .iad 3 (.t 76) (.t 77), none⟩
  (.first ⟨(some 79), .fad 1 (.t 78), none⟩
  (.fork ⟨(some 75), .ld none (.t 74), none⟩
  (.fork ⟨(some 80), .ld none (.t 79), none⟩
  (.first ⟨(some 81), .iad 2 (.t 75) (.t 80), none⟩
  (.fork ⟨(some 82), .ld (some 2) (.t 81), none⟩
  (.fork ⟨(some 17), .alloc 76 [(.I 0), (.B false)], none⟩
  (.fork ⟨none, .st (some 2) (.t 17) (.t 82), none⟩
  .done
  .nope)
  .nope)
  (.fork ⟨(some 17), .alloc 76 [(.I 0), (.B false)], none⟩
  (.fork ⟨(some 82), .ld (some 2) (.t 81), none⟩
  (.fork ⟨none, .st (some 2) (.t 17) (.t 82), none⟩
  .done
  .nope)
  .nope)
  .nope)))
  (.fork ⟨(some 17), .alloc 76 [(.I 0), (.B false)], none⟩
  (.fork ⟨(some 80), .ld none (.t 79), none⟩
  (.first ⟨(some 81), .iad 2 (.t 75) (.t 80), none⟩
  (.fork ⟨(some 82), .ld (some 2) (.t 81), none⟩
  (.fork ⟨none, .st (some 2) (.t 17) (.t 82), none⟩
  .done
  .nope)
  .nope))
  .nope)
  .nope))
  (.fork ⟨(some 80), .ld none (.t 79), none⟩
  (.fork ⟨(some 75), .ld none (.t 74), none⟩
  (.first ⟨(some 81), .iad 2 (.t 75) (.t 80), none⟩
  (.fork ⟨(some 82), .ld (some 2) (.t 81), none⟩
  (.fork ⟨(some 17), .alloc 76 [(.I 0), (.B false)], none⟩
  (.fork ⟨none, .st (some 2) (.t 17) (.t 82), none⟩
  .done
  .nope)
  .nope)
  (.fork ⟨(some 17), .alloc 76 [(.I 0), (.B false)], none⟩
  (.fork ⟨(some 82), .ld (some 2) (.t 81), none⟩
  (.fork ⟨none, .st (some 2) (.t 17) (.t 82), none⟩
  .done
  .nope)
  .nope)
  .nope)))
  (.fork ⟨(some 17), .alloc 76 [(.I 0), (.B false)], none⟩
  (.fork ⟨(some 75), .ld none (.t 74), none⟩
  (.first ⟨(some 81), .iad 2 (.t 75) (.t 80), none⟩
  (.fork ⟨(some 82), .ld (some 2) (.t 81), none⟩
  (.fork ⟨none, .st (some 2) (.t 17) (.t 82), none⟩
  .done
  .nope)
  .nope))
  .nope)
  .nope))
  (.fork ⟨(some 17), .alloc 76 [(.I 0), (.B false)], none⟩
  (.fork ⟨(some 75), .ld none (.t 74), none⟩
  (.fork ⟨(some 80), .ld none (.t 79), none⟩
  (.first ⟨(some 81), .iad 2 (.t 75) (.t 80), none⟩
  (.fork ⟨(some 82), .ld (some 2) (.t 81), none⟩
  (.fork ⟨none, .st (some 2) (.t 17) (.t 82), none⟩
  .done
  .nope)
  .nope))
  .nope)
  (.fork ⟨(some 80), .ld none (.t 79), none⟩
  (.fork ⟨(some 75), .ld none (.t 74), none⟩
  (.first ⟨(some 81), .iad 2 (.t 75) (.t 80), none⟩
  (.fork ⟨(some 82), .ld (some 2) (.t 81), none⟩
  (.fork ⟨none, .st (some 2) (.t 17) (.t 82), none⟩
  .done
  .nope)
  .nope))
  .nope)
  .nope))
  .nope))))))))))
abbrev c30_21 : AC := .regD [(⟨(some 83), .mv (.t 1), none⟩, [1]),
  (⟨(some 84), .mv (.t 16), none⟩, [16]),
  (⟨(some 85), .iad 3 (.t 83) (.t 84), none⟩, [83, 84]),
  (⟨(some 86), .fad 0 (.t 85), none⟩, [85]),
  (⟨(some 87), .ld none (.t 86), none⟩, [86]),
  (⟨(some 88), .mv (.t 13), none⟩, [13]),
  (⟨(some 89), .bin .eql (.t 87) (.t 88), none⟩, [87, 88]),
  (⟨(some 90), .mv (.t 89), none⟩, [89]),
  (⟨(some 91), .fad 1 (.t 17), (some (90, true))⟩, [17, 90]),
  (⟨(some 92), .ld none (.t 91), (some (90, true))⟩, [91, 90]),
  (⟨(some 93), .pick (.t 90) (.t 92) (.k (.B false)), none⟩, [90, 92]),
  (⟨(some 94), .mv (.t 93), none⟩, [93]),
  (⟨(some 95), .mv (.t 12), (some (94, true))⟩, [12, 94]),
  (⟨(some 96), .mv (.t 1), (some (94, true))⟩, [1, 94]),
  (⟨(some 97), .mv (.t 16), (some (94, true))⟩, [16, 94]),
  (⟨(some 98), .iad 3 (.t 96) (.t 97), (some (94, true))⟩, [96, 97, 94]),
  (⟨(some 99), .fad 2 (.t 98), (some (94, true))⟩, [98, 94]),
  (⟨(some 100), .ld none (.t 99), (some (94, true))⟩, [99, 94]),
  (⟨(some 101), .bin .add (.t 95) (.t 100), (some (94, true))⟩, [95, 100, 94]),
  (⟨(some 102), .fad 0 (.t 17), (some (94, true))⟩, [17, 94]),
  (⟨(some 103), .ld none (.t 102), (some (94, true))⟩, [102, 94]),
  (⟨(some 104), .bin .add (.t 101) (.t 103), (some (94, true))⟩, [101, 103, 94]),
  (⟨(some 105), .bin .lss (.t 104) (.k (.I 0)), (some (94, true))⟩, [104, 94]),
  (⟨(some 106), .pick (.t 94) (.t 105) (.k (.B false)), none⟩, [94, 105])]
abbrev c30_22 : AC := .reg [⟨(some 107), .mv (.t 11), none⟩,
  ⟨(some 108), .mv (.t 16), none⟩,
  ⟨(some 109), .bslice 3 1 [(.t 108)], none⟩,
  ⟨(some 110), .app 3 1 8 (.t 107) (.t 109), none⟩,
  ⟨(some 11), .mv (.t 110), none⟩] false
abbrev c30_23 : AC := .reg [⟨(some 111), .mv (.t 12), none⟩,
  ⟨(some 112), .mv (.t 1), none⟩,
  ⟨(some 113), .mv (.t 16), none⟩,
  ⟨(some 114), .iad 3 (.t 112) (.t 113), none⟩,
  ⟨(some 115), .fad 2 (.t 114), none⟩,
  ⟨(some 116), .ld none (.t 115), none⟩,
  ⟨(some 117), .bin .add (.t 111) (.t 116), none⟩,
  ⟨(some 12), .mv (.t 117), none⟩] false
abbrev c30_24 : AC := .reg [⟨(some 118), .mv (.t 1), none⟩,
  ⟨(some 119), .mv (.t 16), none⟩,
  ⟨(some 120), .iad 3 (.t 118) (.t 119), none⟩,
  ⟨(some 121), .fad 1 (.t 120), none⟩,
  ⟨(some 122), .ld none (.t 121), none⟩,
  ⟨(some 13), .mv (.t 122), none⟩] false
abbrev c30_25 : AC := .seq c30_24 (.exit 2)
abbrev c30_26 : AC := .seq c30_23 c30_25
abbrev c30_27 : AC := .seq c30_22 c30_26
abbrev c30_28 : AC := .cond (.t 106) c30_27 .skip
abbrev c30_29 : AC := .seq c30_21 c30_28
abbrev c30_30 : AC := .seq c30_20 c30_29
abbrev c30_31 : AC := .block 3 c30_30
abbrev c30_32 : AC := .reg [⟨(some 70), .mv (.t 16), none⟩,
  ⟨(some 71), .bin .add (.t 70) (.k (.I 1)), none⟩,
  ⟨(some 16), .mv (.t 71), none⟩] false
abbrev c30_33 : AC := .seq c30_31 c30_32
abbrev c30_34 : AC := .seq c30_19 c30_33
abbrev c30_35 : AC := .loop c30_34
abbrev c30_36 : AC := .block 2 c30_35
abbrev c30_37 : AC := .seq c30_16 c30_36
abbrev c30_38 : AC := .seq c30_15 c30_37
abbrev c30_39 : AC := .block 1 c30_38
abbrev c30_40 : AC := .seq c30_14 c30_39
abbrev c30_41 : AC := .loop c30_40
abbrev c30_42 : AC := .block 0 c30_41
abbrev c30_43 : AC := .reg [⟨(some 123), .mv (.t 11), none⟩,
  ⟨(some 8), .mv (.t 123), none⟩] false
abbrev c30_44 : AC := .seq c30_43 .ret
abbrev c30_45 : AC := .seq c30_42 c30_44
abbrev c30_46 : AC := .seq c30_11 c30_45
abbrev c30_47 : AC := .seq c30_4 c30_46
abbrev c30_48 : AC := .seq c30_3 c30_47
abbrev c30_49 : AC := .seq c30_2 c30_48
abbrev c30_50 : AC := .seq c30_1 c30_49
abbrev c30 : AC := c30_50
theorem code30 : fnCode Try.prog 30 = some (c30, [8], 124) := by kernel_rfl
theorem h30_20 {Q : Exit → St → Prop} {σ : St} (h : Hold (AW Try.prog c30_20 Q σ)) : AW Try.prog c30_20 Q σ := h.out
theorem h30_21 {Q : Exit → St → Prop} {σ : St} (h : Hold (AW Try.prog c30_21 Q σ)) : AW Try.prog c30_21 Q σ := h.out
def sXa (b : List Bd) (n k start L x : Nat) (W : Mo) (ys : List (List CD)) (S : Int) (A : Nat) : St := ⟨124, [(1, .c (Bds b)), (2, .I (start : Int)), (3, .I (k : Int)), (10, .c (.sl 1 (WK n W k))), (11, .full 1 ys), (12, .I S), (13, .I (A : Int)), (15, .I (L : Int)), (16, .I (x : Int))], []⟩
def sYa (b : List Bd) (n k start L x : Nat) (W : Mo) (ys : List (List CD)) (S : Int) (A : Nat) (o : Option Int) : St := ⟨124, [(1, .c (Bds b)), (2, .I (start : Int)), (3, .I (k : Int)), (10, .c (.sl 1 (WK n W k))), (11, .full 1 ys), (12, .I S), (13, .I (A : Int)), (15, .I (L : Int)), (16, .I (x : Int)), (17, .ptr 17 0)], (17, .box 76 [.I (o.getD 0), .B o.isSome]) :: []⟩
def sZa (b : List Bd) (n k start L x : Nat) (W : Mo) (ys : List (List CD)) (S : Int) (A : Nat) (v : Bool) : St := ⟨124, [(1, .c (Bds b)), (2, .I (start : Int)), (3, .I (k : Int)), (10, .c (.sl 1 (WK n W k))), (11, .full 1 ys), (12, .I S), (13, .I (A : Int)), (15, .I (L : Int)), (16, .I (x : Int)), (106, .B v)], []⟩
set_option maxHeartbeats 16000000 in
theorem r30a (n : Nat) (b : List Bd) (hb : Rgt n b) (k start L x : Nat) (W : Mo) (ys : List (List CD)) (S : Int) (A : Nat) (hL : L < k) (hx : x < b.length) : AW Try.prog c30_20 (cutQ (sYa b n k start L x W ys S A (W L (nth b x).j))) (sXa b n k start L x W ys S A) := by
  obtain ⟨r1, r2, r3, r4⟩ := hb x hx
  have hWg := WK_get (n := n) W hL
  have hWl := WK_len n W k
  have hrg := rowL_get (n := n) W L r2
  have hrl := rowL_len n W L
  have hL' : ((L : Int) < (k : Int)) = True := eq_true (by omega)
  have hx' : ((x : Int) < (b.length : Int)) = True := eq_true (by omega)
  have hj' : (((nth b x).j : Int) < (n : Int)) = True := eq_true (by omega)
  have hbg : (b.map bdc).getD x [] = bdc (nth b x) := getD_map bdc b x [] hx
  unfold sXa sYa
  (repeat' (first | refine Both.mk ?_ ?_ | ((first | refine aw ?_ | refine aD ?_ | refine aX ?_ | refine cT ?_ | refine cF ?_); try simp (disch := omega) only [go_sem, seval, reduceCtorEq, hWg, hWl, hrg, hrl, hL', hx', hj', hbg, bdc, List.length_map, Int.toNat_natCast]) | refine aI (fun hc => ?_) fun hc => ?_ | simp (disch := omega) only [go_sem, seval, reduceCtorEq, hWg, hWl, hrg, hrl, hL', hx', hj', hbg, bdc, List.length_map, Int.toNat_natCast] | refine aO ?_ | refine aA ?_ ?_ | fail))
  all_goals first | omega | skip
set_option maxHeartbeats 16000000 in
theorem q30a (n : Nat) (b : List Bd) (hb : Rgt n b) (k start L x : Nat) (W : Mo) (ys : List (List CD)) (S : Int) (A : Nat) (hx : x < b.length) (o : Option Int) (ho : ∀ v, o = some v → -1000000000 ≤ v ∧ v ≤ 1000000000) (hS : -1000000000 ≤ S ∧ S ≤ 1000000000) : AW Try.prog c30_21 (cutQ (sZa b n k start L x W ys S A (decide ((nth b x).i = A) && gEnd (S + (nth b x).c) o))) (sYa b n k start L x W ys S A o) := by
  obtain ⟨r1, r2, r3, r4⟩ := hb x hx
  have hx' : ((x : Int) < (b.length : Int)) = True := eq_true (by omega)
  have hbg : (b.map bdc).getD x [] = bdc (nth b x) := getD_map bdc b x [] hx
  unfold sYa sZa
  by_cases h1 : (nth b x).i = A
  · have h1' : (((nth b x).i : Int) = (A : Int)) = True := eq_true (by omega)
    rw [decide_eq_true h1]
    cases o with
    | none =>
      (repeat' (first | refine Both.mk ?_ ?_ | ((first | refine aw ?_ | refine aD ?_ | refine aX ?_ | refine cT ?_ | refine cF ?_); try simp (disch := omega) only [go_sem, seval, reduceCtorEq, h1', hx', hbg, bdc, gEnd, Option.getD_none, Option.isSome_none, List.length_map, Int.toNat_natCast]) | refine aI (fun hc => ?_) fun hc => ?_ | simp (disch := omega) only [go_sem, seval, reduceCtorEq, h1', hx', hbg, bdc, gEnd, Option.getD_none, Option.isSome_none, List.length_map, Int.toNat_natCast] | refine aO ?_ | refine aA ?_ ?_ | fail))
      all_goals first | omega | skip
    | some v =>
      have hv := ho v rfl
      by_cases h2 : S + (nth b x).c + v < 0
      · have h2' := eq_true h2
        (repeat' (first | refine Both.mk ?_ ?_ | ((first | refine aw ?_ | refine aD ?_ | refine aX ?_ | refine cT ?_ | refine cF ?_); try simp (disch := omega) only [go_sem, seval, reduceCtorEq, h1', h2', hx', hbg, bdc, gEnd, Option.getD_some, Option.isSome_some, List.length_map, Int.toNat_natCast]) | refine aI (fun hc => ?_) fun hc => ?_ | simp (disch := omega) only [go_sem, seval, reduceCtorEq, h1', h2', hx', hbg, bdc, gEnd, Option.getD_some, Option.isSome_some, List.length_map, Int.toNat_natCast] | refine aO ?_ | refine aA ?_ ?_ | fail))
        all_goals first | omega | skip
      · have h2' := eq_false h2
        (repeat' (first | refine Both.mk ?_ ?_ | ((first | refine aw ?_ | refine aD ?_ | refine aX ?_ | refine cT ?_ | refine cF ?_); try simp (disch := omega) only [go_sem, seval, reduceCtorEq, h1', h2', hx', hbg, bdc, gEnd, Option.getD_some, Option.isSome_some, List.length_map, Int.toNat_natCast]) | refine aI (fun hc => ?_) fun hc => ?_ | simp (disch := omega) only [go_sem, seval, reduceCtorEq, h1', h2', hx', hbg, bdc, gEnd, Option.getD_some, Option.isSome_some, List.length_map, Int.toNat_natCast] | refine aO ?_ | refine aA ?_ ?_ | fail))
        all_goals first | omega | skip
  · have h1' : (((nth b x).i : Int) = (A : Int)) = False := eq_false (by omega)
    rw [decide_eq_false h1]
    (repeat' (first | refine Both.mk ?_ ?_ | ((first | refine aw ?_ | refine aD ?_ | refine aX ?_ | refine cT ?_ | refine cF ?_); try simp (disch := omega) only [go_sem, seval, reduceCtorEq, h1', hx', hbg, bdc, List.length_map, Int.toNat_natCast]) | refine aI (fun hc => ?_) fun hc => ?_ | simp (disch := omega) only [go_sem, seval, reduceCtorEq, h1', hx', hbg, bdc, List.length_map, Int.toNat_natCast] | refine aO ?_ | refine aA ?_ ?_ | fail))
    all_goals first | omega | skip
def sWa (b : List Bd) (n k start : Nat) (W : Mo) (ys : List (List CD)) (S : Int) (A : Nat) : St := ⟨124, [(1, .c (Bds b)), (2, .I (start : Int)), (3, .I (k : Int)), (10, .c (.sl 1 (WK n W k))), (11, .own 110), (12, .I S), (13, .I (A : Int))], [(110, .arr 3 1 ys)]⟩
set_option maxHeartbeats 16000000 in
theorem p30a (n : Nat) (b : List Bd) (hbl : b.length ≤ 1000) (hb : Rgt n b) (k start L : Nat) (W : Mo) (ys : List (List CD)) (hys : ys.length ≤ 100) (S : Int) (A i0 : Nat) (hL : L < k) (hi : start < i0) (hi0 : i0 < b.length) (hW : ∀ a v, W L a = some v → -1000000000 ≤ v ∧ v ≤ 1000000000) (hS : -1000000000 ≤ S ∧ S ≤ 1000000000)
    (hp : (decide ((nth b i0).i = A) && gEnd (S + (nth b i0).c) (W L (nth b i0).j)) = true) (hn : ∀ x, start + 1 ≤ x → x < i0 → (decide ((nth b x).i = A) && gEnd (S + (nth b x).c) (W L (nth b x).j)) = false) :
    AW Try.prog c30_36 (cutQ (sWa b n k start W (ys ++ [[.I (i0 : Int)]]) (S + (nth b i0).c) (nth b i0).j)) (sXa b n k start L (start + 1) W ys S A) := by
  unfold sXa
  (repeat' (first | refine Both.mk ?_ ?_ | ((first | refine aw ?_ | refine aD ?_ | refine aX ?_ | refine cT ?_ | refine cF ?_); try simp (disch := omega) only [go_sem, seval, reduceCtorEq]) | refine aI (fun hc => ?_) fun hc => ?_ | simp (disch := omega) only [go_sem, seval, reduceCtorEq] | refine aO ?_ | refine aA ?_ ?_ | fail))
  refine AW_loopK [1, 2, 3, 10, 15] [11, 12, 13, 16, 17, 66, 67, 68, 69, 70, 71, 72, 73, 74, 75, 76, 77, 78, 79, 80, 81, 82, 83, 84, 85, 86, 87, 88, 89, 90, 91, 92, 93, 94, 95, 96, 97, 98, 99, 100, 101, 102, 103, 104, 105, 106, 107, 108, 109, 110, 111, 112, 113, 114, 115, 116, 117, 118, 119, 120, 121, 122] (fun x : Nat => start + 1 ≤ x ∧ x ≤ i0) (fun x => [(11, .full 1 ys), (12, .I S), (13, .I (A : Int)), (16, .I (x : Int))]) (fun x => []) (fun x => i0 - x) (start + 1) (by omega) ?_ ?_
  · simp (disch := omega) only [go_sem, seval, reduceCtorEq]
  · intro x hx
    obtain ⟨hx1, hx2⟩ := hx
    obtain ⟨r1, r2, r3, r4⟩ := hb x (by omega)
    have hxl : ((x : Int) < (b.length : Int)) = True := eq_true (by omega)
    have q1 := r30a n b hb k start L x W ys S A hL (by omega)
    have q2 := q30a n b hb k start L x W ys S A (by omega) (W L (nth b x).j) (hW _) hS
    have hbg : (b.map bdc).getD x [] = bdc (nth b x) := getD_map bdc b x [] (by omega)
    rcases Nat.lt_or_ge x i0 with hxi | hxi
    · rw [hn x hx1 hxi] at q2
      (repeat' (first | (with_reducible refine h30_20 ?_) | refine Both.mk ?_ ?_ | ((first | refine aw ?_ | refine aD ?_ | refine aX ?_ | refine cT ?_ | refine cF ?_); try simp (disch := omega) only [go_sem, seval, reduceCtorEq, hxl, List.length_map]) | refine aI (fun hc => ?_) fun hc => ?_ | simp (disch := omega) only [go_sem, seval, reduceCtorEq, hxl, List.length_map] | refine aO ?_ | refine aA ?_ ?_ | fail))
      refine ⟨AW_cut _ _ q1 ?_ ?_⟩
      · unfold sXa
        simp (disch := omega) only [go_sem, seval, reduceCtorEq]
      (repeat' (first | (with_reducible refine h30_21 ?_) | refine Both.mk ?_ ?_ | ((first | refine aw ?_ | refine aD ?_ | refine aX ?_ | refine cT ?_ | refine cF ?_); try simp (disch := omega) only [go_sem, seval, reduceCtorEq]) | refine aI (fun hc => ?_) fun hc => ?_ | simp (disch := omega) only [go_sem, seval, reduceCtorEq] | refine aO ?_ | refine aA ?_ ?_ | fail))
      refine ⟨AW_cut _ _ q2 ?_ ?_⟩
      · unfold sYa
        simp (disch := omega) only [go_sem, seval, reduceCtorEq]
      unfold sZa
      (repeat' (first | refine Both.mk ?_ ?_ | ((first | refine aw ?_ | refine aD ?_ | refine aX ?_ | refine cT ?_ | refine cF ?_); try simp (disch := omega) only [go_sem, seval, reduceCtorEq]) | refine aI (fun hc => ?_) fun hc => ?_ | simp (disch := omega) only [go_sem, seval, reduceCtorEq] | refine aO ?_ | refine aA ?_ ?_ | fail))
      all_goals first | omega | skip
      refine .mk (x + 1) (by omega) (by omega) ?_
      simp (disch := omega) only [go_sem, seval, reduceCtorEq, Int.natCast_add, Int.natCast_one]
    · obtain rfl : x = i0 := by omega
      rw [hp] at q2
      (repeat' (first | (with_reducible refine h30_20 ?_) | refine Both.mk ?_ ?_ | ((first | refine aw ?_ | refine aD ?_ | refine aX ?_ | refine cT ?_ | refine cF ?_); try simp (disch := omega) only [go_sem, seval, reduceCtorEq, hxl, List.length_map]) | refine aI (fun hc => ?_) fun hc => ?_ | simp (disch := omega) only [go_sem, seval, reduceCtorEq, hxl, List.length_map] | refine aO ?_ | refine aA ?_ ?_ | fail))
      refine ⟨AW_cut _ _ q1 ?_ ?_⟩
      · unfold sXa
        simp (disch := omega) only [go_sem, seval, reduceCtorEq]
      (repeat' (first | (with_reducible refine h30_21 ?_) | refine Both.mk ?_ ?_ | ((first | refine aw ?_ | refine aD ?_ | refine aX ?_ | refine cT ?_ | refine cF ?_); try simp (disch := omega) only [go_sem, seval, reduceCtorEq]) | refine aI (fun hc => ?_) fun hc => ?_ | simp (disch := omega) only [go_sem, seval, reduceCtorEq] | refine aO ?_ | refine aA ?_ ?_ | fail))
      refine ⟨AW_cut _ _ q2 ?_ ?_⟩
      · unfold sYa
        simp (disch := omega) only [go_sem, seval, reduceCtorEq]
      unfold sZa sWa
      (repeat' (first | refine Both.mk ?_ ?_ | ((first | refine aw ?_ | refine aD ?_ | refine aX ?_ | refine cT ?_ | refine cF ?_); try simp (disch := omega) only [go_sem, seval, reduceCtorEq, hxl, hbg, bdc, maxLen, List.length_map, Int.toNat_natCast, List.length_cons, List.length_nil]) | refine aI (fun hc => ?_) fun hc => ?_ | simp (disch := omega) only [go_sem, seval, reduceCtorEq, hxl, hbg, bdc, maxLen, List.length_map, Int.toNat_natCast, List.length_cons, List.length_nil] | refine aO ?_ | refine aA ?_ ?_ | fail))
      all_goals first | omega | skip
def sXb (b : List Bd) (n k start L x : Nat) (W : Mo) (ys : List (List CD)) (S : Int) (A : Nat) : St := ⟨124, [(1, .c (Bds b)), (2, .I (start : Int)), (3, .I (k : Int)), (10, .c (.sl 1 (WK n W k))), (11, .own 110), (12, .I S), (13, .I (A : Int)), (15, .I (L : Int)), (16, .I (x : Int))], [(110, .arr 3 1 ys)]⟩
def sYb (b : List Bd) (n k start L x : Nat) (W : Mo) (ys : List (List CD)) (S : Int) (A : Nat) (o : Option Int) : St := ⟨124, [(1, .c (Bds b)), (2, .I (start : Int)), (3, .I (k : Int)), (10, .c (.sl 1 (WK n W k))), (11, .own 110), (12, .I S), (13, .I (A : Int)), (15, .I (L : Int)), (16, .I (x : Int)), (17, .ptr 17 0)], (17, .box 76 [.I (o.getD 0), .B o.isSome]) :: [(110, .arr 3 1 ys)]⟩
def sZb (b : List Bd) (n k start L x : Nat) (W : Mo) (ys : List (List CD)) (S : Int) (A : Nat) (v : Bool) : St := ⟨124, [(1, .c (Bds b)), (2, .I (start : Int)), (3, .I (k : Int)), (10, .c (.sl 1 (WK n W k))), (11, .own 110), (12, .I S), (13, .I (A : Int)), (15, .I (L : Int)), (16, .I (x : Int)), (106, .B v)], [(110, .arr 3 1 ys)]⟩
set_option maxHeartbeats 16000000 in
theorem r30b (n : Nat) (b : List Bd) (hb : Rgt n b) (k start L x : Nat) (W : Mo) (ys : List (List CD)) (S : Int) (A : Nat) (hL : L < k) (hx : x < b.length) : AW Try.prog c30_20 (cutQ (sYb b n k start L x W ys S A (W L (nth b x).j))) (sXb b n k start L x W ys S A) := by
  obtain ⟨r1, r2, r3, r4⟩ := hb x hx
  have hWg := WK_get (n := n) W hL
  have hWl := WK_len n W k
  have hrg := rowL_get (n := n) W L r2
  have hrl := rowL_len n W L
  have hL' : ((L : Int) < (k : Int)) = True := eq_true (by omega)
  have hx' : ((x : Int) < (b.length : Int)) = True := eq_true (by omega)
  have hj' : (((nth b x).j : Int) < (n : Int)) = True := eq_true (by omega)
  have hbg : (b.map bdc).getD x [] = bdc (nth b x) := getD_map bdc b x [] hx
  unfold sXb sYb
  (repeat' (first | refine Both.mk ?_ ?_ | ((first | refine aw ?_ | refine aD ?_ | refine aX ?_ | refine cT ?_ | refine cF ?_); try simp (disch := omega) only [go_sem, seval, reduceCtorEq, hWg, hWl, hrg, hrl, hL', hx', hj', hbg, bdc, List.length_map, Int.toNat_natCast]) | refine aI (fun hc => ?_) fun hc => ?_ | simp (disch := omega) only [go_sem, seval, reduceCtorEq, hWg, hWl, hrg, hrl, hL', hx', hj', hbg, bdc, List.length_map, Int.toNat_natCast] | refine aO ?_ | refine aA ?_ ?_ | fail))
  all_goals first | omega | skip
set_option maxHeartbeats 16000000 in
theorem q30b (n : Nat) (b : List Bd) (hb : Rgt n b) (k start L x : Nat) (W : Mo) (ys : List (List CD)) (S : Int) (A : Nat) (hx : x < b.length) (o : Option Int) (ho : ∀ v, o = some v → -1000000000 ≤ v ∧ v ≤ 1000000000) (hS : -1000000000 ≤ S ∧ S ≤ 1000000000) : AW Try.prog c30_21 (cutQ (sZb b n k start L x W ys S A (decide ((nth b x).i = A) && gEnd (S + (nth b x).c) o))) (sYb b n k start L x W ys S A o) := by
  obtain ⟨r1, r2, r3, r4⟩ := hb x hx
  have hx' : ((x : Int) < (b.length : Int)) = True := eq_true (by omega)
  have hbg : (b.map bdc).getD x [] = bdc (nth b x) := getD_map bdc b x [] hx
  unfold sYb sZb
  by_cases h1 : (nth b x).i = A
  · have h1' : (((nth b x).i : Int) = (A : Int)) = True := eq_true (by omega)
    rw [decide_eq_true h1]
    cases o with
    | none =>
      (repeat' (first | refine Both.mk ?_ ?_ | ((first | refine aw ?_ | refine aD ?_ | refine aX ?_ | refine cT ?_ | refine cF ?_); try simp (disch := omega) only [go_sem, seval, reduceCtorEq, h1', hx', hbg, bdc, gEnd, Option.getD_none, Option.isSome_none, List.length_map, Int.toNat_natCast]) | refine aI (fun hc => ?_) fun hc => ?_ | simp (disch := omega) only [go_sem, seval, reduceCtorEq, h1', hx', hbg, bdc, gEnd, Option.getD_none, Option.isSome_none, List.length_map, Int.toNat_natCast] | refine aO ?_ | refine aA ?_ ?_ | fail))
      all_goals first | omega | skip
    | some v =>
      have hv := ho v rfl
      by_cases h2 : S + (nth b x).c + v < 0
      · have h2' := eq_true h2
        (repeat' (first | refine Both.mk ?_ ?_ | ((first | refine aw ?_ | refine aD ?_ | refine aX ?_ | refine cT ?_ | refine cF ?_); try simp (disch := omega) only [go_sem, seval, reduceCtorEq, h1', h2', hx', hbg, bdc, gEnd, Option.getD_some, Option.isSome_some, List.length_map, Int.toNat_natCast]) | refine aI (fun hc => ?_) fun hc => ?_ | simp (disch := omega) only [go_sem, seval, reduceCtorEq, h1', h2', hx', hbg, bdc, gEnd, Option.getD_some, Option.isSome_some, List.length_map, Int.toNat_natCast] | refine aO ?_ | refine aA ?_ ?_ | fail))
        all_goals first | omega | skip
      · have h2' := eq_false h2
        (repeat' (first | refine Both.mk ?_ ?_ | ((first | refine aw ?_ | refine aD ?_ | refine aX ?_ | refine cT ?_ | refine cF ?_); try simp (disch := omega) only [go_sem, seval, reduceCtorEq, h1', h2', hx', hbg, bdc, gEnd, Option.getD_some, Option.isSome_some, List.length_map, Int.toNat_natCast]) | refine aI (fun hc => ?_) fun hc => ?_ | simp (disch := omega) only [go_sem, seval, reduceCtorEq, h1', h2', hx', hbg, bdc, gEnd, Option.getD_some, Option.isSome_some, List.length_map, Int.toNat_natCast] | refine aO ?_ | refine aA ?_ ?_ | fail))
        all_goals first | omega | skip
  · have h1' : (((nth b x).i : Int) = (A : Int)) = False := eq_false (by omega)
    rw [decide_eq_false h1]
    (repeat' (first | refine Both.mk ?_ ?_ | ((first | refine aw ?_ | refine aD ?_ | refine aX ?_ | refine cT ?_ | refine cF ?_); try simp (disch := omega) only [go_sem, seval, reduceCtorEq, h1', hx', hbg, bdc, List.length_map, Int.toNat_natCast]) | refine aI (fun hc => ?_) fun hc => ?_ | simp (disch := omega) only [go_sem, seval, reduceCtorEq, h1', hx', hbg, bdc, List.length_map, Int.toNat_natCast] | refine aO ?_ | refine aA ?_ ?_ | fail))
    all_goals first | omega | skip
def sWb (b : List Bd) (n k start : Nat) (W : Mo) (ys : List (List CD)) (S : Int) (A : Nat) : St := ⟨124, [(1, .c (Bds b)), (2, .I (start : Int)), (3, .I (k : Int)), (10, .c (.sl 1 (WK n W k))), (11, .own 110), (12, .I S), (13, .I (A : Int))], [(110, .arr 3 1 ys)]⟩
set_option maxHeartbeats 16000000 in
theorem p30b (n : Nat) (b : List Bd) (hbl : b.length ≤ 1000) (hb : Rgt n b) (k start L : Nat) (W : Mo) (ys : List (List CD)) (hys : ys.length ≤ 100) (S : Int) (A i0 : Nat) (hL : L < k) (hi : start < i0) (hi0 : i0 < b.length) (hW : ∀ a v, W L a = some v → -1000000000 ≤ v ∧ v ≤ 1000000000) (hS : -1000000000 ≤ S ∧ S ≤ 1000000000)
    (hp : (decide ((nth b i0).i = A) && gEnd (S + (nth b i0).c) (W L (nth b i0).j)) = true) (hn : ∀ x, start + 1 ≤ x → x < i0 → (decide ((nth b x).i = A) && gEnd (S + (nth b x).c) (W L (nth b x).j)) = false) :
    AW Try.prog c30_36 (cutQ (sWb b n k start W (ys ++ [[.I (i0 : Int)]]) (S + (nth b i0).c) (nth b i0).j)) (sXb b n k start L (start + 1) W ys S A) := by
  unfold sXb
  (repeat' (first | refine Both.mk ?_ ?_ | ((first | refine aw ?_ | refine aD ?_ | refine aX ?_ | refine cT ?_ | refine cF ?_); try simp (disch := omega) only [go_sem, seval, reduceCtorEq]) | refine aI (fun hc => ?_) fun hc => ?_ | simp (disch := omega) only [go_sem, seval, reduceCtorEq] | refine aO ?_ | refine aA ?_ ?_ | fail))
  refine AW_loopK [1, 2, 3, 10, 15] [11, 12, 13, 16, 17, 66, 67, 68, 69, 70, 71, 72, 73, 74, 75, 76, 77, 78, 79, 80, 81, 82, 83, 84, 85, 86, 87, 88, 89, 90, 91, 92, 93, 94, 95, 96, 97, 98, 99, 100, 101, 102, 103, 104, 105, 106, 107, 108, 109, 110, 111, 112, 113, 114, 115, 116, 117, 118, 119, 120, 121, 122] (fun x : Nat => start + 1 ≤ x ∧ x ≤ i0) (fun x => [(11, .own 110), (12, .I S), (13, .I (A : Int)), (16, .I (x : Int))]) (fun x => [(110, .arr 3 1 ys)]) (fun x => i0 - x) (start + 1) (by omega) ?_ ?_
  · simp (disch := omega) only [go_sem, seval, reduceCtorEq]
  · intro x hx
    obtain ⟨hx1, hx2⟩ := hx
    obtain ⟨r1, r2, r3, r4⟩ := hb x (by omega)
    have hxl : ((x : Int) < (b.length : Int)) = True := eq_true (by omega)
    have q1 := r30b n b hb k start L x W ys S A hL (by omega)
    have q2 := q30b n b hb k start L x W ys S A (by omega) (W L (nth b x).j) (hW _) hS
    have hbg : (b.map bdc).getD x [] = bdc (nth b x) := getD_map bdc b x [] (by omega)
    rcases Nat.lt_or_ge x i0 with hxi | hxi
    · rw [hn x hx1 hxi] at q2
      (repeat' (first | (with_reducible refine h30_20 ?_) | refine Both.mk ?_ ?_ | ((first | refine aw ?_ | refine aD ?_ | refine aX ?_ | refine cT ?_ | refine cF ?_); try simp (disch := omega) only [go_sem, seval, reduceCtorEq, hxl, List.length_map]) | refine aI (fun hc => ?_) fun hc => ?_ | simp (disch := omega) only [go_sem, seval, reduceCtorEq, hxl, List.length_map] | refine aO ?_ | refine aA ?_ ?_ | fail))
      refine ⟨AW_cut _ _ q1 ?_ ?_⟩
      · unfold sXb
        simp (disch := omega) only [go_sem, seval, reduceCtorEq]
      (repeat' (first | (with_reducible refine h30_21 ?_) | refine Both.mk ?_ ?_ | ((first | refine aw ?_ | refine aD ?_ | refine aX ?_ | refine cT ?_ | refine cF ?_); try simp (disch := omega) only [go_sem, seval, reduceCtorEq]) | refine aI (fun hc => ?_) fun hc => ?_ | simp (disch := omega) only [go_sem, seval, reduceCtorEq] | refine aO ?_ | refine aA ?_ ?_ | fail))
      refine ⟨AW_cut _ _ q2 ?_ ?_⟩
      · unfold sYb
        simp (disch := omega) only [go_sem, seval, reduceCtorEq]
      unfold sZb
      (repeat' (first | refine Both.mk ?_ ?_ | ((first | refine aw ?_ | refine aD ?_ | refine aX ?_ | refine cT ?_ | refine cF ?_); try simp (disch := omega) only [go_sem, seval, reduceCtorEq]) | refine aI (fun hc => ?_) fun hc => ?_ | simp (disch := omega) only [go_sem, seval, reduceCtorEq] | refine aO ?_ | refine aA ?_ ?_ | fail))
      all_goals first | omega | skip
      refine .mk (x + 1) (by omega) (by omega) ?_
      simp (disch := omega) only [go_sem, seval, reduceCtorEq, Int.natCast_add, Int.natCast_one]
    · obtain rfl : x = i0 := by omega
      rw [hp] at q2
      (repeat' (first | (with_reducible refine h30_20 ?_) | refine Both.mk ?_ ?_ | ((first | refine aw ?_ | refine aD ?_ | refine aX ?_ | refine cT ?_ | refine cF ?_); try simp (disch := omega) only [go_sem, seval, reduceCtorEq, hxl, List.length_map]) | refine aI (fun hc => ?_) fun hc => ?_ | simp (disch := omega) only [go_sem, seval, reduceCtorEq, hxl, List.length_map] | refine aO ?_ | refine aA ?_ ?_ | fail))
      refine ⟨AW_cut _ _ q1 ?_ ?_⟩
      · unfold sXb
        simp (disch := omega) only [go_sem, seval, reduceCtorEq]
      (repeat' (first | (with_reducible refine h30_21 ?_) | refine Both.mk ?_ ?_ | ((first | refine aw ?_ | refine aD ?_ | refine aX ?_ | refine cT ?_ | refine cF ?_); try simp (disch := omega) only [go_sem, seval, reduceCtorEq]) | refine aI (fun hc => ?_) fun hc => ?_ | simp (disch := omega) only [go_sem, seval, reduceCtorEq] | refine aO ?_ | refine aA ?_ ?_ | fail))
      refine ⟨AW_cut _ _ q2 ?_ ?_⟩
      · unfold sYb
        simp (disch := omega) only [go_sem, seval, reduceCtorEq]
      unfold sZb sWb
      (repeat' (first | refine Both.mk ?_ ?_ | ((first | refine aw ?_ | refine aD ?_ | refine aX ?_ | refine cT ?_ | refine cF ?_); try simp (disch := omega) only [go_sem, seval, reduceCtorEq, hxl, hbg, bdc, maxLen, List.length_map, Int.toNat_natCast, List.length_cons, List.length_nil]) | refine aI (fun hc => ?_) fun hc => ?_ | simp (disch := omega) only [go_sem, seval, reduceCtorEq, hxl, hbg, bdc, maxLen, List.length_map, Int.toNat_natCast, List.length_cons, List.length_nil] | refine aO ?_ | refine aA ?_ ?_ | fail))
      all_goals first | omega | skip
end Go.Proofs.Ytdmngdphgnnoiaa

open Go Go.AL Go.RowKit
namespace Go.Proofs.Ytdmngdphgnnoiaa
set_option maxRecDepth 20000
theorem h30_45 {Q : Exit → St → Prop} {σ : St} (h : Hold (AW Try.prog c30_45 Q σ)) : AW Try.prog c30_45 Q σ := h.out
theorem h30_36 {Q : Exit → St → Prop} {σ : St} (h : Hold (AW Try.prog c30_36 Q σ)) : AW Try.prog c30_36 Q σ := h.out
def v30 : Nat → List (List CD) → AV
  | 0, ys => .full 1 ys
  | _ + 1, _ => .own 110
def o30 : Nat → List (List CD) → List (Nat × AO)
  | 0, _ => []
  | _ + 1, ys => [(110, .arr 3 1 ys)]
theorem v30_0 (ys : List (List CD)) : v30 0 ys = .full 1 ys := rfl
theorem v30_s (m : Nat) (ys : List (List CD)) : v30 (m + 1) ys = .own 110 := rfl
theorem o30_0 (ys : List (List CD)) : o30 0 ys = [] := rfl
theorem o30_s (m : Nat) (ys : List (List CD)) : o30 (m + 1) ys = [(110, .arr 3 1 ys)] := rfl
theorem AW_cutK {P : Program} {c : AC} (τ σ0 : St) {Q : Exit → St → Prop} {σ : St} (h : AW P c (cutQ τ) σ0) (hl : σ.le σ0) (hk : ∀ σ', σ'.le τ → Q .normal σ') : AW P c Q σ :=
  AW_le σ0 hl (AW_mono h fun e σ' hl => by
    cases e with
    | normal => exact hk σ' hl
    | _ => exact hl.elim)
theorem not_before {b : List Bd} {f i : Nat} {p : Nat → Bool} (h : (idx b f).find? p = some i) : ∀ x, f ≤ x → x < i → p x = false := by
  intro x
  induction x using Nat.strongRecOn with
  | ind x ih =>
    intro hf hx
    cases hp : p x with
    | false => rfl
    | true =>
      have hm := List.mem_of_find?_eq_some h
      have h2 := find_idx (b := b) hf (by have := (idx_mem hm).2; omega) hp fun y hy hyx => ih y hyx hy (by omega)
      rw [h] at h2
      cases h2; omega
set_option maxHeartbeats 16000000 in
theorem x30n (n : Nat) (hn : 1 ≤ n ∧ n ≤ 16) (b : List Bd) (hl : b.length ≤ 1000) (hb : Rgt n b) (start k : Nat) (hs : start < b.length) (hk : 2 ≤ k ∧ k ≤ 100) (h : cyc b start k = none) :
    FnR Try.prog 30 [.I (n : Int), .c (Bds b), .I (start : Int), .I (k : Int)] [.c .nil] := by
  obtain ⟨r1, r2, r3, r4⟩ := hb start hs
  have g := x46 n hn b hl hb (start + 1) (nth b start).i (k - 1) (by omega) r1 (by omega)
  have e1 : ((start + 1 : Nat) : Int) = (start : Int) + 1 := by omega
  have e2 : ((k - 1 : Nat) : Int) = (k : Int) - 1 := by omega
  have e3 : k - 1 + 1 = k := by omega
  rw [e3] at g
  rw [e1, e2] at g
  have hab := fun v => wkN_abs hb (f := start + 1) (to := (nth b start).i) (t := k - 1) (v := (nth b start).j) (s := v)
  unfold cyc at h
  generalize hW : wkN b (idx b (start + 1)) (nth b start).i = W at *
  have hx' : ((start : Int) < (b.length : Int)) = True := eq_true (by omega)
  have hbg : (b.map bdc).getD start [] = bdc (nth b start) := getD_map bdc b start [] hs
  have hWg := WK_get (n := n) W (t := k) (s := k - 1) (by omega)
  have hWl := WK_len n W k
  have hrg := rowL_get (n := n) W (k - 1) r2
  have hrl := rowL_len n W (k - 1)
  have hk1 : ((k : Int) - 1).toNat = k - 1 := by omega
  have hk2 : ((k : Int) - 1 < (k : Int)) = True := eq_true (by omega)
  have hj' : (((nth b start).j : Int) < (n : Int)) = True := eq_true (by omega)
  refine fn_walk code30 (by simp) ?_
  refine AW_mark ?_
  cases ho : W (k - 1) (nth b start).j with
  | none =>
    rw [ho] at hrg
    (repeat' (first | refine Both.mk ?_ ?_ | ((first | refine aw ?_ | refine aD ?_ | refine aX ?_ | refine cT ?_ | refine cF ?_ | refine cR (g ..) ?_ | refine cG (g ..) ?_); try simp (disch := omega) only [go_sem, seval, reduceCtorEq, hbg, hx', hWg, hWl, hrg, hrl, hk1, hk2, hj', bdc, Option.getD_none, Option.isSome_none, List.length_map, Int.toNat_natCast]) | refine aI (fun hc => ?_) fun hc => ?_ | simp (disch := omega) only [go_sem, seval, reduceCtorEq, hbg, hx', hWg, hWl, hrg, hrl, hk1, hk2, hj', bdc, Option.getD_none, Option.isSome_none, List.length_map, Int.toNat_natCast] | refine aO ?_ | refine aC ?_ ?_ | refine aC' ?_ ?_ | refine aA ?_ ?_ | fail))
    all_goals first | omega | skip
  | some v =>
    rw [ho] at hrg h
    have hv := hab v ho
    have hnn : ((nth b start).c + v ≥ 0) = True := eq_true (by
      cases hd : decide ((nth b start).c + v < 0) with
      | true => dsimp only [gEnd] at h; rw [hd] at h; cases h
      | false => have := of_decide_eq_false hd; omega)
    (repeat' (first | refine Both.mk ?_ ?_ | ((first | refine aw ?_ | refine aD ?_ | refine aX ?_ | refine cT ?_ | refine cF ?_ | refine cR (g ..) ?_ | refine cG (g ..) ?_); try simp (disch := omega) only [go_sem, seval, reduceCtorEq, hbg, hx', hWg, hWl, hrg, hrl, hk1, hk2, hj', hnn, bdc, Option.getD_some, Option.isSome_some, List.length_map, Int.toNat_natCast]) | refine aI (fun hc => ?_) fun hc => ?_ | simp (disch := omega) only [go_sem, seval, reduceCtorEq, hbg, hx', hWg, hWl, hrg, hrl, hk1, hk2, hj', hnn, bdc, Option.getD_some, Option.isSome_some, List.length_map, Int.toNat_natCast] | refine aO ?_ | refine aC ?_ ?_ | refine aC' ?_ ?_ | refine aA ?_ ?_ | fail))
    all_goals first | omega | skip
def s30 (n : Nat) (b : List Bd) (start k : Nat) (W : Mo) (S : Int) (A : Nat) : St := ⟨124, [(1, .c (Bds b)), (2, .I (start : Int)), (3, .I (k : Int)), (10, .c (.sl 1 (WK n W k))), (11, .full 1 [[.I (start : Int)]]), (12, .I S), (13, .I (A : Int))], []⟩
set_option maxHeartbeats 16000000 in
theorem y30 (n : Nat) (b : List Bd) (hl : b.length ≤ 1000) (hb : Rgt n b) (start k : Nat) (hs : start < b.length) (hk : 2 ≤ k ∧ k ≤ 100) (l : List Nat) (h : grw b (idx b (start + 1)) (nth b start).i k start (k - 1) = l)
    (v : Int) (ho : wkN b (idx b (start + 1)) (nth b start).i (k - 1) (nth b start).j = some v) (hv : (nth b start).c + v < 0) :
    AW Try.prog c30_45 (retQ [8] [.own 3 1 (l.map nc)]) (s30 n b start k (wkN b (idx b (start + 1)) (nth b start).i) (nth b start).c (nth b start).j) := by
  have hab := fun t a v => wkN_abs hb (f := start + 1) (to := (nth b start).i) (t := t) (v := a) (s := v)
  have hes : ∀ e ∈ idx b (start + 1), e < b.length := fun e he => (idx_mem he).2
  have hGI := GI_all hes (GI0 hs ho hv)
  have hst := fun m hm => GI_step hes (m := m) (k := k) hm (hGI m (by omega))
  have hWab : ∀ t a v, t < k → wkN b (idx b (start + 1)) (nth b start).i t a = some v → -1000000000 ≤ v ∧ v ≤ 1000000000 := fun t a v ht hw => by
    have := hab t a v hw
    omega
  unfold s30
  have hatl0 : atE b (grw b (idx b (start + 1)) (nth b start).i k start 0) = (nth b start).j := rfl
  have hsum0 : sumW b (grw b (idx b (start + 1)) (nth b start).i k start 0) = (nth b start).c := sumW_one b start
  generalize hG : grw b (idx b (start + 1)) (nth b start).i k start = G at *
  have hG0 : G 0 = [start] := by rw [← hG]; rfl
  (repeat' (first | refine Both.mk ?_ ?_ | ((first | refine aw ?_ | refine aD ?_ | refine aX ?_ | refine cT ?_ | refine cF ?_); try simp (disch := omega) only [go_sem, seval, reduceCtorEq]) | refine aI (fun hc => ?_) fun hc => ?_ | simp (disch := omega) only [go_sem, seval, reduceCtorEq] | refine aO ?_ | refine aA ?_ ?_ | fail))
  refine AW_loopK [1, 2, 3, 10] [11, 12, 13, 15, 16, 17, 55, 56, 57, 58, 59, 60, 61, 62, 63, 64, 65, 66, 67, 68, 69, 70, 71, 72, 73, 74, 75, 76, 77, 78, 79, 80, 81, 82, 83, 84, 85, 86, 87, 88, 89, 90, 91, 92, 93, 94, 95, 96, 97, 98, 99, 100, 101, 102, 103, 104, 105, 106, 107, 108, 109, 110, 111, 112, 113, 114, 115, 116, 117, 118, 119, 120, 121, 122] (fun m : Nat => m < k) (fun m => [(11, v30 m ((G m).map nc)), (12, .I (sumW b (G m))), (13, .I ((atE b (G m) : Nat) : Int))]) (fun m => o30 m ((G m).map nc)) (fun m => k - m) 0 (by omega) ?_ ?_
  · have hm0 : (G 0).map nc = [[.I (start : Int)]] := by rw [hG0]; rfl
    rw [hm0, hsum0, hatl0]
    simp (disch := omega) only [go_sem, seval, reduceCtorEq, v30_0, o30_0]
  · intro m hm
    have hg := hGI m hm
    obtain ⟨hlen, hch, hev⟩ := hg
    rw [hG] at hlen hch hev
    have hln : ((G m).map nc).length = m + 1 := by rw [List.length_map, hlen]
    have hsab := sumW_abs hb (G m) fun e he => hch.mem e he
    rw [hlen] at hsab
    rcases Nat.lt_or_ge (m + 1) k with hmk | hmk
    · obtain ⟨i, hi1, hi2, hi3, hi4, -⟩ := hst m hmk
      have hkk : (((m + 1 : Nat) : Int) < (k : Int)) = True := eq_true (by omega)
      have hleft : (k : Int) - ((m + 1 : Nat) : Int) - 1 = ((k - (m + 1) - 1 : Nat) : Int) := by omega
      have hnb := not_before hi2
      unfold cOk at hi3 hnb
      rw [hlen] at hi3 hnb
      have hii := idx_mem hi1
      have f1 : (G m).map nc ++ [[.I (i : Int)]] = (G (m + 1)).map nc := by rw [hi4, List.map_append]; rfl
      have f2 : sumW b (G m) + (nth b i).c = sumW b (G (m + 1)) := by rw [hi4, sumW_app, sumW_one]
      have f3 : (nth b i).j = atE b (G (m + 1)) := by rw [hi4, atE_app]
      have pa := p30a n b hl hb k start (k - (m + 1) - 1) (wkN b (idx b (start + 1)) (nth b start).i) ((G m).map nc) (by omega) (sumW b (G m)) (atE b (G m)) i (by omega) (by omega) hii.2 (fun a v hw => hWab _ a v (by omega) hw) (by omega) hi3 hnb
      have pb := p30b n b hl hb k start (k - (m + 1) - 1) (wkN b (idx b (start + 1)) (nth b start).i) ((G m).map nc) (by omega) (sumW b (G m)) (atE b (G m)) i (by omega) (by omega) hii.2 (fun a v hw => hWab _ a v (by omega) hw) (by omega) hi3 hnb
      rw [f1, f2, f3] at pa pb
      generalize hys : (G m).map nc = ys at *
      cases m with
      | zero =>
        have hkk' : ((1 : Int) < (k : Int)) = True := eq_true (by omega)
        have hln' : ys.length = 1 := hln
        have hleft' : (k : Int) - 1 - 1 = ((k - (0 + 1) - 1 : Nat) : Int) := by omega
        (repeat' (first | (with_reducible refine h30_36 ?_) | refine Both.mk ?_ ?_ | ((first | refine aw ?_ | refine aD ?_ | refine aX ?_ | refine cT ?_ | refine cF ?_); try simp (disch := omega) only [go_sem, seval, reduceCtorEq, v30_0, o30_0, hkk', hln', hleft', Int.natCast_one]) | refine aI (fun hc => ?_) fun hc => ?_ | simp (disch := omega) only [go_sem, seval, reduceCtorEq, v30_0, o30_0, hkk', hln', hleft', Int.natCast_one] | refine aO ?_ | refine aA ?_ ?_ | fail))
        all_goals first | omega | skip
        refine ⟨AW_cutK _ _ pa ?_ fun σ' hσ => .mk (0 + 1) (by omega) (by omega) ?_⟩
        · unfold sXa
          simp (disch := omega) only [go_sem, seval, reduceCtorEq]
          all_goals omega
        · unfold sWa at hσ
          simp only [St.le, St.le1, St.le2, v30_s, o30_s, List.nil_append, List.append_nil] at hσ ⊢
          obtain ⟨a1, ⟨a2, a3, a4, a5, a6, a7, a8, -⟩, a9, -⟩ := hσ
          exact ⟨a1, ⟨a6, a7, a8, a2, a3, a4, a5, trivial⟩, a9, trivial⟩
      | succ m =>
        (repeat' (first | (with_reducible refine h30_36 ?_) | refine Both.mk ?_ ?_ | ((first | refine aw ?_ | refine aD ?_ | refine aX ?_ | refine cT ?_ | refine cF ?_); try simp (disch := omega) only [go_sem, seval, reduceCtorEq, v30_s, o30_s, hkk, hln, hleft]) | refine aI (fun hc => ?_) fun hc => ?_ | simp (disch := omega) only [go_sem, seval, reduceCtorEq, v30_s, o30_s, hkk, hln, hleft] | refine aO ?_ | refine aA ?_ ?_ | fail))
        all_goals first | omega | skip
        refine ⟨AW_cutK _ _ pb ?_ fun σ' hσ => .mk (m + 1 + 1) (by omega) (by omega) ?_⟩
        · unfold sXb
          simp (disch := omega) only [go_sem, seval, reduceCtorEq]
          all_goals omega
        · unfold sWb at hσ
          simp only [St.le, St.le1, St.le2, v30_s, o30_s, List.nil_append, List.append_nil] at hσ ⊢
          obtain ⟨a1, ⟨a2, a3, a4, a5, a6, a7, a8, -⟩, a9, -⟩ := hσ
          exact ⟨a1, ⟨a6, a7, a8, a2, a3, a4, a5, trivial⟩, a9, trivial⟩
    · obtain rfl : m = k - 1 := by omega
      have hkk : (((k - 1 + 1 : Nat) : Int) < (k : Int)) = False := eq_false (by omega)
      rw [← h]
      generalize hys : (G (k - 1)).map nc = ys at *
      generalize hk1' : k - 1 = m at *
      cases m with
      | zero => omega
      | succ m =>
        (repeat' (first | refine Both.mk ?_ ?_ | ((first | refine aw ?_ | refine aD ?_ | refine aX ?_ | refine cT ?_ | refine cF ?_); try simp (disch := omega) only [go_sem, seval, reduceCtorEq, v30_s, o30_s, hkk, hln]) | refine aI (fun hc => ?_) fun hc => ?_ | simp (disch := omega) only [go_sem, seval, reduceCtorEq, v30_s, o30_s, hkk, hln] | refine aO ?_ | refine aA ?_ ?_ | fail))
set_option maxHeartbeats 16000000 in
theorem x30s (n : Nat) (hn : 1 ≤ n ∧ n ≤ 16) (b : List Bd) (hl : b.length ≤ 1000) (hb : Rgt n b) (start k : Nat) (hs : start < b.length) (hk : 2 ≤ k ∧ k ≤ 100) (l : List Nat) (h : cyc b start k = some l) :
    FnR Try.prog 30 [.I (n : Int), .c (Bds b), .I (start : Int), .I (k : Int)] [.own 3 1 (l.map nc)] := by
  obtain ⟨r1, r2, r3, r4⟩ := hb start hs
  have g := x46 n hn b hl hb (start + 1) (nth b start).i (k - 1) (by omega) r1 (by omega)
  have e1 : ((start + 1 : Nat) : Int) = (start : Int) + 1 := by omega
  have e2 : ((k - 1 : Nat) : Int) = (k : Int) - 1 := by omega
  have e3 : k - 1 + 1 = k := by omega
  rw [e3] at g
  rw [e1, e2] at g
  have hab := fun t a v => wkN_abs hb (f := start + 1) (to := (nth b start).i) (t := t) (v := a) (s := v)
  unfold cyc at h
  cases hge : gEnd (nth b start).c (wkN b (idx b (start + 1)) (nth b start).i (k - 1) (nth b start).j) with
  | false => rw [hge] at h; cases h
  | true =>
  rw [hge] at h
  simp only [cond_true, Option.some.injEq] at h
  obtain ⟨v, ho, hv⟩ := gEnd_iff.1 hge
  have hes : ∀ e ∈ idx b (start + 1), e < b.length := fun e he => (idx_mem he).2
  have hGI := GI_all hes (GI0 hs ho hv)
  have hst := fun m hm => GI_step hes (m := m) (k := k) hm (hGI m (by omega))
  have hb0 := hab (k - 1) (nth b start).j v ho
  have hWab : ∀ t a v, t < k → wkN b (idx b (start + 1)) (nth b start).i t a = some v → -1000000000 ≤ v ∧ v ≤ 1000000000 := fun t a v ht hw => by
    have := hab t a v hw
    omega
  have hx' : ((start : Int) < (b.length : Int)) = True := eq_true (by omega)
  have hbg : (b.map bdc).getD start [] = bdc (nth b start) := getD_map bdc b start [] hs
  have hWg := WK_get (n := n) (wkN b (idx b (start + 1)) (nth b start).i) (t := k) (s := k - 1) (by omega)
  have hWl := WK_len n (wkN b (idx b (start + 1)) (nth b start).i) k
  have hrg := rowL_get (n := n) (wkN b (idx b (start + 1)) (nth b start).i) (k - 1) r2
  have hrl := rowL_len n (wkN b (idx b (start + 1)) (nth b start).i) (k - 1)
  have hk1 : ((k : Int) - 1).toNat = k - 1 := by omega
  have hk2 : ((k : Int) - 1 < (k : Int)) = True := eq_true (by omega)
  have hj' : (((nth b start).j : Int) < (n : Int)) = True := eq_true (by omega)
  have hnn : ((nth b start).c + v ≥ 0) = False := eq_false (by omega)
  rw [ho] at hrg
  refine fn_walk code30 (by simp) ?_
  refine AW_mark ?_
  (repeat' (first | (with_reducible refine h30_45 ?_) | refine Both.mk ?_ ?_ | ((first | refine aw ?_ | refine aD ?_ | refine aX ?_ | refine cT ?_ | refine cF ?_ | refine cR (g ..) ?_ | refine cG (g ..) ?_); try simp (disch := omega) only [go_sem, seval, reduceCtorEq, hbg, hx', hWg, hWl, hrg, hrl, hk1, hk2, hj', hnn, bdc, Option.getD_some, Option.isSome_some, List.length_map, Int.toNat_natCast]) | refine aI (fun hc => ?_) fun hc => ?_ | simp (disch := omega) only [go_sem, seval, reduceCtorEq, hbg, hx', hWg, hWl, hrg, hrl, hk1, hk2, hj', hnn, bdc, Option.getD_some, Option.isSome_some, List.length_map, Int.toNat_natCast] | refine aO ?_ | refine aC ?_ ?_ | refine aC' ?_ ?_ | refine aA ?_ ?_ | fail))
  all_goals first | omega | skip
  refine ⟨AW_le (s30 n b start k (wkN b (idx b (start + 1)) (nth b start).i) (nth b start).c (nth b start).j) ?_ (y30 n b hl hb start k hs hk l h v ho hv)⟩
  unfold s30
  simp (disch := omega) only [go_sem, seval, reduceCtorEq]
end Go.Proofs.Ytdmngdphgnnoiaa

