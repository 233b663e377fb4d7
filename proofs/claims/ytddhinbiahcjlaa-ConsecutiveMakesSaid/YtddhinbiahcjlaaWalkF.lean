/-
  Lemmas for the proof: no statement of its own.
-/
import Derived.Test.YtddhinbiahcjlaaWalkE
import Derived.Test.YtddhinbiahcjlaaCutA
set_option linter.unusedVariables false
set_option linter.unusedSimpArgs false
-- P p_27s.txt
open Go Go.AL Go.RowKit
namespace Go.Proofs.Ytddhinbiahcjlaa
set_option maxRecDepth 20000
/- coinage/coinageref27.with -/
abbrev c20_1 : AC := .reg [⟨(some 4), .mv (.k (.c .nil)), none⟩] false
abbrev c20_2 : AC := .reg [⟨(some 5), .mv (.k (.I 0)), none⟩] false
abbrev c20_3 : AC := .reg [⟨(some 6), .mv (.t 5), none⟩,
  ⟨(some 7), .mv (.t 0), none⟩,
  ⟨(some 8), .len (.t 7), none⟩,
  ⟨(some 9), .bin .lss (.t 6) (.t 8), none⟩,
  ⟨(some 10), .mv (.t 9), none⟩,
  ⟨(some 11), .mv (.t 0), (some (10, true))⟩,
  ⟨(some 12), .mv (.t 5), (some (10, true))⟩,
  ⟨(some 13), .iad 1 (.t 11) (.t 12), (some (10, true))⟩,
  ⟨(some 14), .ld none (.t 13), (some (10, true))⟩,
  ⟨(some 15), .mv (.t 1), (some (10, true))⟩,
  ⟨(some 16), .bin .lss (.t 14) (.t 15), (some (10, true))⟩,
  ⟨(some 17), .pick (.t 10) (.t 16) (.k (.B false)), none⟩] false
abbrev c20_4 : AC := .cond (.t 17) .skip (.exit 0)
abbrev c20_5 : AC := .seq c20_3 c20_4
abbrev c20_6 : AC := .reg [⟨(some 18), .mv (.t 5), none⟩,
  ⟨(some 19), .bin .add (.t 18) (.k (.I 1)), none⟩,
  ⟨(some 5), .mv (.t 19), none⟩] false
abbrev c20_7 : AC := .block 1 c20_6
abbrev c20_8 : AC := .seq c20_5 c20_7
abbrev c20_9 : AC := .loop c20_8
abbrev c20_10 : AC := .block 0 c20_9
abbrev c20_11 : AC := .reg [⟨(some 20), .mv (.t 5), none⟩,
  ⟨(some 21), .mv (.t 0), none⟩,
  ⟨(some 22), .len (.t 21), none⟩,
  ⟨(some 23), .bin .lss (.t 20) (.t 22), none⟩,
  ⟨(some 24), .mv (.t 23), none⟩,
  ⟨(some 25), .mv (.t 0), (some (24, true))⟩,
  ⟨(some 26), .mv (.t 5), (some (24, true))⟩,
  ⟨(some 27), .iad 1 (.t 25) (.t 26), (some (24, true))⟩,
  ⟨(some 28), .ld none (.t 27), (some (24, true))⟩,
  ⟨(some 29), .mv (.t 1), (some (24, true))⟩,
  ⟨(some 30), .bin .eql (.t 28) (.t 29), (some (24, true))⟩,
  ⟨(some 31), .pick (.t 24) (.t 30) (.k (.B false)), none⟩] false
abbrev c20_12 : AC := .reg [⟨(some 32), .mv (.t 0), none⟩,
  ⟨(some 4), .mv (.t 32), none⟩] false
abbrev c20_13 : AC := .seq c20_12 .ret
abbrev c20_14 : AC := .cond (.t 31) c20_13 .skip
abbrev c20_15 : AC := .seq c20_11 c20_14
abbrev c20_16 : AC := .regX (.first ⟨(some 34), .mv (.t 0), none⟩
  (.first ⟨(some 35), .mv (.t 5), none⟩
  (.first ⟨(some 38), .mv (.t 1), none⟩
  (.first ⟨(some 41), .mv (.t 0), none⟩
  (.first ⟨(some 42), .mv (.t 5), none⟩
  (.fork ⟨(some 33), .bslice 3 1 [], none⟩
  (.fork ⟨(some 36), .slc 1 (.t 34) none (some (.t 35)), none⟩
  (.fork ⟨(some 37), .app 3 1 8 (.t 33) (.t 36), none⟩
  (.fork ⟨(some 39), .bslice 3 1 [(.t 38)], none⟩
  (.fork ⟨(some 40), .app 3 1 8 (.t 37) (.t 39), none⟩
  (.fork ⟨(some 43), .slc 1 (.t 41) (some (.t 42)) none, none⟩
  (.fork ⟨(some 44), .app 3 1 8 (.t 40) (.t 43), none⟩
  (.first ⟨(some 4), .mv (.t 44), none⟩
  .done)
  .nope)
  .nope)
  (.fork ⟨(some 43), .slc 1 (.t 41) (some (.t 42)) none, none⟩
  (.fork ⟨(some 40), .app 3 1 8 (.t 37) (.t 39), none⟩
  (.fork ⟨(some 44), .app 3 1 8 (.t 40) (.t 43), none⟩
  (.first ⟨(some 4), .mv (.t 44), none⟩
  .done)
  .nope)
  .nope)
  .nope))
  (.fork ⟨(some 43), .slc 1 (.t 41) (some (.t 42)) none, none⟩
  (.fork ⟨(some 39), .bslice 3 1 [(.t 38)], none⟩
  (.fork ⟨(some 40), .app 3 1 8 (.t 37) (.t 39), none⟩
  (.fork ⟨(some 44), .app 3 1 8 (.t 40) (.t 43), none⟩
  (.first ⟨(some 4), .mv (.t 44), none⟩
  .done)
  .nope)
  .nope)
  .nope)
  .nope))
  (.fork ⟨(some 39), .bslice 3 1 [(.t 38)], none⟩
  (.fork ⟨(some 37), .app 3 1 8 (.t 33) (.t 36), none⟩
  (.fork ⟨(some 40), .app 3 1 8 (.t 37) (.t 39), none⟩
  (.fork ⟨(some 43), .slc 1 (.t 41) (some (.t 42)) none, none⟩
  (.fork ⟨(some 44), .app 3 1 8 (.t 40) (.t 43), none⟩
  (.first ⟨(some 4), .mv (.t 44), none⟩
  .done)
  .nope)
  .nope)
  (.fork ⟨(some 43), .slc 1 (.t 41) (some (.t 42)) none, none⟩
  (.fork ⟨(some 40), .app 3 1 8 (.t 37) (.t 39), none⟩
  (.fork ⟨(some 44), .app 3 1 8 (.t 40) (.t 43), none⟩
  (.first ⟨(some 4), .mv (.t 44), none⟩
  .done)
  .nope)
  .nope)
  .nope))
  (.fork ⟨(some 43), .slc 1 (.t 41) (some (.t 42)) none, none⟩
  (.fork ⟨(some 37), .app 3 1 8 (.t 33) (.t 36), none⟩
  (.fork ⟨(some 40), .app 3 1 8 (.t 37) (.t 39), none⟩
  (.fork ⟨(some 44), .app 3 1 8 (.t 40) (.t 43), none⟩
  (.first ⟨(some 4), .mv (.t 44), none⟩
  .done)
  .nope)
  .nope)
  .nope)
  .nope))
  (.fork ⟨(some 43), .slc 1 (.t 41) (some (.t 42)) none, none⟩
  (.fork ⟨(some 37), .app 3 1 8 (.t 33) (.t 36), none⟩
  (.fork ⟨(some 39), .bslice 3 1 [(.t 38)], none⟩
  (.fork ⟨(some 40), .app 3 1 8 (.t 37) (.t 39), none⟩
  (.fork ⟨(some 44), .app 3 1 8 (.t 40) (.t 43), none⟩
  (.first ⟨(some 4), .mv (.t 44), none⟩
  .done)
  .nope)
  .nope)
  .nope)
  (.fork ⟨(some 39), .bslice 3 1 [(.t 38)], none⟩
  (.fork ⟨(some 37), .app 3 1 8 (.t 33) (.t 36), none⟩
  (.fork ⟨(some 40), .app 3 1 8 (.t 37) (.t 39), none⟩
  (.fork ⟨(some 44), .app 3 1 8 (.t 40) (.t 43), none⟩
  (.first ⟨(some 4), .mv (.t 44), none⟩
  .done)
  .nope)
  .nope)
  .nope)
  .nope))
  .nope)))
  (.fork ⟨(some 39), .bslice 3 1 [(.t 38)], none⟩
  (.fork ⟨(some 36), .slc 1 (.t 34) none (some (.t 35)), none⟩
  (.fork ⟨(some 37), .app 3 1 8 (.t 33) (.t 36), none⟩
  (.fork ⟨(some 40), .app 3 1 8 (.t 37) (.t 39), none⟩
  (.fork ⟨(some 43), .slc 1 (.t 41) (some (.t 42)) none, none⟩
  (.fork ⟨(some 44), .app 3 1 8 (.t 40) (.t 43), none⟩
  (.first ⟨(some 4), .mv (.t 44), none⟩
  .done)
  .nope)
  .nope)
  (.fork ⟨(some 43), .slc 1 (.t 41) (some (.t 42)) none, none⟩
  (.fork ⟨(some 40), .app 3 1 8 (.t 37) (.t 39), none⟩
  (.fork ⟨(some 44), .app 3 1 8 (.t 40) (.t 43), none⟩
  (.first ⟨(some 4), .mv (.t 44), none⟩
  .done)
  .nope)
  .nope)
  .nope))
  (.fork ⟨(some 43), .slc 1 (.t 41) (some (.t 42)) none, none⟩
  (.fork ⟨(some 37), .app 3 1 8 (.t 33) (.t 36), none⟩
  (.fork ⟨(some 40), .app 3 1 8 (.t 37) (.t 39), none⟩
  (.fork ⟨(some 44), .app 3 1 8 (.t 40) (.t 43), none⟩
  (.first ⟨(some 4), .mv (.t 44), none⟩
  .done)
  .nope)
  .nope)
  .nope)
  .nope))
  (.fork ⟨(some 43), .slc 1 (.t 41) (some (.t 42)) none, none⟩
  (.fork ⟨(some 36), .slc 1 (.t 34) none (some (.t 35)), none⟩
  (.fork ⟨(some 37), .app 3 1 8 (.t 33) (.t 36), none⟩
  (.fork ⟨(some 40), .app 3 1 8 (.t 37) (.t 39), none⟩
  (.fork ⟨(some 44), .app 3 1 8 (.t 40) (.t 43), none⟩
  (.first ⟨(some 4), .mv (.t 44), none⟩
  .done)
  .nope)
  .nope)
  .nope)
  .nope)
  .nope))
  (.fork ⟨(some 43), .slc 1 (.t 41) (some (.t 42)) none, none⟩
  (.fork ⟨(some 36), .slc 1 (.t 34) none (some (.t 35)), none⟩
  (.fork ⟨(some 37), .app 3 1 8 (.t 33) (.t 36), none⟩
  (.fork ⟨(some 39), .bslice 3 1 [(.t 38)], none⟩
  (.fork ⟨(some 40), .app 3 1 8 (.t 37) (.t 39), none⟩
  (.fork ⟨(some 44), .app 3 1 8 (.t 40) (.t 43), none⟩
  (.first ⟨(some 4), .mv (.t 44), none⟩
  .done)
  .nope)
  .nope)
  .nope)
  (.fork ⟨(some 39), .bslice 3 1 [(.t 38)], none⟩
  (.fork ⟨(some 37), .app 3 1 8 (.t 33) (.t 36), none⟩
  (.fork ⟨(some 40), .app 3 1 8 (.t 37) (.t 39), none⟩
  (.fork ⟨(some 44), .app 3 1 8 (.t 40) (.t 43), none⟩
  (.first ⟨(some 4), .mv (.t 44), none⟩
  .done)
  .nope)
  .nope)
  .nope)
  .nope))
  (.fork ⟨(some 39), .bslice 3 1 [(.t 38)], none⟩
  (.fork ⟨(some 36), .slc 1 (.t 34) none (some (.t 35)), none⟩
  (.fork ⟨(some 37), .app 3 1 8 (.t 33) (.t 36), none⟩
  (.fork ⟨(some 40), .app 3 1 8 (.t 37) (.t 39), none⟩
  (.fork ⟨(some 44), .app 3 1 8 (.t 40) (.t 43), none⟩
  (.first ⟨(some 4), .mv (.t 44), none⟩
  .done)
  .nope)
  .nope)
  .nope)
  .nope)
  .nope))
  .nope)))
  (.fork ⟨(some 36), .slc 1 (.t 34) none (some (.t 35)), none⟩
  (.fork ⟨(some 33), .bslice 3 1 [], none⟩
  (.fork ⟨(some 37), .app 3 1 8 (.t 33) (.t 36), none⟩
  (.fork ⟨(some 39), .bslice 3 1 [(.t 38)], none⟩
  (.fork ⟨(some 40), .app 3 1 8 (.t 37) (.t 39), none⟩
  (.fork ⟨(some 43), .slc 1 (.t 41) (some (.t 42)) none, none⟩
  (.fork ⟨(some 44), .app 3 1 8 (.t 40) (.t 43), none⟩
  (.first ⟨(some 4), .mv (.t 44), none⟩
  .done)
  .nope)
  .nope)
  (.fork ⟨(some 43), .slc 1 (.t 41) (some (.t 42)) none, none⟩
  (.fork ⟨(some 40), .app 3 1 8 (.t 37) (.t 39), none⟩
  (.fork ⟨(some 44), .app 3 1 8 (.t 40) (.t 43), none⟩
  (.first ⟨(some 4), .mv (.t 44), none⟩
  .done)
  .nope)
  .nope)
  .nope))
  (.fork ⟨(some 43), .slc 1 (.t 41) (some (.t 42)) none, none⟩
  (.fork ⟨(some 39), .bslice 3 1 [(.t 38)], none⟩
  (.fork ⟨(some 40), .app 3 1 8 (.t 37) (.t 39), none⟩
  (.fork ⟨(some 44), .app 3 1 8 (.t 40) (.t 43), none⟩
  (.first ⟨(some 4), .mv (.t 44), none⟩
  .done)
  .nope)
  .nope)
  .nope)
  .nope))
  (.fork ⟨(some 39), .bslice 3 1 [(.t 38)], none⟩
  (.fork ⟨(some 37), .app 3 1 8 (.t 33) (.t 36), none⟩
  (.fork ⟨(some 40), .app 3 1 8 (.t 37) (.t 39), none⟩
  (.fork ⟨(some 43), .slc 1 (.t 41) (some (.t 42)) none, none⟩
  (.fork ⟨(some 44), .app 3 1 8 (.t 40) (.t 43), none⟩
  (.first ⟨(some 4), .mv (.t 44), none⟩
  .done)
  .nope)
  .nope)
  (.fork ⟨(some 43), .slc 1 (.t 41) (some (.t 42)) none, none⟩
  (.fork ⟨(some 40), .app 3 1 8 (.t 37) (.t 39), none⟩
  (.fork ⟨(some 44), .app 3 1 8 (.t 40) (.t 43), none⟩
  (.first ⟨(some 4), .mv (.t 44), none⟩
  .done)
  .nope)
  .nope)
  .nope))
  (.fork ⟨(some 43), .slc 1 (.t 41) (some (.t 42)) none, none⟩
  (.fork ⟨(some 37), .app 3 1 8 (.t 33) (.t 36), none⟩
  (.fork ⟨(some 40), .app 3 1 8 (.t 37) (.t 39), none⟩
  (.fork ⟨(some 44), .app 3 1 8 (.t 40) (.t 43), none⟩
  (.first ⟨(some 4), .mv (.t 44), none⟩
  .done)
  .nope)
  .nope)
  .nope)
  .nope))
  (.fork ⟨(some 43), .slc 1 (.t 41) (some (.t 42)) none, none⟩
  (.fork ⟨(some 37), .app 3 1 8 (.t 33) (.t 36), none⟩
  (.fork ⟨(some 39), .bslice 3 1 [(.t 38)], none⟩
  (.fork ⟨(some 40), .app 3 1 8 (.t 37) (.t 39), none⟩
  (.fork ⟨(some 44), .app 3 1 8 (.t 40) (.t 43), none⟩
  (.first ⟨(some 4), .mv (.t 44), none⟩
  .done)
  .nope)
  .nope)
  .nope)
  (.fork ⟨(some 39), .bslice 3 1 [(.t 38)], none⟩
  (.fork ⟨(some 37), .app 3 1 8 (.t 33) (.t 36), none⟩
  (.fork ⟨(some 40), .app 3 1 8 (.t 37) (.t 39), none⟩
  (.fork ⟨(some 44), .app 3 1 8 (.t 40) (.t 43), none⟩
  (.first ⟨(some 4), .mv (.t 44), none⟩
  .done)
  .nope)
  .nope)
  .nope)
  .nope))
  .nope)))
  (.fork ⟨(some 39), .bslice 3 1 [(.t 38)], none⟩
  (.fork ⟨(some 33), .bslice 3 1 [], none⟩
  (.fork ⟨(some 37), .app 3 1 8 (.t 33) (.t 36), none⟩
  (.fork ⟨(some 40), .app 3 1 8 (.t 37) (.t 39), none⟩
  (.fork ⟨(some 43), .slc 1 (.t 41) (some (.t 42)) none, none⟩
  (.fork ⟨(some 44), .app 3 1 8 (.t 40) (.t 43), none⟩
  (.first ⟨(some 4), .mv (.t 44), none⟩
  .done)
  .nope)
  .nope)
  (.fork ⟨(some 43), .slc 1 (.t 41) (some (.t 42)) none, none⟩
  (.fork ⟨(some 40), .app 3 1 8 (.t 37) (.t 39), none⟩
  (.fork ⟨(some 44), .app 3 1 8 (.t 40) (.t 43), none⟩
  (.first ⟨(some 4), .mv (.t 44), none⟩
  .done)
  .nope)
  .nope)
  .nope))
  (.fork ⟨(some 43), .slc 1 (.t 41) (some (.t 42)) none, none⟩
  (.fork ⟨(some 37), .app 3 1 8 (.t 33) (.t 36), none⟩
  (.fork ⟨(some 40), .app 3 1 8 (.t 37) (.t 39), none⟩
  (.fork ⟨(some 44), .app 3 1 8 (.t 40) (.t 43), none⟩
  (.first ⟨(some 4), .mv (.t 44), none⟩
  .done)
  .nope)
  .nope)
  .nope)
  .nope))
  (.fork ⟨(some 43), .slc 1 (.t 41) (some (.t 42)) none, none⟩
  (.fork ⟨(some 33), .bslice 3 1 [], none⟩
  (.fork ⟨(some 37), .app 3 1 8 (.t 33) (.t 36), none⟩
  (.fork ⟨(some 40), .app 3 1 8 (.t 37) (.t 39), none⟩
  (.fork ⟨(some 44), .app 3 1 8 (.t 40) (.t 43), none⟩
  (.first ⟨(some 4), .mv (.t 44), none⟩
  .done)
  .nope)
  .nope)
  .nope)
  .nope)
  .nope))
  (.fork ⟨(some 43), .slc 1 (.t 41) (some (.t 42)) none, none⟩
  (.fork ⟨(some 33), .bslice 3 1 [], none⟩
  (.fork ⟨(some 37), .app 3 1 8 (.t 33) (.t 36), none⟩
  (.fork ⟨(some 39), .bslice 3 1 [(.t 38)], none⟩
  (.fork ⟨(some 40), .app 3 1 8 (.t 37) (.t 39), none⟩
  (.fork ⟨(some 44), .app 3 1 8 (.t 40) (.t 43), none⟩
  (.first ⟨(some 4), .mv (.t 44), none⟩
  .done)
  .nope)
  .nope)
  .nope)
  (.fork ⟨(some 39), .bslice 3 1 [(.t 38)], none⟩
  (.fork ⟨(some 37), .app 3 1 8 (.t 33) (.t 36), none⟩
  (.fork ⟨(some 40), .app 3 1 8 (.t 37) (.t 39), none⟩
  (.fork ⟨(some 44), .app 3 1 8 (.t 40) (.t 43), none⟩
  (.first ⟨(some 4), .mv (.t 44), none⟩
  .done)
  .nope)
  .nope)
  .nope)
  .nope))
  (.fork ⟨(some 39), .bslice 3 1 [(.t 38)], none⟩
  (.fork ⟨(some 33), .bslice 3 1 [], none⟩
  (.fork ⟨(some 37), .app 3 1 8 (.t 33) (.t 36), none⟩
  (.fork ⟨(some 40), .app 3 1 8 (.t 37) (.t 39), none⟩
  (.fork ⟨(some 44), .app 3 1 8 (.t 40) (.t 43), none⟩
  (.first ⟨(some 4), .mv (.t 44), none⟩
  .done)
  .nope)
  .nope)
  .nope)
  .nope)
  .nope))
  .nope)))
  (.fork ⟨(some 39), .bslice 3 1 [(.t 38)], none⟩
  (.fork ⟨(some 33), .bslice 3 1 [], none⟩
  (.fork ⟨(some 36), .slc 1 (.t 34) none (some (.t 35)), none⟩
  (.fork ⟨(some 37), .app 3 1 8 (.t 33) (.t 36), none⟩
  (.fork ⟨(some 40), .app 3 1 8 (.t 37) (.t 39), none⟩
  (.fork ⟨(some 43), .slc 1 (.t 41) (some (.t 42)) none, none⟩
  (.fork ⟨(some 44), .app 3 1 8 (.t 40) (.t 43), none⟩
  (.first ⟨(some 4), .mv (.t 44), none⟩
  .done)
  .nope)
  .nope)
  (.fork ⟨(some 43), .slc 1 (.t 41) (some (.t 42)) none, none⟩
  (.fork ⟨(some 40), .app 3 1 8 (.t 37) (.t 39), none⟩
  (.fork ⟨(some 44), .app 3 1 8 (.t 40) (.t 43), none⟩
  (.first ⟨(some 4), .mv (.t 44), none⟩
  .done)
  .nope)
  .nope)
  .nope))
  (.fork ⟨(some 43), .slc 1 (.t 41) (some (.t 42)) none, none⟩
  (.fork ⟨(some 37), .app 3 1 8 (.t 33) (.t 36), none⟩
  (.fork ⟨(some 40), .app 3 1 8 (.t 37) (.t 39), none⟩
  (.fork ⟨(some 44), .app 3 1 8 (.t 40) (.t 43), none⟩
  (.first ⟨(some 4), .mv (.t 44), none⟩
  .done)
  .nope)
  .nope)
  .nope)
  .nope))
  (.fork ⟨(some 43), .slc 1 (.t 41) (some (.t 42)) none, none⟩
  (.fork ⟨(some 36), .slc 1 (.t 34) none (some (.t 35)), none⟩
  (.fork ⟨(some 37), .app 3 1 8 (.t 33) (.t 36), none⟩
  (.fork ⟨(some 40), .app 3 1 8 (.t 37) (.t 39), none⟩
  (.fork ⟨(some 44), .app 3 1 8 (.t 40) (.t 43), none⟩
  (.first ⟨(some 4), .mv (.t 44), none⟩
  .done)
  .nope)
  .nope)
  .nope)
  .nope)
  .nope))
  (.fork ⟨(some 36), .slc 1 (.t 34) none (some (.t 35)), none⟩
  (.fork ⟨(some 33), .bslice 3 1 [], none⟩
  (.fork ⟨(some 37), .app 3 1 8 (.t 33) (.t 36), none⟩
  (.fork ⟨(some 40), .app 3 1 8 (.t 37) (.t 39), none⟩
  (.fork ⟨(some 43), .slc 1 (.t 41) (some (.t 42)) none, none⟩
  (.fork ⟨(some 44), .app 3 1 8 (.t 40) (.t 43), none⟩
  (.first ⟨(some 4), .mv (.t 44), none⟩
  .done)
  .nope)
  .nope)
  (.fork ⟨(some 43), .slc 1 (.t 41) (some (.t 42)) none, none⟩
  (.fork ⟨(some 40), .app 3 1 8 (.t 37) (.t 39), none⟩
  (.fork ⟨(some 44), .app 3 1 8 (.t 40) (.t 43), none⟩
  (.first ⟨(some 4), .mv (.t 44), none⟩
  .done)
  .nope)
  .nope)
  .nope))
  (.fork ⟨(some 43), .slc 1 (.t 41) (some (.t 42)) none, none⟩
  (.fork ⟨(some 37), .app 3 1 8 (.t 33) (.t 36), none⟩
  (.fork ⟨(some 40), .app 3 1 8 (.t 37) (.t 39), none⟩
  (.fork ⟨(some 44), .app 3 1 8 (.t 40) (.t 43), none⟩
  (.first ⟨(some 4), .mv (.t 44), none⟩
  .done)
  .nope)
  .nope)
  .nope)
  .nope))
  (.fork ⟨(some 43), .slc 1 (.t 41) (some (.t 42)) none, none⟩
  (.fork ⟨(some 33), .bslice 3 1 [], none⟩
  (.fork ⟨(some 37), .app 3 1 8 (.t 33) (.t 36), none⟩
  (.fork ⟨(some 40), .app 3 1 8 (.t 37) (.t 39), none⟩
  (.fork ⟨(some 44), .app 3 1 8 (.t 40) (.t 43), none⟩
  (.first ⟨(some 4), .mv (.t 44), none⟩
  .done)
  .nope)
  .nope)
  .nope)
  .nope)
  .nope))
  (.fork ⟨(some 43), .slc 1 (.t 41) (some (.t 42)) none, none⟩
  (.fork ⟨(some 33), .bslice 3 1 [], none⟩
  (.fork ⟨(some 36), .slc 1 (.t 34) none (some (.t 35)), none⟩
  (.fork ⟨(some 37), .app 3 1 8 (.t 33) (.t 36), none⟩
  (.fork ⟨(some 40), .app 3 1 8 (.t 37) (.t 39), none⟩
  (.fork ⟨(some 44), .app 3 1 8 (.t 40) (.t 43), none⟩
  (.first ⟨(some 4), .mv (.t 44), none⟩
  .done)
  .nope)
  .nope)
  .nope)
  .nope)
  (.fork ⟨(some 36), .slc 1 (.t 34) none (some (.t 35)), none⟩
  (.fork ⟨(some 33), .bslice 3 1 [], none⟩
  (.fork ⟨(some 37), .app 3 1 8 (.t 33) (.t 36), none⟩
  (.fork ⟨(some 40), .app 3 1 8 (.t 37) (.t 39), none⟩
  (.fork ⟨(some 44), .app 3 1 8 (.t 40) (.t 43), none⟩
  (.first ⟨(some 4), .mv (.t 44), none⟩
  .done)
  .nope)
  .nope)
  .nope)
  .nope)
  .nope))
  .nope)))
  (.fork ⟨(some 43), .slc 1 (.t 41) (some (.t 42)) none, none⟩
  (.fork ⟨(some 33), .bslice 3 1 [], none⟩
  (.fork ⟨(some 36), .slc 1 (.t 34) none (some (.t 35)), none⟩
  (.fork ⟨(some 37), .app 3 1 8 (.t 33) (.t 36), none⟩
  (.fork ⟨(some 39), .bslice 3 1 [(.t 38)], none⟩
  (.fork ⟨(some 40), .app 3 1 8 (.t 37) (.t 39), none⟩
  (.fork ⟨(some 44), .app 3 1 8 (.t 40) (.t 43), none⟩
  (.first ⟨(some 4), .mv (.t 44), none⟩
  .done)
  .nope)
  .nope)
  .nope)
  (.fork ⟨(some 39), .bslice 3 1 [(.t 38)], none⟩
  (.fork ⟨(some 37), .app 3 1 8 (.t 33) (.t 36), none⟩
  (.fork ⟨(some 40), .app 3 1 8 (.t 37) (.t 39), none⟩
  (.fork ⟨(some 44), .app 3 1 8 (.t 40) (.t 43), none⟩
  (.first ⟨(some 4), .mv (.t 44), none⟩
  .done)
  .nope)
  .nope)
  .nope)
  .nope))
  (.fork ⟨(some 39), .bslice 3 1 [(.t 38)], none⟩
  (.fork ⟨(some 36), .slc 1 (.t 34) none (some (.t 35)), none⟩
  (.fork ⟨(some 37), .app 3 1 8 (.t 33) (.t 36), none⟩
  (.fork ⟨(some 40), .app 3 1 8 (.t 37) (.t 39), none⟩
  (.fork ⟨(some 44), .app 3 1 8 (.t 40) (.t 43), none⟩
  (.first ⟨(some 4), .mv (.t 44), none⟩
  .done)
  .nope)
  .nope)
  .nope)
  .nope)
  .nope))
  (.fork ⟨(some 36), .slc 1 (.t 34) none (some (.t 35)), none⟩
  (.fork ⟨(some 33), .bslice 3 1 [], none⟩
  (.fork ⟨(some 37), .app 3 1 8 (.t 33) (.t 36), none⟩
  (.fork ⟨(some 39), .bslice 3 1 [(.t 38)], none⟩
  (.fork ⟨(some 40), .app 3 1 8 (.t 37) (.t 39), none⟩
  (.fork ⟨(some 44), .app 3 1 8 (.t 40) (.t 43), none⟩
  (.first ⟨(some 4), .mv (.t 44), none⟩
  .done)
  .nope)
  .nope)
  .nope)
  (.fork ⟨(some 39), .bslice 3 1 [(.t 38)], none⟩
  (.fork ⟨(some 37), .app 3 1 8 (.t 33) (.t 36), none⟩
  (.fork ⟨(some 40), .app 3 1 8 (.t 37) (.t 39), none⟩
  (.fork ⟨(some 44), .app 3 1 8 (.t 40) (.t 43), none⟩
  (.first ⟨(some 4), .mv (.t 44), none⟩
  .done)
  .nope)
  .nope)
  .nope)
  .nope))
  (.fork ⟨(some 39), .bslice 3 1 [(.t 38)], none⟩
  (.fork ⟨(some 33), .bslice 3 1 [], none⟩
  (.fork ⟨(some 37), .app 3 1 8 (.t 33) (.t 36), none⟩
  (.fork ⟨(some 40), .app 3 1 8 (.t 37) (.t 39), none⟩
  (.fork ⟨(some 44), .app 3 1 8 (.t 40) (.t 43), none⟩
  (.first ⟨(some 4), .mv (.t 44), none⟩
  .done)
  .nope)
  .nope)
  .nope)
  .nope)
  .nope))
  (.fork ⟨(some 39), .bslice 3 1 [(.t 38)], none⟩
  (.fork ⟨(some 33), .bslice 3 1 [], none⟩
  (.fork ⟨(some 36), .slc 1 (.t 34) none (some (.t 35)), none⟩
  (.fork ⟨(some 37), .app 3 1 8 (.t 33) (.t 36), none⟩
  (.fork ⟨(some 40), .app 3 1 8 (.t 37) (.t 39), none⟩
  (.fork ⟨(some 44), .app 3 1 8 (.t 40) (.t 43), none⟩
  (.first ⟨(some 4), .mv (.t 44), none⟩
  .done)
  .nope)
  .nope)
  .nope)
  .nope)
  (.fork ⟨(some 36), .slc 1 (.t 34) none (some (.t 35)), none⟩
  (.fork ⟨(some 33), .bslice 3 1 [], none⟩
  (.fork ⟨(some 37), .app 3 1 8 (.t 33) (.t 36), none⟩
  (.fork ⟨(some 40), .app 3 1 8 (.t 37) (.t 39), none⟩
  (.fork ⟨(some 44), .app 3 1 8 (.t 40) (.t 43), none⟩
  (.first ⟨(some 4), .mv (.t 44), none⟩
  .done)
  .nope)
  .nope)
  .nope)
  .nope)
  .nope))
  .nope)))
  .nope)))))))))
abbrev c20_17 : AC := .seq c20_16 .ret
abbrev c20_18 : AC := .seq c20_15 c20_17
abbrev c20_19 : AC := .seq c20_10 c20_18
abbrev c20_20 : AC := .seq c20_2 c20_19
abbrev c20_21 : AC := .seq c20_1 c20_20
abbrev c20 : AC := c20_21
theorem code20 : fnCode Try.prog 20 = some (c20, [4], 45) := by kernel_rfl
/- coinage/coinageref13.Made -/
abbrev c21_1 : AC := .reg [⟨(some 2), .alloc 51 [(.c .nil), (.c .nil), (.c .nil)], none⟩] false
abbrev c21_2 : AC := .reg [⟨(some 3), .alloc 51 [(.c .nil), (.c .nil), (.c .nil)], none⟩] false
abbrev c21_3 : AC := .reg [⟨(some 4), .mv (.k (.I 0)), none⟩] false
abbrev c21_4 : AC := .reg [⟨(some 5), .mv (.t 4), none⟩,
  ⟨(some 6), .mv (.t 0), none⟩,
  ⟨(some 7), .len (.t 6), none⟩,
  ⟨(some 8), .bin .lss (.t 5) (.t 7), none⟩] false
abbrev c21_5 : AC := .cond (.t 8) .skip (.exit 0)
abbrev c21_6 : AC := .seq c21_4 c21_5
abbrev c21_7 : AC := .regX (.first ⟨(some 11), .fad 0 (.t 3), none⟩
  (.first ⟨(some 13), .mv (.t 0), none⟩
  (.first ⟨(some 14), .mv (.t 4), none⟩
  (.first ⟨(some 15), .iad 3 (.t 13) (.t 14), none⟩
  (.first ⟨(some 16), .fad 1 (.t 15), none⟩
  (.fork ⟨(some 12), .ld none (.t 11), none⟩
  (.fork ⟨(some 17), .ld none (.t 16), none⟩
  (.fork ⟨(some 18), .call 34 [(.t 12), (.t 17)], none⟩
  (.first ⟨(some 19), .fad 0 (.t 3), none⟩
  (.fork ⟨none, .st none (.t 19) (.t 18), none⟩
  .done
  .nope))
  .nope)
  .nope)
  (.fork ⟨(some 17), .ld none (.t 16), none⟩
  (.fork ⟨(some 12), .ld none (.t 11), none⟩
  (.fork ⟨(some 18), .call 34 [(.t 12), (.t 17)], none⟩
  (.first ⟨(some 19), .fad 0 (.t 3), none⟩
  (.fork ⟨none, .st none (.t 19) (.t 18), none⟩
  .done
  .nope))
  .nope)
  .nope)
  .nope)))))))
abbrev c21_8 : AC := .regX (.first ⟨(some 20), .fad 1 (.t 3), none⟩
  (.first ⟨(some 22), .mv (.t 0), none⟩
  (.first ⟨(some 23), .mv (.t 4), none⟩
  (.first ⟨(some 24), .iad 3 (.t 22) (.t 23), none⟩
  (.first ⟨(some 25), .fad 2 (.t 24), none⟩
  (.fork ⟨(some 21), .ld none (.t 20), none⟩
  (.fork ⟨(some 26), .ld none (.t 25), none⟩
  (.fork ⟨(some 27), .call 34 [(.t 21), (.t 26)], none⟩
  (.first ⟨(some 28), .fad 1 (.t 3), none⟩
  (.fork ⟨none, .st none (.t 28) (.t 27), none⟩
  .done
  .nope))
  .nope)
  .nope)
  (.fork ⟨(some 26), .ld none (.t 25), none⟩
  (.fork ⟨(some 21), .ld none (.t 20), none⟩
  (.fork ⟨(some 27), .call 34 [(.t 21), (.t 26)], none⟩
  (.first ⟨(some 28), .fad 1 (.t 3), none⟩
  (.fork ⟨none, .st none (.t 28) (.t 27), none⟩
  .done
  .nope))
  .nope)
  .nope)
  .nope)))))))
abbrev c21_9 : AC := .regX (.first ⟨(some 29), .fad 2 (.t 3), none⟩
  (.first ⟨(some 31), .mv (.t 0), none⟩
  (.first ⟨(some 32), .mv (.t 4), none⟩
  (.first ⟨(some 33), .iad 3 (.t 31) (.t 32), none⟩
  (.fork ⟨(some 30), .ld none (.t 29), none⟩
  (.fork ⟨(some 34), .ld (some 3) (.t 33), none⟩
  (.fork ⟨(some 35), .call 35 [(.t 30), (.t 34)], none⟩
  (.first ⟨(some 36), .fad 2 (.t 3), none⟩
  (.fork ⟨none, .st none (.t 36) (.t 35), none⟩
  .done
  .nope))
  .nope)
  .nope)
  (.fork ⟨(some 34), .ld (some 3) (.t 33), none⟩
  (.fork ⟨(some 30), .ld none (.t 29), none⟩
  (.fork ⟨(some 35), .call 35 [(.t 30), (.t 34)], none⟩
  (.first ⟨(some 36), .fad 2 (.t 3), none⟩
  (.fork ⟨none, .st none (.t 36) (.t 35), none⟩
  .done
  .nope))
  .nope)
  .nope)
  .nope))))))
abbrev c21_10 : AC := .seq c21_8 c21_9
abbrev c21_11 : AC := .seq c21_7 c21_10
abbrev c21_12 : AC := .block 1 c21_11
abbrev c21_13 : AC := .reg [⟨(some 9), .mv (.t 4), none⟩,
  ⟨(some 10), .bin .add (.t 9) (.k (.I 1)), none⟩,
  ⟨(some 4), .mv (.t 10), none⟩] false
abbrev c21_14 : AC := .seq c21_12 c21_13
abbrev c21_15 : AC := .seq c21_6 c21_14
abbrev c21_16 : AC := .loop c21_15
abbrev c21_17 : AC := .block 0 c21_16
abbrev c21_18 : AC := .seq c21_3 c21_17
abbrev c21_19 : AC := .reg [⟨(some 37), .ld (some 3) (.t 3), none⟩,
  ⟨none, .st (some 3) (.t 2) (.t 37), none⟩] false
abbrev c21_20 : AC := .seq c21_19 .ret
abbrev c21_21 : AC := .seq c21_18 c21_20
abbrev c21_22 : AC := .seq c21_2 c21_21
abbrev c21_23 : AC := .seq c21_1 c21_22
abbrev c21 : AC := c21_23
theorem code21 : fnCode Try.prog 21 = some (c21, [5000002], 38) := by kernel_rfl

theorem take_mapL {α β : Type} (f : α → β) (l : List α) : (l.map f).take l.length = l.map f := by rw [← List.map_take, List.take_length]
theorem map_ins {α β : Type} (f : α → β) (l : List α) (k : Nat) (x : α) : (l.map f).take k ++ f x :: (l.map f).drop k = (l.take k ++ x :: l.drop k).map f := by simp [List.map_take, List.map_drop]
def in20 (l : List Int) (x : Int) (k : Nat) : St := ⟨45, [(0, .c (Row l)), (1, .I x), (5, .I k)], []⟩
def ou20 (l : List Int) (x : Int) (k : Nat) : St := ⟨45, [(4, .own 33)], [(33, .arr 3 1 ((l.map fun x => [CD.I x]).take k ++ [CD.I x] :: (l.map fun x => [CD.I x]).drop k))]⟩
set_option maxHeartbeats 40000000 in
theorem r20a (l : List Int) (x : Int) (k : Nat) (hk : k ≤ l.length) (hl : l.length ≤ 1000) : AW Try.prog c20_16 (cutQ (ou20 l x k)) (in20 l x k) := by
  refine AW_regX (by kernel_rfl) ?_
  unfold in20
  (repeat' (first | refine NextAt.mk (fun hc => ?_) (fun pre n v post hc hkey => ?_) | refine Sni.mk (fun hc => ?_) ?_ | refine Both.mk ?_ ?_ | refine AW_seq ?_ | refine AW_block ?_ | ((first | refine AW_reg ?_ | refine AW_cond ?_ | refine AW_skip ?_ | refine AW_exit ?_ | refine AW_ret ?_ | refine AW_regD (by kernel_rfl) ?_ | refine AW_regX (by kernel_rfl) ?_ | refine CallAtG.t (Eq.refl true) ?_ | refine CallAtG.f (Eq.refl false) ?_); try simp (disch := omega) only [go_sem, seval, reduceCtorEq, ↓reduceIte, beq_dec, Int.toNat_natCast, IntKind.signed, IntKind.bits, ou20, List.length_map, List.length_append, List.length_take, List.length_drop, maxLen, List.append_assoc, List.cons_append, List.nil_append, take_mapL]) | refine And.intro (fun hc => (?_ : AW _ _ _ _)) (fun hc => (?_ : AW _ _ _ _)) | simp (disch := omega) only [go_sem, seval, reduceCtorEq, ↓reduceIte, beq_dec, Int.toNat_natCast, IntKind.signed, IntKind.bits, ou20, List.length_map, List.length_append, List.length_take, List.length_drop, maxLen, List.append_assoc, List.cons_append, List.nil_append, take_mapL] | (refine And.intro ?_ ?_; focus (first | (intros; omega) | (intros; simp_all; done))) | refine And.intro (?_ : CallAt _ _ _ _ _ _ _ _) ?_ | refine And.intro (?_ : CallAt _ _ _ _ _ _ _ _ ∧ _) ?_ | refine And.intro (?_ : AW _ _ _ _) ?_ | fail))
  repeat' apply And.intro
  all_goals first | omega | rfl
theorem hold20 {Q : Exit → St → Prop} {σ : St} (h : Hold (AW Try.prog c20_16 Q σ)) : AW Try.prog c20_16 Q σ := h.out
set_option maxHeartbeats 4000000 in
theorem r20 (l : List Int) (x : Int) (hl : l.length ≤ 1000) : FnR Try.prog 20 [.c (Row l), .I x] [.c (Row (insA l x))] := by
  refine fn_walk code20 (by simp) ?_
  (repeat' (first | refine NextAt.mk (fun hc => ?_) (fun pre n v post hc hkey => ?_) | refine Sni.mk (fun hc => ?_) ?_ | refine Both.mk ?_ ?_ | refine AW_seq ?_ | refine AW_block ?_ | ((first | refine AW_reg ?_ | refine AW_cond ?_ | refine AW_skip ?_ | refine AW_exit ?_ | refine AW_ret ?_ | refine AW_regD (by kernel_rfl) ?_ | refine AW_regX (by kernel_rfl) ?_ | refine CallAtG.t (Eq.refl true) ?_ | refine CallAtG.f (Eq.refl false) ?_); try simp (disch := omega) only [go_sem, seval, reduceCtorEq, ↓reduceIte, beq_dec, Int.toNat_natCast, IntKind.signed, IntKind.bits]) | refine And.intro (fun hc => (?_ : AW _ _ _ _)) (fun hc => (?_ : AW _ _ _ _)) | simp (disch := omega) only [go_sem, seval, reduceCtorEq, ↓reduceIte, beq_dec, Int.toNat_natCast, IntKind.signed, IntKind.bits] | (refine And.intro ?_ ?_; focus (first | (intros; omega) | (intros; simp_all; done))) | refine And.intro (?_ : CallAt _ _ _ _ _ _ _ _) ?_ | refine And.intro (?_ : CallAt _ _ _ _ _ _ _ _ ∧ _) ?_ | refine And.intro (?_ : AW _ _ _ _) ?_ | fail))
  refine AW_loopK [0, 1] [5, 6, 7, 8, 9, 10, 11, 12, 13, 14, 15, 16, 17, 18, 19] (fun i : Nat => i ≤ l.length ∧ i ≤ bfr l x) (fun i => [(5, .I i)]) (fun _ => []) (fun i => l.length - i) 0 ⟨by omega, by omega⟩ ?_ ?_
  · simp (disch := omega) only [go_sem, seval, reduceCtorEq, ↓reduceIte, beq_dec, Int.toNat_natCast, IntKind.signed, IntKind.bits, Int.natCast_zero]
  · rintro i ⟨hi, hb⟩
    rcases Nat.lt_or_ge i l.length with hil | hil
    · have e1 : ((i : Int) < (l.length : Int)) = True := by simp; omega
      (repeat' (first | (with_reducible refine hold20 ?_; try simp (disch := omega) only [go_sem, seval, reduceCtorEq, ↓reduceIte, beq_dec, Int.toNat_natCast, IntKind.signed, IntKind.bits, getD_map (fun x : Int => [CD.I x]), List.length_map, e1]) | refine NextAt.mk (fun hc => ?_) (fun pre n v post hc hkey => ?_) | refine Sni.mk (fun hc => ?_) ?_ | refine Both.mk ?_ ?_ | refine AW_seq ?_ | refine AW_block ?_ | ((first | refine AW_reg ?_ | refine AW_cond ?_ | refine AW_skip ?_ | refine AW_exit ?_ | refine AW_ret ?_ | refine AW_regD (by kernel_rfl) ?_ | refine AW_regX (by kernel_rfl) ?_ | refine CallAtG.t (Eq.refl true) ?_ | refine CallAtG.f (Eq.refl false) ?_); try simp (disch := omega) only [go_sem, seval, reduceCtorEq, ↓reduceIte, beq_dec, Int.toNat_natCast, IntKind.signed, IntKind.bits, getD_map (fun x : Int => [CD.I x]), List.length_map, e1]) | refine And.intro (fun hc => (?_ : AW _ _ _ _)) (fun hc => (?_ : AW _ _ _ _)) | simp (disch := omega) only [go_sem, seval, reduceCtorEq, ↓reduceIte, beq_dec, Int.toNat_natCast, IntKind.signed, IntKind.bits, getD_map (fun x : Int => [CD.I x]), List.length_map, e1] | (refine And.intro ?_ ?_; focus (first | (intros; omega) | (intros; simp_all; done))) | refine And.intro (?_ : CallAt _ _ _ _ _ _ _ _) ?_ | refine And.intro (?_ : CallAt _ _ _ _ _ _ _ _ ∧ _) ?_ | refine And.intro (?_ : AW _ _ _ _) ?_ | fail))
      · refine .mk (i + 1) ⟨by omega, bfr_step hil hc hb⟩ (by omega) ?_
        simp (disch := omega) only [go_sem, seval, reduceCtorEq, ↓reduceIte, beq_dec, Int.toNat_natCast, IntKind.signed, IntKind.bits, Int.natCast_add, Int.natCast_one]
      · have hb2 := bfr_end hi hb (.inr (by assumption))
        have : insA l x = l := by unfold insA; rw [if_pos ⟨by rw [← hb2]; exact hc, by omega⟩]
        rw [this]
      · have hb2 := bfr_end hi hb (.inr (by assumption))
        have h2 : insA l x = l.take i ++ x :: l.drop i := by unfold insA; rw [if_neg (fun h => hc (by rw [hb2]; exact h.1)), hb2]
        refine ⟨AW_cut (ou20 l x i) (in20 l x i) (r20a l x i hi hl) ?_ ?_⟩
        · unfold in20
          simp (disch := omega) only [go_sem, seval, reduceCtorEq, ↓reduceIte, beq_dec, Int.toNat_natCast, IntKind.signed, IntKind.bits]
        · unfold ou20
          rw [map_ins (fun x : Int => [CD.I x]), ← h2]
          refine AW_frz [33] ?_
          (repeat' (first | refine NextAt.mk (fun hc => ?_) (fun pre n v post hc hkey => ?_) | refine Sni.mk (fun hc => ?_) ?_ | refine Both.mk ?_ ?_ | refine AW_seq ?_ | refine AW_block ?_ | ((first | refine AW_reg ?_ | refine AW_cond ?_ | refine AW_skip ?_ | refine AW_exit ?_ | refine AW_ret ?_ | refine AW_regD (by kernel_rfl) ?_ | refine AW_regX (by kernel_rfl) ?_ | refine CallAtG.t (Eq.refl true) ?_ | refine CallAtG.f (Eq.refl false) ?_); try simp (disch := omega) only [go_sem, seval, reduceCtorEq, ↓reduceIte, beq_dec, Int.toNat_natCast, IntKind.signed, IntKind.bits]) | refine And.intro (fun hc => (?_ : AW _ _ _ _)) (fun hc => (?_ : AW _ _ _ _)) | simp (disch := omega) only [go_sem, seval, reduceCtorEq, ↓reduceIte, beq_dec, Int.toNat_natCast, IntKind.signed, IntKind.bits] | (refine And.intro ?_ ?_; focus (first | (intros; omega) | (intros; simp_all; done))) | refine And.intro (?_ : CallAt _ _ _ _ _ _ _ _) ?_ | refine And.intro (?_ : CallAt _ _ _ _ _ _ _ _ ∧ _) ?_ | refine And.intro (?_ : AW _ _ _ _) ?_ | fail))
    · have e1 : ((i : Int) < (l.length : Int)) = False := by simp; omega
      have e2 : (l.map (fun x : Int => [CD.I x])).getD i [] = [] := by simp [List.getD, List.getElem?_eq_none hil]
      (repeat' (first | (with_reducible refine hold20 ?_; try simp (disch := omega) only [go_sem, seval, reduceCtorEq, ↓reduceIte, beq_dec, Int.toNat_natCast, IntKind.signed, IntKind.bits, e2, List.length_map, e1, List.map_nil, List.headD_nil]) | refine NextAt.mk (fun hc => ?_) (fun pre n v post hc hkey => ?_) | refine Sni.mk (fun hc => ?_) ?_ | refine Both.mk ?_ ?_ | refine AW_seq ?_ | refine AW_block ?_ | ((first | refine AW_reg ?_ | refine AW_cond ?_ | refine AW_skip ?_ | refine AW_exit ?_ | refine AW_ret ?_ | refine AW_regD (by kernel_rfl) ?_ | refine AW_regX (by kernel_rfl) ?_ | refine CallAtG.t (Eq.refl true) ?_ | refine CallAtG.f (Eq.refl false) ?_); try simp (disch := omega) only [go_sem, seval, reduceCtorEq, ↓reduceIte, beq_dec, Int.toNat_natCast, IntKind.signed, IntKind.bits, e2, List.length_map, e1, List.map_nil, List.headD_nil]) | refine And.intro (fun hc => (?_ : AW _ _ _ _)) (fun hc => (?_ : AW _ _ _ _)) | simp (disch := omega) only [go_sem, seval, reduceCtorEq, ↓reduceIte, beq_dec, Int.toNat_natCast, IntKind.signed, IntKind.bits, e2, List.length_map, e1, List.map_nil, List.headD_nil] | (refine And.intro ?_ ?_; focus (first | (intros; omega) | (intros; simp_all; done))) | refine And.intro (?_ : CallAt _ _ _ _ _ _ _ _) ?_ | refine And.intro (?_ : CallAt _ _ _ _ _ _ _ _ ∧ _) ?_ | refine And.intro (?_ : AW _ _ _ _) ?_ | fail))
      have hb2 := bfr_end hi hb (.inl (by omega))
      have h2 : insA l x = l.take i ++ x :: l.drop i := by unfold insA; rw [if_neg (fun h => by omega), hb2]
      refine ⟨AW_cut (ou20 l x i) (in20 l x i) (r20a l x i hi hl) ?_ ?_⟩
      · unfold in20
        simp (disch := omega) only [go_sem, seval, reduceCtorEq, ↓reduceIte, beq_dec, Int.toNat_natCast, IntKind.signed, IntKind.bits]
      · unfold ou20
        rw [map_ins (fun x : Int => [CD.I x]), ← h2]
        refine AW_frz [33] ?_
        (repeat' (first | refine NextAt.mk (fun hc => ?_) (fun pre n v post hc hkey => ?_) | refine Sni.mk (fun hc => ?_) ?_ | refine Both.mk ?_ ?_ | refine AW_seq ?_ | refine AW_block ?_ | ((first | refine AW_reg ?_ | refine AW_cond ?_ | refine AW_skip ?_ | refine AW_exit ?_ | refine AW_ret ?_ | refine AW_regD (by kernel_rfl) ?_ | refine AW_regX (by kernel_rfl) ?_ | refine CallAtG.t (Eq.refl true) ?_ | refine CallAtG.f (Eq.refl false) ?_); try simp (disch := omega) only [go_sem, seval, reduceCtorEq, ↓reduceIte, beq_dec, Int.toNat_natCast, IntKind.signed, IntKind.bits]) | refine And.intro (fun hc => (?_ : AW _ _ _ _)) (fun hc => (?_ : AW _ _ _ _)) | simp (disch := omega) only [go_sem, seval, reduceCtorEq, ↓reduceIte, beq_dec, Int.toNat_natCast, IntKind.signed, IntKind.bits] | (refine And.intro ?_ ?_; focus (first | (intros; omega) | (intros; simp_all; done))) | refine And.intro (?_ : CallAt _ _ _ _ _ _ _ _) ?_ | refine And.intro (?_ : CallAt _ _ _ _ _ _ _ _ ∧ _) ?_ | refine And.intro (?_ : AW _ _ _ _) ?_ | fail))
theorem r21 : FnR Try.prog 21 [.c .nil] [.agg [.nil, .nil, .nil]] := by
  refine fn_walk code21 (by simp) ?_
  (repeat' (first | refine NextAt.mk (fun hc => ?_) (fun pre n v post hc hkey => ?_) | refine Sni.mk (fun hc => ?_) ?_ | refine Both.mk ?_ ?_ | refine AW_seq ?_ | refine AW_block ?_ | ((first | refine AW_reg ?_ | refine AW_cond ?_ | refine AW_skip ?_ | refine AW_exit ?_ | refine AW_ret ?_ | refine AW_regD (by kernel_rfl) ?_ | refine AW_regX (by kernel_rfl) ?_ | refine CallAtG.t (Eq.refl true) ?_ | refine CallAtG.f (Eq.refl false) ?_); try simp (disch := omega) only [go_sem, seval, reduceCtorEq, ↓reduceIte, beq_dec, Int.toNat_natCast, IntKind.signed, IntKind.bits]) | refine And.intro (fun hc => (?_ : AW _ _ _ _)) (fun hc => (?_ : AW _ _ _ _)) | simp (disch := omega) only [go_sem, seval, reduceCtorEq, ↓reduceIte, beq_dec, Int.toNat_natCast, IntKind.signed, IntKind.bits] | (refine And.intro ?_ ?_; focus (first | (intros; omega) | (intros; simp_all; done))) | refine And.intro (?_ : CallAt _ _ _ _ _ _ _ _) ?_ | refine And.intro (?_ : CallAt _ _ _ _ _ _ _ _ ∧ _) ?_ | refine And.intro (?_ : AW _ _ _ _) ?_ | fail))
  refine AW_loopK [0, 2, 3] [4, 5, 6, 7, 8, 9, 10, 11, 12, 13, 14, 15, 16, 17, 18, 19, 20, 21, 22, 23, 24, 25, 26, 27, 28, 29, 30, 31, 32, 33, 34, 35, 36] (fun i : Nat => i = 0) (fun i => [(4, .I i)]) (fun _ => []) (fun i => 0) 0 rfl ?_ ?_
  · simp (disch := omega) only [go_sem, seval, reduceCtorEq, ↓reduceIte, beq_dec, Int.toNat_natCast, IntKind.signed, IntKind.bits, Int.natCast_zero]
  · rintro i rfl
    (repeat' (first | refine NextAt.mk (fun hc => ?_) (fun pre n v post hc hkey => ?_) | refine Sni.mk (fun hc => ?_) ?_ | refine Both.mk ?_ ?_ | refine AW_seq ?_ | refine AW_block ?_ | ((first | refine AW_reg ?_ | refine AW_cond ?_ | refine AW_skip ?_ | refine AW_exit ?_ | refine AW_ret ?_ | refine AW_regD (by kernel_rfl) ?_ | refine AW_regX (by kernel_rfl) ?_ | refine CallAtG.t (Eq.refl true) ?_ | refine CallAtG.f (Eq.refl false) ?_); try simp (disch := omega) only [go_sem, seval, reduceCtorEq, ↓reduceIte, beq_dec, Int.toNat_natCast, IntKind.signed, IntKind.bits]) | refine And.intro (fun hc => (?_ : AW _ _ _ _)) (fun hc => (?_ : AW _ _ _ _)) | simp (disch := omega) only [go_sem, seval, reduceCtorEq, ↓reduceIte, beq_dec, Int.toNat_natCast, IntKind.signed, IntKind.bits] | (refine And.intro ?_ ?_; focus (first | (intros; omega) | (intros; simp_all; done))) | refine And.intro (?_ : CallAt _ _ _ _ _ _ _ _) ?_ | refine And.intro (?_ : CallAt _ _ _ _ _ _ _ _ ∧ _) ?_ | refine And.intro (?_ : AW _ _ _ _) ?_ | fail))
end Go.Proofs.Ytddhinbiahcjlaa

-- P p_27s.txt
open Go Go.AL Go.RowKit
namespace Go.Proofs.Ytddhinbiahcjlaa
set_option maxRecDepth 20000
/- coinage/coinageref27.Of -/
abbrev c6_1 : AC := .reg [⟨(some 4), .mv (.k (.I 0)), none⟩,
  ⟨(some 5), .mv (.k (.c .nil)), none⟩,
  ⟨(some 6), .mv (.k (.I 0)), none⟩] false
abbrev c6_2 : AC := .reg [⟨(some 22), .mv (.t 0), none⟩,
  ⟨(some 23), .call 19 [(.t 22)], none⟩,
  ⟨(some 7), .mv (.t 23), none⟩] false
abbrev c6_3 : AC := .reg [⟨(some 24), .mv (.t 7), none⟩,
  ⟨(some 25), .bin .neq (.t 24) (.k (.I 0)), none⟩] false
abbrev c6_4 : AC := .reg [⟨(some 26), .mv (.t 7), none⟩,
  ⟨(some 4), .mv (.k (.I 0)), none⟩,
  ⟨(some 5), .mv (.k (.c .nil)), none⟩,
  ⟨(some 6), .mv (.t 26), none⟩] false
abbrev c6_5 : AC := .seq c6_4 .ret
abbrev c6_6 : AC := .cond (.t 25) c6_5 .skip
abbrev c6_7 : AC := .seq c6_3 c6_6
abbrev c6_8 : AC := .seq c6_2 c6_7
abbrev c6_9 : AC := .reg [⟨(some 27), .mv (.t 1), none⟩,
  ⟨(some 28), .bin .neq (.t 27) (.k (.I 0)), none⟩,
  ⟨(some 29), .mv (.t 28), none⟩,
  ⟨(some 30), .mv (.t 1), (some (29, true))⟩,
  ⟨(some 31), .bin .neq (.t 30) (.k (.I 1)), (some (29, true))⟩,
  ⟨(some 32), .pick (.t 29) (.t 31) (.k (.B false)), none⟩] false
abbrev c6_10 : AC := .reg [⟨(some 4), .mv (.k (.I 0)), none⟩,
  ⟨(some 5), .mv (.k (.c .nil)), none⟩,
  ⟨(some 6), .mv (.k (.I 2)), none⟩] false
abbrev c6_11 : AC := .seq c6_10 .ret
abbrev c6_12 : AC := .cond (.t 32) c6_11 .skip
abbrev c6_13 : AC := .seq c6_9 c6_12
abbrev c6_14 : AC := .reg [⟨(some 8), .mv (.k (.c .nil)), none⟩,
  ⟨(some 9), .mv (.k (.c .nil)), none⟩] false
abbrev c6_15 : AC := .reg [⟨(some 10), .mv (.k (.I 0)), none⟩] false
abbrev c6_16 : AC := .reg [⟨(some 33), .mv (.t 10), none⟩,
  ⟨(some 34), .mv (.t 0), none⟩,
  ⟨(some 35), .len (.t 34), none⟩,
  ⟨(some 36), .bin .lss (.t 33) (.t 35), none⟩] false
abbrev c6_17 : AC := .cond (.t 36) .skip (.exit 0)
abbrev c6_18 : AC := .seq c6_16 c6_17
abbrev c6_19 : AC := .regD [(⟨(some 39), .mv (.t 0), none⟩, [0]),
  (⟨(some 40), .mv (.t 10), none⟩, [10]),
  (⟨(some 41), .iad 7 (.t 39) (.t 40), none⟩, [39, 40]),
  (⟨(some 42), .fad 1 (.t 41), none⟩, [41]),
  (⟨(some 43), .ld none (.t 42), none⟩, [42]),
  (⟨(some 44), .mv (.t 0), none⟩, [0]),
  (⟨(some 45), .mv (.t 10), none⟩, [10]),
  (⟨(some 46), .iad 7 (.t 44) (.t 45), none⟩, [44, 45]),
  (⟨(some 47), .fad 2 (.t 46), none⟩, [46]),
  (⟨(some 48), .ld none (.t 47), none⟩, [47]),
  (⟨(some 11), .mv (.t 43), none⟩, [43]),
  (⟨(some 12), .mv (.t 48), none⟩, [48])]
abbrev c6_20 : AC := .reg [⟨(some 49), .mv (.t 1), none⟩,
  ⟨(some 50), .bin .eql (.t 49) (.k (.I 1)), none⟩] false
abbrev c6_21 : AC := .reg [⟨(some 51), .mv (.t 12), none⟩,
  ⟨(some 52), .mv (.t 11), none⟩,
  ⟨(some 11), .mv (.t 51), none⟩,
  ⟨(some 12), .mv (.t 52), none⟩] false
abbrev c6_22 : AC := .cond (.t 50) c6_21 .skip
abbrev c6_23 : AC := .seq c6_20 c6_22
abbrev c6_24 : AC := .reg [⟨(some 53), .mv (.t 8), none⟩,
  ⟨(some 54), .mv (.t 11), none⟩,
  ⟨(some 55), .call 20 [(.t 53), (.t 54)], none⟩,
  ⟨(some 8), .mv (.t 55), none⟩] false
abbrev c6_25 : AC := .reg [⟨(some 56), .mv (.t 9), none⟩,
  ⟨(some 57), .mv (.t 12), none⟩,
  ⟨(some 58), .call 20 [(.t 56), (.t 57)], none⟩,
  ⟨(some 9), .mv (.t 58), none⟩] false
abbrev c6_26 : AC := .seq c6_24 c6_25
abbrev c6_27 : AC := .seq c6_23 c6_26
abbrev c6_28 : AC := .seq c6_19 c6_27
abbrev c6_29 : AC := .block 1 c6_28
abbrev c6_30 : AC := .reg [⟨(some 37), .mv (.t 10), none⟩,
  ⟨(some 38), .bin .add (.t 37) (.k (.I 1)), none⟩,
  ⟨(some 10), .mv (.t 38), none⟩] false
abbrev c6_31 : AC := .seq c6_29 c6_30
abbrev c6_32 : AC := .seq c6_18 c6_31
abbrev c6_33 : AC := .loop c6_32
abbrev c6_34 : AC := .block 0 c6_33
abbrev c6_35 : AC := .seq c6_15 c6_34
abbrev c6_36 : AC := .reg [⟨(some 59), .mv (.t 9), none⟩,
  ⟨(some 60), .len (.t 59), none⟩,
  ⟨(some 61), .bin .gtr (.t 60) (.k (.I 7)), none⟩,
  ⟨(some 62), .mv (.t 61), none⟩,
  ⟨(some 63), .mv (.t 8), (some (62, false))⟩,
  ⟨(some 64), .len (.t 63), (some (62, false))⟩,
  ⟨(some 65), .bin .gtr (.t 64) (.k (.I 16)), (some (62, false))⟩,
  ⟨(some 66), .pick (.t 62) (.k (.B true)) (.t 65), none⟩] false
abbrev c6_37 : AC := .reg [⟨(some 4), .mv (.k (.I 0)), none⟩,
  ⟨(some 5), .mv (.k (.c .nil)), none⟩,
  ⟨(some 6), .mv (.k (.I 6)), none⟩] false
abbrev c6_38 : AC := .seq c6_37 .ret
abbrev c6_39 : AC := .cond (.t 66) c6_38 .skip
abbrev c6_40 : AC := .seq c6_36 c6_39
abbrev c6_41 : AC := .reg [⟨(some 13), .mv (.k (.c .nil)), none⟩] false
abbrev c6_42 : AC := .reg [⟨(some 67), .call 21 [(.k (.c .nil))], none⟩,
  ⟨(some 14), .alloc 51 [(.c .nil), (.c .nil), (.c .nil)], none⟩,
  ⟨none, .st (some 3) (.t 14) (.t 67), none⟩] false
abbrev c6_43 : AC := .reg [⟨(some 15), .mv (.k (.I 0)), none⟩] false
abbrev c6_44 : AC := .reg [⟨(some 68), .mv (.t 15), none⟩,
  ⟨(some 69), .mv (.t 0), none⟩,
  ⟨(some 70), .len (.t 69), none⟩,
  ⟨(some 71), .bin .lss (.t 68) (.t 70), none⟩] false
abbrev c6_45 : AC := .cond (.t 71) .skip (.exit 2)
abbrev c6_46 : AC := .seq c6_44 c6_45
def c6_47L : List AP := [⟨(some 74), .fad 2 (.t 14), none⟩,
  ⟨(some 75), .ld none (.t 74), none⟩,
  ⟨(some 76), .mv (.t 0), none⟩,
  ⟨(some 77), .mv (.t 15), none⟩,
  ⟨(some 78), .iad 7 (.t 76) (.t 77), none⟩,
  ⟨(some 79), .fad 0 (.t 78), none⟩,
  ⟨(some 80), .ld none (.t 79), none⟩,
  ⟨(some 81), .mv (.t 0), none⟩,
  ⟨(some 82), .mv (.t 15), none⟩,
  ⟨(some 83), .iad 7 (.t 81) (.t 82), none⟩,
  ⟨(some 84), .fad 1 (.t 83), none⟩,
  ⟨(some 85), .ld none (.t 84), none⟩,
  ⟨(some 86), .mv (.t 0), none⟩,
  ⟨(some 87), .mv (.t 15), none⟩,
  ⟨(some 88), .iad 7 (.t 86) (.t 87), none⟩,
  ⟨(some 89), .fad 2 (.t 88), none⟩,
  ⟨(some 90), .ld none (.t 89), none⟩,
  ⟨(some 91), .build [(.I 0), (.I 0), (.I 0)] [(0, 1, (.t 80)), (1, 1, (.t 85)), (2, 1, (.t 90))], none⟩,
  ⟨(some 92), .bslice 54 3 [(.t 91)], none⟩,
  ⟨(some 93), .app 54 3 24 (.t 75) (.t 92), none⟩,
  ⟨(some 94), .fad 2 (.t 14), none⟩,
  ⟨none, .st none (.t 94) (.t 93), none⟩]
abbrev c6_47 : AC := .regG c6_47L [0, 1, 0, 0, 12, 16, 32, 0, 0, 384, 512, 1024, 0, 0, 12288, 16384, 32768, 67648, 131072, 262146, 1048575, 2097151] [0, 1, 0, 0, 12, 16, 32, 0, 0, 384, 512, 1024, 0, 0, 12288, 16384, 32768, 67648, 131072, 262146, 0, 1572864]
abbrev c6_48 : AC := .block 3 c6_47
abbrev c6_49 : AC := .reg [⟨(some 72), .mv (.t 15), none⟩,
  ⟨(some 73), .bin .add (.t 72) (.k (.I 1)), none⟩,
  ⟨(some 15), .mv (.t 73), none⟩] false
abbrev c6_50 : AC := .seq c6_48 c6_49
abbrev c6_51 : AC := .seq c6_46 c6_50
abbrev c6_52 : AC := .loop c6_51
abbrev c6_53 : AC := .block 2 c6_52
abbrev c6_54 : AC := .seq c6_43 c6_53
abbrev c6_55 : AC := .reg [⟨(some 16), .mv (.k (.I 0)), none⟩] false
abbrev c6_56 : AC := .reg [⟨(some 95), .mv (.t 16), none⟩,
  ⟨(some 96), .mv (.t 8), none⟩,
  ⟨(some 97), .len (.t 96), none⟩,
  ⟨(some 98), .bin .lss (.t 95) (.t 97), none⟩] false
abbrev c6_57 : AC := .cond (.t 98) .skip (.exit 4)
abbrev c6_58 : AC := .seq c6_56 c6_57
abbrev c6_59 : AC := .reg [⟨(some 17), .mv (.k (.c .nil)), none⟩] false
abbrev c6_60 : AC := .reg [⟨(some 18), .mv (.k (.I 0)), none⟩] false
abbrev c6_61 : AC := .reg [⟨(some 101), .mv (.t 18), none⟩,
  ⟨(some 102), .mv (.t 9), none⟩,
  ⟨(some 103), .len (.t 102), none⟩,
  ⟨(some 104), .bin .lss (.t 101) (.t 103), none⟩] false
abbrev c6_62 : AC := .cond (.t 104) .skip (.exit 6)
abbrev c6_63 : AC := .seq c6_61 c6_62
abbrev c6_64 : AC := .reg [⟨(some 19), .mv (.k (.I 0)), none⟩] false
abbrev c6_65 : AC := .reg [⟨(some 107), .mv (.t 19), none⟩,
  ⟨(some 108), .fad 2 (.t 14), none⟩,
  ⟨(some 109), .ld none (.t 108), none⟩,
  ⟨(some 110), .len (.t 109), none⟩,
  ⟨(some 111), .bin .lss (.t 107) (.t 110), none⟩] false
abbrev c6_66 : AC := .cond (.t 111) .skip (.exit 8)
abbrev c6_67 : AC := .seq c6_65 c6_66
abbrev c6_68 : AC := .regD [(⟨(some 114), .fad 2 (.t 14), none⟩, [14]),
  (⟨(some 115), .ld none (.t 114), none⟩, [114]),
  (⟨(some 116), .mv (.t 19), none⟩, [19]),
  (⟨(some 117), .iad 3 (.t 115) (.t 116), none⟩, [115, 116]),
  (⟨(some 118), .fad 1 (.t 117), none⟩, [117]),
  (⟨(some 119), .ld none (.t 118), none⟩, [118]),
  (⟨(some 120), .fad 2 (.t 14), none⟩, [14]),
  (⟨(some 121), .ld none (.t 120), none⟩, [120]),
  (⟨(some 122), .mv (.t 19), none⟩, [19]),
  (⟨(some 123), .iad 3 (.t 121) (.t 122), none⟩, [121, 122]),
  (⟨(some 124), .fad 2 (.t 123), none⟩, [123]),
  (⟨(some 125), .ld none (.t 124), none⟩, [124]),
  (⟨(some 20), .mv (.t 119), none⟩, [119]),
  (⟨(some 21), .mv (.t 125), none⟩, [125])]
abbrev c6_69 : AC := .reg [⟨(some 126), .mv (.t 1), none⟩,
  ⟨(some 127), .bin .eql (.t 126) (.k (.I 1)), none⟩] false
abbrev c6_70 : AC := .reg [⟨(some 128), .mv (.t 21), none⟩,
  ⟨(some 129), .mv (.t 20), none⟩,
  ⟨(some 20), .mv (.t 128), none⟩,
  ⟨(some 21), .mv (.t 129), none⟩] false
abbrev c6_71 : AC := .cond (.t 127) c6_70 .skip
abbrev c6_72 : AC := .seq c6_69 c6_71
abbrev c6_73 : AC := .reg [⟨(some 130), .mv (.t 20), none⟩,
  ⟨(some 131), .mv (.t 8), none⟩,
  ⟨(some 132), .mv (.t 16), none⟩,
  ⟨(some 133), .iad 1 (.t 131) (.t 132), none⟩,
  ⟨(some 134), .ld none (.t 133), none⟩,
  ⟨(some 135), .bin .eql (.t 130) (.t 134), none⟩,
  ⟨(some 136), .mv (.t 135), none⟩,
  ⟨(some 137), .mv (.t 21), (some (136, true))⟩,
  ⟨(some 138), .mv (.t 9), (some (136, true))⟩,
  ⟨(some 139), .mv (.t 18), (some (136, true))⟩,
  ⟨(some 140), .iad 1 (.t 138) (.t 139), (some (136, true))⟩,
  ⟨(some 141), .ld none (.t 140), (some (136, true))⟩,
  ⟨(some 142), .bin .eql (.t 137) (.t 141), (some (136, true))⟩,
  ⟨(some 143), .pick (.t 136) (.t 142) (.k (.B false)), none⟩] false
abbrev c6_74 : AC := .reg [⟨(some 144), .mv (.t 17), none⟩,
  ⟨(some 145), .mv (.t 18), none⟩,
  ⟨(some 146), .call 20 [(.t 144), (.t 145)], none⟩,
  ⟨(some 17), .mv (.t 146), none⟩] false
abbrev c6_75 : AC := .cond (.t 143) c6_74 .skip
abbrev c6_76 : AC := .seq c6_73 c6_75
abbrev c6_77 : AC := .seq c6_72 c6_76
abbrev c6_78 : AC := .seq c6_68 c6_77
abbrev c6_79 : AC := .block 9 c6_78
abbrev c6_80 : AC := .reg [⟨(some 112), .mv (.t 19), none⟩,
  ⟨(some 113), .bin .add (.t 112) (.k (.I 1)), none⟩,
  ⟨(some 19), .mv (.t 113), none⟩] false
abbrev c6_81 : AC := .seq c6_79 c6_80
abbrev c6_82 : AC := .seq c6_67 c6_81
abbrev c6_83 : AC := .loop c6_82
abbrev c6_84 : AC := .block 8 c6_83
abbrev c6_85 : AC := .seq c6_64 c6_84
abbrev c6_86 : AC := .block 7 c6_85
abbrev c6_87 : AC := .reg [⟨(some 105), .mv (.t 18), none⟩,
  ⟨(some 106), .bin .add (.t 105) (.k (.I 1)), none⟩,
  ⟨(some 18), .mv (.t 106), none⟩] false
abbrev c6_88 : AC := .seq c6_86 c6_87
abbrev c6_89 : AC := .seq c6_63 c6_88
abbrev c6_90 : AC := .loop c6_89
abbrev c6_91 : AC := .block 6 c6_90
abbrev c6_92 : AC := .seq c6_60 c6_91
abbrev c6_93 : AC := .reg [⟨(some 147), .mv (.t 13), none⟩,
  ⟨(some 148), .mv (.t 17), none⟩,
  ⟨(some 149), .bslice 31 1 [(.t 148)], none⟩,
  ⟨(some 150), .app 31 1 24 (.t 147) (.t 149), none⟩,
  ⟨(some 13), .mv (.t 150), none⟩] false
abbrev c6_94 : AC := .seq c6_92 c6_93
abbrev c6_95 : AC := .seq c6_59 c6_94
abbrev c6_96 : AC := .block 5 c6_95
abbrev c6_97 : AC := .reg [⟨(some 99), .mv (.t 16), none⟩,
  ⟨(some 100), .bin .add (.t 99) (.k (.I 1)), none⟩,
  ⟨(some 16), .mv (.t 100), none⟩] false
abbrev c6_98 : AC := .seq c6_96 c6_97
abbrev c6_99 : AC := .seq c6_58 c6_98
abbrev c6_100 : AC := .loop c6_99
abbrev c6_101 : AC := .block 4 c6_100
abbrev c6_102 : AC := .seq c6_55 c6_101
abbrev c6_103 : AC := .reg [⟨(some 151), .mv (.t 9), none⟩,
  ⟨(some 152), .len (.t 151), none⟩,
  ⟨(some 153), .mv (.t 13), none⟩,
  ⟨(some 4), .mv (.t 152), none⟩,
  ⟨(some 5), .mv (.t 153), none⟩,
  ⟨(some 6), .mv (.k (.I 0)), none⟩] false
abbrev c6_104 : AC := .seq c6_103 .ret
abbrev c6_105 : AC := .seq c6_102 c6_104
abbrev c6_106 : AC := .seq c6_54 c6_105
abbrev c6_107 : AC := .seq c6_42 c6_106
abbrev c6_108 : AC := .seq c6_41 c6_107
abbrev c6_109 : AC := .seq c6_40 c6_108
abbrev c6_110 : AC := .seq c6_35 c6_109
abbrev c6_111 : AC := .seq c6_14 c6_110
abbrev c6_112 : AC := .seq c6_13 c6_111
abbrev c6_113 : AC := .seq c6_8 c6_112
abbrev c6_114 : AC := .seq c6_1 c6_113
abbrev c6 : AC := c6_114
theorem code6 : fnCode Try.prog 6 = some (c6, [4, 5, 6], 154) := by kernel_rfl

abbrev lkC (s : Cn) : List CD := [.I s.id, .I s.obv, .I s.rev]
def lkT18 (l : List Cn) (s : Cn) (i : Nat) (sd : Int) (R C : List Int) (xs : List (List CD)) : St := ⟨154, [(0, .c (Cns l)), (1, .I sd), (8, .c (Row R)), (9, .c (Row C)), (13, .c .nil), (14, .ptr 14 0), (15, .I i), (75, .own 905), (80, .I s.id), (84, .dptr [.I s.obv, .I s.rev, .I s.ost, .I s.rst, .I s.ax, .I s.wt]), (89, .dptr [.I s.rev, .I s.ost, .I s.rst, .I s.ax, .I s.wt])], [(14, .box 51 [.c .nil, .c .nil, .own 905]), (905, .arr 54 3 xs)]⟩
def lkT19 (l : List Cn) (s : Cn) (i : Nat) (sd : Int) (R C : List Int) (xs : List (List CD)) : St := ⟨154, [(0, .c (Cns l)), (1, .I sd), (8, .c (Row R)), (9, .c (Row C)), (13, .c .nil), (14, .ptr 14 0), (15, .I i), (75, .own 905), (79, .dptr [.I s.id, .I s.obv, .I s.rev, .I s.ost, .I s.rst, .I s.ax, .I s.wt]), (85, .I s.obv), (89, .dptr [.I s.rev, .I s.ost, .I s.rst, .I s.ax, .I s.wt])], [(14, .box 51 [.c .nil, .c .nil, .own 905]), (905, .arr 54 3 xs)]⟩
def lkT20 (l : List Cn) (s : Cn) (i : Nat) (sd : Int) (R C : List Int) (xs : List (List CD)) : St := ⟨154, [(0, .c (Cns l)), (1, .I sd), (8, .c (Row R)), (9, .c (Row C)), (13, .c .nil), (14, .ptr 14 0), (15, .I i), (75, .own 905), (79, .dptr [.I s.id, .I s.obv, .I s.rev, .I s.ost, .I s.rst, .I s.ax, .I s.wt]), (84, .dptr [.I s.obv, .I s.rev, .I s.ost, .I s.rst, .I s.ax, .I s.wt]), (90, .I s.rev)], [(14, .box 51 [.c .nil, .c .nil, .own 905]), (905, .arr 54 3 xs)]⟩
def lkT21 (l : List Cn) (s : Cn) (i : Nat) (sd : Int) (R C : List Int) (xs : List (List CD)) : St := ⟨154, [(0, .c (Cns l)), (1, .I sd), (8, .c (Row R)), (9, .c (Row C)), (13, .c .nil), (14, .ptr 14 0), (15, .I i), (74, .ptr 14 2), (80, .I s.id), (85, .I s.obv), (89, .dptr [.I s.rev, .I s.ost, .I s.rst, .I s.ax, .I s.wt])], [(14, .box 51 [.c .nil, .c .nil, .own 905]), (905, .arr 54 3 xs)]⟩
def lkT22 (l : List Cn) (s : Cn) (i : Nat) (sd : Int) (R C : List Int) (xs : List (List CD)) : St := ⟨154, [(0, .c (Cns l)), (1, .I sd), (8, .c (Row R)), (9, .c (Row C)), (13, .c .nil), (14, .ptr 14 0), (15, .I i), (74, .ptr 14 2), (80, .I s.id), (84, .dptr [.I s.obv, .I s.rev, .I s.ost, .I s.rst, .I s.ax, .I s.wt]), (90, .I s.rev)], [(14, .box 51 [.c .nil, .c .nil, .own 905]), (905, .arr 54 3 xs)]⟩
def lkT23 (l : List Cn) (s : Cn) (i : Nat) (sd : Int) (R C : List Int) (xs : List (List CD)) : St := ⟨154, [(0, .c (Cns l)), (1, .I sd), (8, .c (Row R)), (9, .c (Row C)), (13, .c .nil), (14, .ptr 14 0), (15, .I i), (74, .ptr 14 2), (79, .dptr [.I s.id, .I s.obv, .I s.rev, .I s.ost, .I s.rst, .I s.ax, .I s.wt]), (85, .I s.obv), (90, .I s.rev)], [(14, .box 51 [.c .nil, .c .nil, .own 905]), (905, .arr 54 3 xs)]⟩
def lkT24 (l : List Cn) (s : Cn) (i : Nat) (sd : Int) (R C : List Int) (xs : List (List CD)) : St := ⟨154, [(0, .c (Cns l)), (1, .I sd), (8, .c (Row R)), (9, .c (Row C)), (13, .c .nil), (14, .ptr 14 0), (15, .I i), (75, .own 905), (80, .I s.id), (85, .I s.obv), (89, .dptr [.I s.rev, .I s.ost, .I s.rst, .I s.ax, .I s.wt])], [(14, .box 51 [.c .nil, .c .nil, .own 905]), (905, .arr 54 3 xs)]⟩
def lkT25 (l : List Cn) (s : Cn) (i : Nat) (sd : Int) (R C : List Int) (xs : List (List CD)) : St := ⟨154, [(0, .c (Cns l)), (1, .I sd), (8, .c (Row R)), (9, .c (Row C)), (13, .c .nil), (14, .ptr 14 0), (15, .I i), (75, .own 905), (80, .I s.id), (84, .dptr [.I s.obv, .I s.rev, .I s.ost, .I s.rst, .I s.ax, .I s.wt]), (90, .I s.rev)], [(14, .box 51 [.c .nil, .c .nil, .own 905]), (905, .arr 54 3 xs)]⟩
def lkT26 (l : List Cn) (s : Cn) (i : Nat) (sd : Int) (R C : List Int) (xs : List (List CD)) : St := ⟨154, [(0, .c (Cns l)), (1, .I sd), (8, .c (Row R)), (9, .c (Row C)), (13, .c .nil), (14, .ptr 14 0), (15, .I i), (75, .own 905), (79, .dptr [.I s.id, .I s.obv, .I s.rev, .I s.ost, .I s.rst, .I s.ax, .I s.wt]), (85, .I s.obv), (90, .I s.rev)], [(14, .box 51 [.c .nil, .c .nil, .own 905]), (905, .arr 54 3 xs)]⟩
def lkT27 (l : List Cn) (s : Cn) (i : Nat) (sd : Int) (R C : List Int) (xs : List (List CD)) : St := ⟨154, [(0, .c (Cns l)), (1, .I sd), (8, .c (Row R)), (9, .c (Row C)), (13, .c .nil), (14, .ptr 14 0), (15, .I i), (74, .ptr 14 2), (80, .I s.id), (85, .I s.obv), (90, .I s.rev)], [(14, .box 51 [.c .nil, .c .nil, .own 905]), (905, .arr 54 3 xs)]⟩
def lkT28 (l : List Cn) (s : Cn) (i : Nat) (sd : Int) (R C : List Int) (xs : List (List CD)) : St := ⟨154, [(0, .c (Cns l)), (1, .I sd), (8, .c (Row R)), (9, .c (Row C)), (13, .c .nil), (14, .ptr 14 0), (15, .I i), (75, .own 905), (80, .I s.id), (85, .I s.obv), (90, .I s.rev)], [(14, .box 51 [.c .nil, .c .nil, .own 905]), (905, .arr 54 3 xs)]⟩
def lkT30 (l : List Cn) (s : Cn) (i : Nat) (sd : Int) (R C : List Int) (xs : List (List CD)) : St := ⟨154, [(0, .c (Cns l)), (1, .I sd), (8, .c (Row R)), (9, .c (Row C)), (13, .c .nil), (14, .ptr 14 0), (15, .I i), (75, .own 905), (91, .agg [.I s.id, .I s.obv, .I s.rev])], [(14, .box 51 [.c .nil, .c .nil, .own 905]), (905, .arr 54 3 xs)]⟩
def lkT32 (l : List Cn) (s : Cn) (i : Nat) (sd : Int) (R C : List Int) (xs : List (List CD)) : St := ⟨154, [(0, .c (Cns l)), (1, .I sd), (8, .c (Row R)), (9, .c (Row C)), (13, .c .nil), (14, .ptr 14 0), (15, .I i), (75, .own 905), (92, .own 92)], [(14, .box 51 [.c .nil, .c .nil, .own 905]), (905, .arr 54 3 xs), (92, .arr 54 3 [[.I s.id, .I s.obv, .I s.rev]])]⟩
def lkT (l : List Cn) (s : Cn) (i : Nat) (sd : Int) (R C : List Int) (xs : List (List CD)) : List (Nat × St) := [(18, lkT18 l s i sd R C xs), (19, lkT19 l s i sd R C xs), (20, lkT20 l s i sd R C xs), (21, lkT21 l s i sd R C xs), (22, lkT22 l s i sd R C xs), (23, lkT23 l s i sd R C xs), (24, lkT24 l s i sd R C xs), (25, lkT25 l s i sd R C xs), (26, lkT26 l s i sd R C xs), (27, lkT27 l s i sd R C xs), (28, lkT28 l s i sd R C xs), (30, lkT30 l s i sd R C xs), (32, lkT32 l s i sd R C xs)]
def lkTG : List GN := [.one 0 1, .one 2 2, .one 3 3, .one 4 4, .one 5 5, .one 7 6, .one 8 7, .one 9 8, .one 10 9, .one 12 10, .one 13 11, .one 14 12, .one 15 13, .all [(1, 14), (6, 15), (11, 16), (16, 17)], .all [(6, 18), (11, 19), (16, 20)], .all [(1, 18), (11, 21), (16, 22)], .all [(1, 19), (6, 21), (16, 23)], .all [(1, 20), (6, 22), (11, 23)], .all [(11, 24), (16, 25)], .all [(6, 24), (16, 26)], .all [(6, 25), (11, 26)], .all [(1, 24), (16, 27)], .all [(1, 25), (11, 27)], .all [(1, 26), (6, 27)], .all [(16, 28)], .all [(11, 28)], .all [(6, 28)], .one 17 29, .one 17 30, .all [(1, 30), (18, 31)], .all [(18, 32)], .all [(1, 32)], .all [(19, 33)], .one 20 34, .all [(21, 35)], .fin]
abbrev lkTM : List Nat := [0, 1, 5, 13, 29, 61, 189, 445, 957, 1981, 6077, 14269, 30653, 63421, 63423, 63485, 65469, 128957, 63487, 65471, 128959, 65533, 129021, 131005, 65535, 129023, 131007, 131069, 131071, 262141, 262143, 524285, 524287, 1048575, 2097151, 4194303]
theorem lkTl0 (l : List Cn) (s : Cn) (i : Nat) (sd : Int) (R C : List Int) (xs : List (List CD)) : lookT 0 (lkT l s i sd R C xs) = none := rfl
theorem lkTg0 : nthG lkTG 0 = some (.one 0 1) := rfl
theorem lkTl1 (l : List Cn) (s : Cn) (i : Nat) (sd : Int) (R C : List Int) (xs : List (List CD)) : lookT 1 (lkT l s i sd R C xs) = none := rfl
theorem lkTg1 : nthG lkTG 1 = some (.one 2 2) := rfl
theorem lkTl2 (l : List Cn) (s : Cn) (i : Nat) (sd : Int) (R C : List Int) (xs : List (List CD)) : lookT 2 (lkT l s i sd R C xs) = none := rfl
theorem lkTg2 : nthG lkTG 2 = some (.one 3 3) := rfl
theorem lkTl3 (l : List Cn) (s : Cn) (i : Nat) (sd : Int) (R C : List Int) (xs : List (List CD)) : lookT 3 (lkT l s i sd R C xs) = none := rfl
theorem lkTg3 : nthG lkTG 3 = some (.one 4 4) := rfl
theorem lkTl4 (l : List Cn) (s : Cn) (i : Nat) (sd : Int) (R C : List Int) (xs : List (List CD)) : lookT 4 (lkT l s i sd R C xs) = none := rfl
theorem lkTg4 : nthG lkTG 4 = some (.one 5 5) := rfl
theorem lkTl5 (l : List Cn) (s : Cn) (i : Nat) (sd : Int) (R C : List Int) (xs : List (List CD)) : lookT 5 (lkT l s i sd R C xs) = none := rfl
theorem lkTg5 : nthG lkTG 5 = some (.one 7 6) := rfl
theorem lkTl6 (l : List Cn) (s : Cn) (i : Nat) (sd : Int) (R C : List Int) (xs : List (List CD)) : lookT 6 (lkT l s i sd R C xs) = none := rfl
theorem lkTg6 : nthG lkTG 6 = some (.one 8 7) := rfl
theorem lkTl7 (l : List Cn) (s : Cn) (i : Nat) (sd : Int) (R C : List Int) (xs : List (List CD)) : lookT 7 (lkT l s i sd R C xs) = none := rfl
theorem lkTg7 : nthG lkTG 7 = some (.one 9 8) := rfl
theorem lkTl8 (l : List Cn) (s : Cn) (i : Nat) (sd : Int) (R C : List Int) (xs : List (List CD)) : lookT 8 (lkT l s i sd R C xs) = none := rfl
theorem lkTg8 : nthG lkTG 8 = some (.one 10 9) := rfl
theorem lkTl9 (l : List Cn) (s : Cn) (i : Nat) (sd : Int) (R C : List Int) (xs : List (List CD)) : lookT 9 (lkT l s i sd R C xs) = none := rfl
theorem lkTg9 : nthG lkTG 9 = some (.one 12 10) := rfl
theorem lkTl10 (l : List Cn) (s : Cn) (i : Nat) (sd : Int) (R C : List Int) (xs : List (List CD)) : lookT 10 (lkT l s i sd R C xs) = none := rfl
theorem lkTg10 : nthG lkTG 10 = some (.one 13 11) := rfl
theorem lkTl11 (l : List Cn) (s : Cn) (i : Nat) (sd : Int) (R C : List Int) (xs : List (List CD)) : lookT 11 (lkT l s i sd R C xs) = none := rfl
theorem lkTg11 : nthG lkTG 11 = some (.one 14 12) := rfl
theorem lkTl12 (l : List Cn) (s : Cn) (i : Nat) (sd : Int) (R C : List Int) (xs : List (List CD)) : lookT 12 (lkT l s i sd R C xs) = none := rfl
theorem lkTg12 : nthG lkTG 12 = some (.one 15 13) := rfl
theorem lkTl13 (l : List Cn) (s : Cn) (i : Nat) (sd : Int) (R C : List Int) (xs : List (List CD)) : lookT 13 (lkT l s i sd R C xs) = none := rfl
theorem lkTg13 : nthG lkTG 13 = some (.all [(1, 14), (6, 15), (11, 16), (16, 17)]) := rfl
theorem lkTl14 (l : List Cn) (s : Cn) (i : Nat) (sd : Int) (R C : List Int) (xs : List (List CD)) : lookT 14 (lkT l s i sd R C xs) = none := rfl
theorem lkTg14 : nthG lkTG 14 = some (.all [(6, 18), (11, 19), (16, 20)]) := rfl
theorem lkTl15 (l : List Cn) (s : Cn) (i : Nat) (sd : Int) (R C : List Int) (xs : List (List CD)) : lookT 15 (lkT l s i sd R C xs) = none := rfl
theorem lkTg15 : nthG lkTG 15 = some (.all [(1, 18), (11, 21), (16, 22)]) := rfl
theorem lkTl16 (l : List Cn) (s : Cn) (i : Nat) (sd : Int) (R C : List Int) (xs : List (List CD)) : lookT 16 (lkT l s i sd R C xs) = none := rfl
theorem lkTg16 : nthG lkTG 16 = some (.all [(1, 19), (6, 21), (16, 23)]) := rfl
theorem lkTl17 (l : List Cn) (s : Cn) (i : Nat) (sd : Int) (R C : List Int) (xs : List (List CD)) : lookT 17 (lkT l s i sd R C xs) = none := rfl
theorem lkTg17 : nthG lkTG 17 = some (.all [(1, 20), (6, 22), (11, 23)]) := rfl
theorem lkTl18 (l : List Cn) (s : Cn) (i : Nat) (sd : Int) (R C : List Int) (xs : List (List CD)) : lookT 18 (lkT l s i sd R C xs) = some (lkT18 l s i sd R C xs) := rfl
theorem lkTg18 : nthG lkTG 18 = some (.all [(11, 24), (16, 25)]) := rfl
theorem lkTl19 (l : List Cn) (s : Cn) (i : Nat) (sd : Int) (R C : List Int) (xs : List (List CD)) : lookT 19 (lkT l s i sd R C xs) = some (lkT19 l s i sd R C xs) := rfl
theorem lkTg19 : nthG lkTG 19 = some (.all [(6, 24), (16, 26)]) := rfl
theorem lkTl20 (l : List Cn) (s : Cn) (i : Nat) (sd : Int) (R C : List Int) (xs : List (List CD)) : lookT 20 (lkT l s i sd R C xs) = some (lkT20 l s i sd R C xs) := rfl
theorem lkTg20 : nthG lkTG 20 = some (.all [(6, 25), (11, 26)]) := rfl
theorem lkTl21 (l : List Cn) (s : Cn) (i : Nat) (sd : Int) (R C : List Int) (xs : List (List CD)) : lookT 21 (lkT l s i sd R C xs) = some (lkT21 l s i sd R C xs) := rfl
theorem lkTg21 : nthG lkTG 21 = some (.all [(1, 24), (16, 27)]) := rfl
theorem lkTl22 (l : List Cn) (s : Cn) (i : Nat) (sd : Int) (R C : List Int) (xs : List (List CD)) : lookT 22 (lkT l s i sd R C xs) = some (lkT22 l s i sd R C xs) := rfl
theorem lkTg22 : nthG lkTG 22 = some (.all [(1, 25), (11, 27)]) := rfl
theorem lkTl23 (l : List Cn) (s : Cn) (i : Nat) (sd : Int) (R C : List Int) (xs : List (List CD)) : lookT 23 (lkT l s i sd R C xs) = some (lkT23 l s i sd R C xs) := rfl
theorem lkTg23 : nthG lkTG 23 = some (.all [(1, 26), (6, 27)]) := rfl
theorem lkTl24 (l : List Cn) (s : Cn) (i : Nat) (sd : Int) (R C : List Int) (xs : List (List CD)) : lookT 24 (lkT l s i sd R C xs) = some (lkT24 l s i sd R C xs) := rfl
theorem lkTg24 : nthG lkTG 24 = some (.all [(16, 28)]) := rfl
theorem lkTl25 (l : List Cn) (s : Cn) (i : Nat) (sd : Int) (R C : List Int) (xs : List (List CD)) : lookT 25 (lkT l s i sd R C xs) = some (lkT25 l s i sd R C xs) := rfl
theorem lkTg25 : nthG lkTG 25 = some (.all [(11, 28)]) := rfl
theorem lkTl26 (l : List Cn) (s : Cn) (i : Nat) (sd : Int) (R C : List Int) (xs : List (List CD)) : lookT 26 (lkT l s i sd R C xs) = some (lkT26 l s i sd R C xs) := rfl
theorem lkTg26 : nthG lkTG 26 = some (.all [(6, 28)]) := rfl
theorem lkTl27 (l : List Cn) (s : Cn) (i : Nat) (sd : Int) (R C : List Int) (xs : List (List CD)) : lookT 27 (lkT l s i sd R C xs) = some (lkT27 l s i sd R C xs) := rfl
theorem lkTg27 : nthG lkTG 27 = some (.one 17 29) := rfl
theorem lkTl28 (l : List Cn) (s : Cn) (i : Nat) (sd : Int) (R C : List Int) (xs : List (List CD)) : lookT 28 (lkT l s i sd R C xs) = some (lkT28 l s i sd R C xs) := rfl
theorem lkTg28 : nthG lkTG 28 = some (.one 17 30) := rfl
theorem lkTl29 (l : List Cn) (s : Cn) (i : Nat) (sd : Int) (R C : List Int) (xs : List (List CD)) : lookT 29 (lkT l s i sd R C xs) = none := rfl
theorem lkTg29 : nthG lkTG 29 = some (.all [(1, 30), (18, 31)]) := rfl
theorem lkTl30 (l : List Cn) (s : Cn) (i : Nat) (sd : Int) (R C : List Int) (xs : List (List CD)) : lookT 30 (lkT l s i sd R C xs) = some (lkT30 l s i sd R C xs) := rfl
theorem lkTg30 : nthG lkTG 30 = some (.all [(18, 32)]) := rfl
theorem lkTl31 (l : List Cn) (s : Cn) (i : Nat) (sd : Int) (R C : List Int) (xs : List (List CD)) : lookT 31 (lkT l s i sd R C xs) = none := rfl
theorem lkTg31 : nthG lkTG 31 = some (.all [(1, 32)]) := rfl
theorem lkTl32 (l : List Cn) (s : Cn) (i : Nat) (sd : Int) (R C : List Int) (xs : List (List CD)) : lookT 32 (lkT l s i sd R C xs) = some (lkT32 l s i sd R C xs) := rfl
theorem lkTg32 : nthG lkTG 32 = some (.all [(19, 33)]) := rfl
theorem lkTl33 (l : List Cn) (s : Cn) (i : Nat) (sd : Int) (R C : List Int) (xs : List (List CD)) : lookT 33 (lkT l s i sd R C xs) = none := rfl
theorem lkTg33 : nthG lkTG 33 = some (.one 20 34) := rfl
theorem lkTl34 (l : List Cn) (s : Cn) (i : Nat) (sd : Int) (R C : List Int) (xs : List (List CD)) : lookT 34 (lkT l s i sd R C xs) = none := rfl
theorem lkTg34 : nthG lkTG 34 = some (.all [(21, 35)]) := rfl
theorem lkTl35 (l : List Cn) (s : Cn) (i : Nat) (sd : Int) (R C : List Int) (xs : List (List CD)) : lookT 35 (lkT l s i sd R C xs) = none := rfl
theorem lkTg35 : nthG lkTG 35 = some (.fin) := rfl
theorem lkTs0 (P : Program) (K : St → Prop) (σ : St) : atS P K c6_47L 0 σ = sGuard P K σ (some 74) (.fad 2 (.t 14)) none (guardOf σ none) := rfl
theorem lkTo0 (K : St → Prop) (σ : St) : atO K c6_47L 0 σ = SFg K σ (some 74) (.fad 2 (.t 14)) none (guardOf σ none) := by unfold c6_47L; simp only [atO_zero, atO_succ]
theorem lkTs1 (P : Program) (K : St → Prop) (σ : St) : atS P K c6_47L 1 σ = sGuard P K σ (some 75) (.ld none (.t 74)) none (guardOf σ none) := rfl
theorem lkTs2 (P : Program) (K : St → Prop) (σ : St) : atS P K c6_47L 2 σ = sGuard P K σ (some 76) (.mv (.t 0)) none (guardOf σ none) := rfl
theorem lkTo2 (K : St → Prop) (σ : St) : atO K c6_47L 2 σ = SFg K σ (some 76) (.mv (.t 0)) none (guardOf σ none) := by unfold c6_47L; simp only [atO_zero, atO_succ]
theorem lkTs3 (P : Program) (K : St → Prop) (σ : St) : atS P K c6_47L 3 σ = sGuard P K σ (some 77) (.mv (.t 15)) none (guardOf σ none) := rfl
theorem lkTo3 (K : St → Prop) (σ : St) : atO K c6_47L 3 σ = SFg K σ (some 77) (.mv (.t 15)) none (guardOf σ none) := by unfold c6_47L; simp only [atO_zero, atO_succ]
theorem lkTs4 (P : Program) (K : St → Prop) (σ : St) : atS P K c6_47L 4 σ = sGuard P K σ (some 78) (.iad 7 (.t 76) (.t 77)) none (guardOf σ none) := rfl
theorem lkTo4 (K : St → Prop) (σ : St) : atO K c6_47L 4 σ = SFg K σ (some 78) (.iad 7 (.t 76) (.t 77)) none (guardOf σ none) := by unfold c6_47L; simp only [atO_zero, atO_succ]
theorem lkTs5 (P : Program) (K : St → Prop) (σ : St) : atS P K c6_47L 5 σ = sGuard P K σ (some 79) (.fad 0 (.t 78)) none (guardOf σ none) := rfl
theorem lkTo5 (K : St → Prop) (σ : St) : atO K c6_47L 5 σ = SFg K σ (some 79) (.fad 0 (.t 78)) none (guardOf σ none) := by unfold c6_47L; simp only [atO_zero, atO_succ]
theorem lkTs6 (P : Program) (K : St → Prop) (σ : St) : atS P K c6_47L 6 σ = sGuard P K σ (some 80) (.ld none (.t 79)) none (guardOf σ none) := rfl
theorem lkTs7 (P : Program) (K : St → Prop) (σ : St) : atS P K c6_47L 7 σ = sGuard P K σ (some 81) (.mv (.t 0)) none (guardOf σ none) := rfl
theorem lkTo7 (K : St → Prop) (σ : St) : atO K c6_47L 7 σ = SFg K σ (some 81) (.mv (.t 0)) none (guardOf σ none) := by unfold c6_47L; simp only [atO_zero, atO_succ]
theorem lkTs8 (P : Program) (K : St → Prop) (σ : St) : atS P K c6_47L 8 σ = sGuard P K σ (some 82) (.mv (.t 15)) none (guardOf σ none) := rfl
theorem lkTo8 (K : St → Prop) (σ : St) : atO K c6_47L 8 σ = SFg K σ (some 82) (.mv (.t 15)) none (guardOf σ none) := by unfold c6_47L; simp only [atO_zero, atO_succ]
theorem lkTs9 (P : Program) (K : St → Prop) (σ : St) : atS P K c6_47L 9 σ = sGuard P K σ (some 83) (.iad 7 (.t 81) (.t 82)) none (guardOf σ none) := rfl
theorem lkTo9 (K : St → Prop) (σ : St) : atO K c6_47L 9 σ = SFg K σ (some 83) (.iad 7 (.t 81) (.t 82)) none (guardOf σ none) := by unfold c6_47L; simp only [atO_zero, atO_succ]
theorem lkTs10 (P : Program) (K : St → Prop) (σ : St) : atS P K c6_47L 10 σ = sGuard P K σ (some 84) (.fad 1 (.t 83)) none (guardOf σ none) := rfl
theorem lkTo10 (K : St → Prop) (σ : St) : atO K c6_47L 10 σ = SFg K σ (some 84) (.fad 1 (.t 83)) none (guardOf σ none) := by unfold c6_47L; simp only [atO_zero, atO_succ]
theorem lkTs11 (P : Program) (K : St → Prop) (σ : St) : atS P K c6_47L 11 σ = sGuard P K σ (some 85) (.ld none (.t 84)) none (guardOf σ none) := rfl
theorem lkTs12 (P : Program) (K : St → Prop) (σ : St) : atS P K c6_47L 12 σ = sGuard P K σ (some 86) (.mv (.t 0)) none (guardOf σ none) := rfl
theorem lkTo12 (K : St → Prop) (σ : St) : atO K c6_47L 12 σ = SFg K σ (some 86) (.mv (.t 0)) none (guardOf σ none) := by unfold c6_47L; simp only [atO_zero, atO_succ]
theorem lkTs13 (P : Program) (K : St → Prop) (σ : St) : atS P K c6_47L 13 σ = sGuard P K σ (some 87) (.mv (.t 15)) none (guardOf σ none) := rfl
theorem lkTo13 (K : St → Prop) (σ : St) : atO K c6_47L 13 σ = SFg K σ (some 87) (.mv (.t 15)) none (guardOf σ none) := by unfold c6_47L; simp only [atO_zero, atO_succ]
theorem lkTs14 (P : Program) (K : St → Prop) (σ : St) : atS P K c6_47L 14 σ = sGuard P K σ (some 88) (.iad 7 (.t 86) (.t 87)) none (guardOf σ none) := rfl
theorem lkTo14 (K : St → Prop) (σ : St) : atO K c6_47L 14 σ = SFg K σ (some 88) (.iad 7 (.t 86) (.t 87)) none (guardOf σ none) := by unfold c6_47L; simp only [atO_zero, atO_succ]
theorem lkTs15 (P : Program) (K : St → Prop) (σ : St) : atS P K c6_47L 15 σ = sGuard P K σ (some 89) (.fad 2 (.t 88)) none (guardOf σ none) := rfl
theorem lkTo15 (K : St → Prop) (σ : St) : atO K c6_47L 15 σ = SFg K σ (some 89) (.fad 2 (.t 88)) none (guardOf σ none) := by unfold c6_47L; simp only [atO_zero, atO_succ]
theorem lkTs16 (P : Program) (K : St → Prop) (σ : St) : atS P K c6_47L 16 σ = sGuard P K σ (some 90) (.ld none (.t 89)) none (guardOf σ none) := rfl
theorem lkTs17 (P : Program) (K : St → Prop) (σ : St) : atS P K c6_47L 17 σ = sGuard P K σ (some 91) (.build [(.I 0), (.I 0), (.I 0)] [(0, 1, (.t 80)), (1, 1, (.t 85)), (2, 1, (.t 90))]) none (guardOf σ none) := rfl
theorem lkTo17 (K : St → Prop) (σ : St) : atO K c6_47L 17 σ = SFg K σ (some 91) (.build [(.I 0), (.I 0), (.I 0)] [(0, 1, (.t 80)), (1, 1, (.t 85)), (2, 1, (.t 90))]) none (guardOf σ none) := by unfold c6_47L; simp only [atO_zero, atO_succ]
theorem lkTs18 (P : Program) (K : St → Prop) (σ : St) : atS P K c6_47L 18 σ = sGuard P K σ (some 92) (.bslice 54 3 [(.t 91)]) none (guardOf σ none) := rfl
theorem lkTs19 (P : Program) (K : St → Prop) (σ : St) : atS P K c6_47L 19 σ = sGuard P K σ (some 93) (.app 54 3 24 (.t 75) (.t 92)) none (guardOf σ none) := rfl
theorem lkTs20 (P : Program) (K : St → Prop) (σ : St) : atS P K c6_47L 20 σ = sGuard P K σ (some 94) (.fad 2 (.t 14)) none (guardOf σ none) := rfl
theorem lkTo20 (K : St → Prop) (σ : St) : atO K c6_47L 20 σ = SFg K σ (some 94) (.fad 2 (.t 14)) none (guardOf σ none) := by unfold c6_47L; simp only [atO_zero, atO_succ]
theorem lkTs21 (P : Program) (K : St → Prop) (σ : St) : atS P K c6_47L 21 σ = sGuard P K σ none (.st none (.t 94) (.t 93)) none (guardOf σ none) := rfl
attribute [go_sem] lkT18 lkT19 lkT20 lkT21 lkT22 lkT23 lkT24 lkT25 lkT26 lkT27 lkT28 lkT30 lkT32 lkTl0 lkTg0 lkTl1 lkTg1 lkTl2 lkTg2 lkTl3 lkTg3 lkTl4 lkTg4 lkTl5 lkTg5 lkTl6 lkTg6 lkTl7 lkTg7 lkTl8 lkTg8 lkTl9 lkTg9 lkTl10 lkTg10 lkTl11 lkTg11 lkTl12 lkTg12 lkTl13 lkTg13 lkTl14 lkTg14 lkTl15 lkTg15 lkTl16 lkTg16 lkTl17 lkTg17 lkTl18 lkTg18 lkTl19 lkTg19 lkTl20 lkTg20 lkTl21 lkTg21 lkTl22 lkTg22 lkTl23 lkTg23 lkTl24 lkTg24 lkTl25 lkTg25 lkTl26 lkTg26 lkTl27 lkTg27 lkTl28 lkTg28 lkTl29 lkTg29 lkTl30 lkTg30 lkTl31 lkTg31 lkTl32 lkTg32 lkTl33 lkTg33 lkTl34 lkTg34 lkTl35 lkTg35 lkTs0 lkTo0 lkTs1 lkTs2 lkTo2 lkTs3 lkTo3 lkTs4 lkTo4 lkTs5 lkTo5 lkTs6 lkTs7 lkTo7 lkTs8 lkTo8 lkTs9 lkTo9 lkTs10 lkTo10 lkTs11 lkTs12 lkTo12 lkTs13 lkTo13 lkTs14 lkTo14 lkTs15 lkTo15 lkTs16 lkTs17 lkTo17 lkTs18 lkTs19 lkTs20 lkTo20 lkTs21
def lk0 (l : List Cn) (s : Cn) (i : Nat) (sd : Int) (R C : List Int) (xs : List (List CD)) : St := ⟨154, [(0, .c (Cns l)), (1, .I sd), (8, .c (Row R)), (9, .c (Row C)), (13, .c .nil), (14, .ptr 14 0), (15, .I i)], [(14, .box 51 [.c .nil, .c .nil, .own 905]), (905, .arr 54 3 xs)]⟩
def lk1 (l : List Cn) (s : Cn) (i : Nat) (sd : Int) (R C : List Int) (xs : List (List CD)) : St := ⟨154, [(0, .c (Cns l)), (1, .I sd), (8, .c (Row R)), (9, .c (Row C)), (13, .c .nil), (14, .ptr 14 0), (15, .I i)], [(14, .box 51 [.c .nil, .c .nil, .own 905]), (905, .arr 54 3 (xs ++ [[.I s.id, .I s.obv, .I s.rev]]))]⟩
set_option maxHeartbeats 40000000 in
theorem r6a (l : List Cn) (s : Cn) (i : Nat) (sd : Int) (R C : List Int) (xs : List (List CD)) (hi : i < l.length) (hge : (l.map Cn.cd).getD i [] = [.I s.id, .I s.obv, .I s.rev, .I s.ost, .I s.rst, .I s.ax, .I s.wt]) (hx : xs.length ≤ 1000) : AW Try.prog c6_47 (cutQ (lk1 l s i sd R C xs)) (lk0 l s i sd R C xs) := by
  refine AW_regG (lkT l s i sd R C xs) lkTM lkTG (by kernel_rfl) (by kernel_rfl) (Both.mk ?_ ?_)
  · unfold lk0
    (repeat' (first | refine NextAt.mk (fun hc => ?_) (fun pre n v post hc hkey => ?_) | refine Sni.mk (fun hc => ?_) ?_ | refine Both.mk ?_ ?_ | refine AW_seq ?_ | refine AW_block ?_ | ((first | refine AW_reg ?_ | refine AW_cond ?_ | refine AW_skip ?_ | refine AW_exit ?_ | refine AW_ret ?_ | refine AW_regD (by kernel_rfl) ?_ | refine AW_regX (by kernel_rfl) ?_ | refine CallAtG.t (Eq.refl true) ?_ | refine CallAtG.f (Eq.refl false) ?_); try simp (disch := omega) only [go_sem, seval, reduceCtorEq, ↓reduceIte, beq_dec, Int.toNat_natCast, IntKind.signed, IntKind.bits, lk1, hge, Int.toNat_natCast, List.length_append, List.length_map, maxLen]) | refine And.intro (fun hc => (?_ : AW _ _ _ _)) (fun hc => (?_ : AW _ _ _ _)) | simp (disch := omega) only [go_sem, seval, reduceCtorEq, ↓reduceIte, beq_dec, Int.toNat_natCast, IntKind.signed, IntKind.bits, lk1, hge, Int.toNat_natCast, List.length_append, List.length_map, maxLen] | (refine And.intro ?_ ?_; focus (first | (intros; omega) | (intros; simp_all; done))) | refine And.intro (?_ : CallAt _ _ _ _ _ _ _ _) ?_ | refine And.intro (?_ : CallAt _ _ _ _ _ _ _ _ ∧ _) ?_ | refine And.intro (?_ : AW _ _ _ _) ?_ | fail))
  · unfold lkT
    (repeat' (first | refine NextAt.mk (fun hc => ?_) (fun pre n v post hc hkey => ?_) | refine Sni.mk (fun hc => ?_) ?_ | refine Both.mk ?_ ?_ | refine AW_seq ?_ | refine AW_block ?_ | ((first | refine AW_reg ?_ | refine AW_cond ?_ | refine AW_skip ?_ | refine AW_exit ?_ | refine AW_ret ?_ | refine AW_regD (by kernel_rfl) ?_ | refine AW_regX (by kernel_rfl) ?_ | refine CallAtG.t (Eq.refl true) ?_ | refine CallAtG.f (Eq.refl false) ?_); try simp (disch := omega) only [go_sem, seval, reduceCtorEq, ↓reduceIte, beq_dec, Int.toNat_natCast, IntKind.signed, IntKind.bits, lk1, hge, Int.toNat_natCast, knotsP_nil, knotsP_cons, List.length_append, List.length_map, maxLen]) | refine And.intro (fun hc => (?_ : AW _ _ _ _)) (fun hc => (?_ : AW _ _ _ _)) | simp (disch := omega) only [go_sem, seval, reduceCtorEq, ↓reduceIte, beq_dec, Int.toNat_natCast, IntKind.signed, IntKind.bits, lk1, hge, Int.toNat_natCast, knotsP_nil, knotsP_cons, List.length_append, List.length_map, maxLen] | (refine And.intro ?_ ?_; focus (first | (intros; omega) | (intros; simp_all; done))) | refine And.intro (?_ : CallAt _ _ _ _ _ _ _ _) ?_ | refine And.intro (?_ : CallAt _ _ _ _ _ _ _ _ ∧ _) ?_ | refine And.intro (?_ : AW _ _ _ _) ?_ | fail))
    all_goals omega
end Go.Proofs.Ytddhinbiahcjlaa

