/- Layer 8's first: a closed run. -/
import Derived.Test.YtnkikhhiaecebaaMdlR
import Derived.Test.YtnkikhhiaecebaaBaseC
set_option linter.all false
namespace Go.Proofs.Ytnkikhhiaecebaa
open Go Go.RowKit
set_option maxRecDepth 1000000
set_option maxHeartbeats 0
def first0_25  : List SC := [SC.int true .u64 (0 : Int), SC.int true .u64 (0 : Int), SC.int true .u64 (0 : Int), SC.int true .u64 (0 : Int)]
def first0_1  : SF := SF.mk 50 (np 4203 0 (nv (SV.agg [ti .u64 (262148 : Int), SC.raw (Value.pointer none)]) (nu (nv (SV.c (tb false)) (nu (np 4203 10 tn tn) nu0) (nu nu0 tn)) (nv
 (SV.c (SC.raw (Value.pointer none))) (nu (nv (SV.tup [(true, (first0_25)), (false, [tb false])]) tn tn) tn) (nu nu0 tn))) (nu (nv (SV.c (tb false)) (nu (np 4533 0 tn tn) nu0) (nu
 nu0 tn)) (nu (nu (nv (SV.c (tb false)) tn tn) tn) (np 4203 0 nu0 tn)))) (nv (SV.c (ti .i64 (0 : Int))) (np 4533 0 (np 4549 0 (nu (nv (SV.c (SC.map 4201)) tn tn) nu0) (nu nu0 tn))
 (nv (SV.c (tb false)) (nu (nv (SV.agg (first0_25)) tn tn) tn) (nv (SV.tup [(true, (first0_25)), (false, [tb false])]) nu0 tn))) (np 4534 0 (np 4533 1 (nu (nv (SV.c (ti .u64 (262148
 : Int))) tn tn) tn) (nu nu0 tn)) (nu (nu nu0 tn) (np 4203 0 nu0 tn))))) []
def first0_2  : List SC := [SC.int true .u64 (0 : Int), SC.int true .u64 (0 : Int), SC.int true .u64 (0 : Int), SC.int true .u64 (0 : Int)]
def first0_3 (cap cap_24 : Nat) : List SC := [SC.int true .u64 (0 : Int), SC.int true .i64 (0 : Int), SC.int true .u64 (0 : Int), SC.int true .i64 (0 : Int), ti .i64 (1 : Int),
 SC.int true .u64 (0 : Int), SC.int true .i64 (0 : Int), sp 47 0, sp 932 0, sp 55 0, SC.map 57, SC.sli 750 1 true 0 true 4 cap, SC.nls, SC.sli 3560 1 true 0 true 4 cap_24, SC.int
 true .u64 (0 : Int)]
def first0_4  : SF := SF.mk 40 (np 4203 0 (nv (SV.c (SC.int true .i64 (1 : Int))) (nu (nv (SV.c (tb false)) (np 4203 7 (nv (SV.tup [(true, [SC.int true .u64 (0 : Int), SC.raw
 (Value.pointer none)]), (false, [tb false])]) tn tn) tn) (nv (SV.agg [ti .u64 (262148 : Int), SC.raw (Value.pointer none)]) nu0 tn)) (nv (SV.c (tb false)) (nv (SV.agg [ti .u64
 (262148 : Int), SC.raw (Value.pointer none)]) nu0 tn) (nv (SV.agg [ti .u64 (262148 : Int), SC.raw (Value.pointer none)]) tn tn))) (nu (nv (SV.c (SC.int true .i64 (0 : Int))) (np
 4195 0 (nv (SV.c (tb false)) tn tn) tn) (nv (SV.tup [(true, [SC.int true .u64 (0 : Int), SC.raw (Value.pointer none)]), (false, [tb false])]) tn tn)) (nv (SV.c (SC.int true .i64 (1
 : Int))) (nv (SV.c (tb true)) nu0 tn) (nv (SV.c (SC.int true .i64 (0 : Int))) tn tn)))) (nv (SV.c (SC.int true .i64 (0 : Int))) (nu (np 4480 0 (np 4203 8 (nv (SV.agg [SC.int true
 .u64 (0 : Int), SC.raw (Value.pointer none)]) tn tn) tn) (nv (SV.c (tb false)) tn tn)) (np 4203 0 (nv (SV.c (SC.int true .i64 (0 : Int))) nu0 tn) (nv (SV.c (SC.int true .i64 (0 :
 Int))) tn tn))) (nv (SV.c (SC.int true .u64 (0 : Int))) (np 4508 0 (np 4195 0 nu0 tn) (np 4203 0 tn tn)) (np 4203 0 (nv (SV.c (SC.int true .i64 (0 : Int))) nu0 tn) (nv (SV.c (ti
 .i64 (0 : Int))) tn tn))))) []
def first0_5  : List SC := [ti .i64 (3 : Int), ti .u64 (6 : Int), SC.int true .u64 (0 : Int), SC.int true .u64 (0 : Int), SC.int true .u64 (0 : Int), SC.raw (Value.pointer none),
 SC.raw (Value.pointer none), SC.raw (Value.pointer none), SC.raw (Value.pointer none), tb false]
def first0_6  : List SC := [SC.int true .i64 (0 : Int), SC.int true .u64 (0 : Int), SC.int true .u64 (0 : Int), SC.int true .u64 (0 : Int), SC.int true .u64 (0 : Int), sp 484 0,
 SC.raw (Value.pointer none), SC.raw (Value.pointer none), SC.raw (Value.pointer none), tb false]
def first0_7  : List SC := [ti .i64 (1 : Int), SC.int true .u64 (0 : Int), SC.int true .u64 (0 : Int), SC.int true .u64 (0 : Int), SC.int true .u64 (0 : Int), sp 611 0, SC.raw
 (Value.pointer none), SC.raw (Value.pointer none), SC.raw (Value.pointer none), tb false]
def first0_8  : List SC := [ti .i64 (2 : Int), SC.int true .u64 (0 : Int), SC.int true .u64 (0 : Int), SC.int true .u64 (0 : Int), SC.int true .u64 (0 : Int), sp 738 0, SC.raw
 (Value.pointer none), SC.raw (Value.pointer none), SC.raw (Value.pointer none), tb false]
def first0_20 (X0 : Prop) : Prop := Value.pointer none = Value.pointer none ∧ Value.pointer none = Value.pointer none ∧ ([] : List (Int × Value)) = [] ∧ Value.pointer none =
 Value.pointer none ∧ (X0 ∧ True) ∧ True
def first0_23 (X1 : Prop) : Prop := Value.pointer none = Value.pointer none ∧ Value.pointer none = Value.pointer none ∧ ([] : List (Int × Value)) = [] ∧ Value.pointer none =
 Value.pointer none ∧ X1 ∧ True
def first0_16  : List SC := [ti .u64 (6 : Int), SC.int true .u64 (0 : Int), SC.int true .u64 (0 : Int), SC.int true .u64 (0 : Int)]
def first0_18  : List SC := [ti .u64 (65537 : Int), ti .u64 (131074 : Int), ti .u64 (196611 : Int), ti .u64 (262148 : Int)]
def first0_26  : List SC := [SC.int true .u64 (0 : Int), SC.int true .i64 (0 : Int), ti .u64 (262148 : Int), SC.int true .i64 (0 : Int), ti .i64 (1 : Int), SC.int true .u64 (0 :
 Int), SC.int true .i64 (0 : Int)]
def first0_24  : List SC := [SC.int true .u64 (0 : Int), SC.int true .i64 (0 : Int), ti .u64 (262148 : Int), SC.int true .i64 (0 : Int), ti .i64 (1 : Int), SC.int true .u64 (0 :
 Int), SC.int true .i64 (0 : Int), sp 4191 0, sp 4195 0, sp 4199 0, SC.map 4201, SC.nls, SC.nls, SC.nls, SC.int true .u64 (0 : Int)]
def first0_22  : List SC := [SC.int true .i64 (2 : Int), SC.int true .i64 (0 : Int), SC.int true .i64 (0 : Int), SC.int true .i64 (0 : Int)]
def first0_9 (X0 : Prop) (cap cap_24 : Nat) : Prop := Value.pointer none = Value.pointer none ∧ Value.pointer none = Value.pointer none ∧ Value.pointer none = Value.pointer none ∧
 ([] : List (Int × Value)) = [] ∧ Value.pointer none = Value.pointer none ∧ (((Value.pointer none = Value.pointer none ∧ first0_20 X0) ∧ True) ∧ (∀ (K : KO XN), (fun X1 : Prop =>
 (Value.pointer none = Value.pointer none ∧ first0_23 X1) ∧ True → Value.pointer none = Value.pointer none ∧ first0_20 X1) (K (first0_1) (Mem.mk [(47, SO.cells [SC.int true .u64 (0 :
 Int), SC.raw (Value.pointer none)] 199), (51, SO.cells [SC.int true .u64 (0 : Int), SC.raw (Value.pointer none)] 199), (55, SO.cells [SC.int true .u64 (0 : Int), SC.raw
 (Value.pointer none)] 199), (57, SO.mp true []), (59, SO.cells (first0_3 cap cap_24) 204), (68, SO.cells [SC.int true .i64 (0 : Int), ti .i64 (1 : Int)] 82), (403, SO.cells
 (first0_6) 212), (484, SO.cells (first0_7) 212), (611, SO.cells (first0_8) 212), (738, SO.cells (first0_5) 212), (750, SO.row 197 1 4 cap [sp 403 0, sp 484 0, sp 611 0, sp 738 0]),
 (932, SO.cells [SC.int true .u64 (0 : Int), sp 403 0] 199), (981, SO.cells (first0_16) 87), (3560, SO.row 29 1 4 cap_24 (first0_18)), (3569, SO.cells (first0_26) 75), (4191,
 SO.cells [SC.int true .u64 (0 : Int), SC.raw (Value.pointer none)] 199), (4195, SO.cells [ti .u64 (262148 : Int), SC.raw (Value.pointer none)] 199), (4199, SO.cells [SC.int true
 .u64 (0 : Int), SC.raw (Value.pointer none)] 199), (4201, SO.mp true []), (4203, SO.cells (first0_24) 204), (4215, SO.cells (first0_22) 77), (4216, SO.cells [SC.int true .i64 (0 :
 Int), SC.int true .i64 (0 : Int)] 82), (4409, SO.cells [SC.int true .i64 (0 : Int), SC.int true .i64 (0 : Int)] 82), (4418, SO.cells (first0_22) 77), (4419, SO.cells [SC.int true
 .i64 (0 : Int), SC.int true .i64 (0 : Int)] 82), (4480, SO.cells [ti .u64 (262148 : Int), SC.raw (Value.pointer none)] 199), (4508, SO.cells [SC.int true .u64 (0 : Int), SC.raw
 (Value.pointer none)] 199), (4533, SO.cells [ti .u64 (262148 : Int), SC.raw (Value.pointer none)] 199), (4534, SO.cells [SC.int true .u64 (0 : Int), SC.raw (Value.pointer none)]
 199), (4549, SO.cells (first0_2) 87)] 4539) Scr.know)) ∧ True) ∧ True
def first0_10 (cap cap_24 : Nat) : Prop := ∀ (K : KO XN), (fun X1 : Prop => (Value.pointer none = Value.pointer none ∧ first0_23 X1) ∧ True → Value.pointer none = Value.pointer none
 ∧ first0_20 X1) (K (first0_1) (Mem.mk [(47, SO.cells [SC.int true .u64 (0 : Int), SC.raw (Value.pointer none)] 199), (51, SO.cells [SC.int true .u64 (0 : Int), SC.raw (Value.pointer
 none)] 199), (55, SO.cells [SC.int true .u64 (0 : Int), SC.raw (Value.pointer none)] 199), (57, SO.mp true []), (59, SO.cells (first0_3 cap cap_24) 204), (68, SO.cells [SC.int true
 .i64 (0 : Int), ti .i64 (1 : Int)] 82), (403, SO.cells (first0_6) 212), (484, SO.cells (first0_7) 212), (611, SO.cells (first0_8) 212), (738, SO.cells (first0_5) 212), (750, SO.row
 197 1 4 cap [sp 403 0, sp 484 0, sp 611 0, sp 738 0]), (932, SO.cells [SC.int true .u64 (0 : Int), sp 403 0] 199), (981, SO.cells (first0_16) 87), (3560, SO.row 29 1 4 cap_24
 (first0_18)), (3569, SO.cells (first0_26) 75), (4191, SO.cells [SC.int true .u64 (0 : Int), SC.raw (Value.pointer none)] 199), (4195, SO.cells [ti .u64 (262148 : Int), SC.raw
 (Value.pointer none)] 199), (4199, SO.cells [SC.int true .u64 (0 : Int), SC.raw (Value.pointer none)] 199), (4201, SO.mp true []), (4203, SO.cells (first0_24) 204), (4215, SO.cells
 (first0_22) 77), (4216, SO.cells [SC.int true .i64 (0 : Int), SC.int true .i64 (0 : Int)] 82), (4409, SO.cells [SC.int true .i64 (0 : Int), SC.int true .i64 (0 : Int)] 82), (4418,
 SO.cells (first0_22) 77), (4419, SO.cells [SC.int true .i64 (0 : Int), SC.int true .i64 (0 : Int)] 82), (4480, SO.cells [ti .u64 (262148 : Int), SC.raw (Value.pointer none)] 199),
 (4533, SO.cells [ti .u64 (262148 : Int), SC.raw (Value.pointer none)] 199), (4534, SO.cells [SC.int true .u64 (0 : Int), SC.raw (Value.pointer none)] 199), (4549, SO.cells
 (first0_2) 87)] 4539) Scr.know)
def first0_11  : List SC := [SC.int true .i64 (2 : Int), SC.int true .i64 (0 : Int), SC.int true .i64 (0 : Int), SC.int true .i64 (0 : Int)]
def first0_12 (X0 : Prop) : Prop := Value.pointer none = Value.pointer none ∧ first0_20 X0
def first0_13  : List SC := [SC.int true .u64 (0 : Int), SC.int true .i64 (0 : Int), ti .u64 (262148 : Int), SC.int true .i64 (0 : Int), ti .i64 (1 : Int), SC.int true .u64 (0 :
 Int), SC.int true .i64 (0 : Int), sp 4191 0, sp 4195 0, sp 4199 0, SC.map 4201, SC.nls, SC.nls, SC.nls, SC.int true .u64 (0 : Int)]
def first0_14  : List SC := [SC.int true .u64 (0 : Int), SC.int true .i64 (0 : Int), ti .u64 (262148 : Int), SC.int true .i64 (0 : Int), ti .i64 (1 : Int), SC.int true .u64 (0 :
 Int), SC.int true .i64 (0 : Int)]
def first0_15 (X0 : Prop) : Prop := Value.pointer none = Value.pointer none ∧ first0_23 X0
def first0_17 (X0 : Prop) : Prop := Value.pointer none = Value.pointer none ∧ Value.pointer none = Value.pointer none ∧ Value.pointer none = Value.pointer none ∧ Value.pointer none
 = Value.pointer none ∧ Value.pointer none = Value.pointer none ∧ Value.pointer none = Value.pointer none ∧ Value.pointer none = Value.pointer none ∧ Value.pointer none =
 Value.pointer none ∧ Value.pointer none = Value.pointer none ∧ (Value.pointer none = Value.pointer none ∧ Value.pointer none = Value.pointer none ∧ Value.pointer none =
 Value.pointer none ∧ Value.pointer none = Value.pointer none ∧ Value.pointer none = Value.pointer none ∧ Value.pointer none = Value.pointer none ∧ Value.pointer none = Value.pointer
 none ∧ Value.pointer none = Value.pointer none ∧ Value.pointer none = Value.pointer none ∧ X0 ∧ True) ∧ True
def first0_19  : List SC := [SC.int true .u64 (0 : Int), SC.int true .i64 (0 : Int), ti .u64 (262148 : Int), SC.int true .i64 (0 : Int), ti .i64 (1 : Int), SC.int true .u64 (0 :
 Int), SC.int true .i64 (0 : Int), sp 4191 0, sp 4195 0, sp 4199 0, SC.map 4201, SC.nls, SC.nls, SC.nls, ti .u64 (262148 : Int)]
def first0_21 (X0 : Prop) : Prop := (Value.pointer none = Value.pointer none ∧ Value.pointer none = Value.pointer none ∧ Value.pointer none = Value.pointer none ∧ ([] : List (Int ×
 Value)) = [] ∧ Value.pointer none = Value.pointer none ∧ ((X0 ∧ True) ∧ True) ∧ True) ∧ True
/-- What the executor leaves to be shown of roundelay/roundelaylaw08.first, written out. -/
theorem first08_vc  : (callN Try.prog (([] : List (Smry Try.prog XN)) : List (Smry Try.prog XN)) (fun _ t => Nat.beq t 999999) 300 30 40 [] ⟨[], 1⟩ (.know) (fun v _ _ => retTrue v)) = (
 (Value.pointer none = Value.pointer none ∧ Value.pointer none = Value.pointer none ∧ Value.pointer none = Value.pointer none ∧ ([] : List (Int × Value)) = [] ∧ (True ∧ True ∧ 1 ≤
 1000000000 ∧ ∀ (cap : Nat), 1 ≤ cap → (cap = cap ∧ True ∧ 2 ≤ 1000000000 ∧ ∀ (cap : Nat), 2 ≤ cap → ((Value.pointer none = Value.pointer none ∧ Value.pointer none = Value.pointer
 none ∧ Value.pointer none = Value.pointer none ∧ Value.pointer none = Value.pointer none ∧ Value.pointer none = Value.pointer none ∧ Value.pointer none = Value.pointer none ∧ (cap =
 cap ∧ True ∧ 3 ≤ 1000000000 ∧ ∀ (cap : Nat), 3 ≤ cap → ((Value.pointer none = Value.pointer none ∧ Value.pointer none = Value.pointer none ∧ Value.pointer none = Value.pointer none
 ∧ Value.pointer none = Value.pointer none ∧ Value.pointer none = Value.pointer none ∧ (cap = cap ∧ True ∧ 4 ≤ 1000000000 ∧ ∀ (cap : Nat), 4 ≤ cap → ((Value.pointer none =
 Value.pointer none ∧ Value.pointer none = Value.pointer none ∧ Value.pointer none = Value.pointer none ∧ Value.pointer none = Value.pointer none ∧ Value.pointer none = Value.pointer
 none ∧ Value.pointer none = Value.pointer none ∧ Value.pointer none = Value.pointer none ∧ ((Value.pointer none = Value.pointer none ∧ Value.pointer none = Value.pointer none ∧
 Value.pointer none = Value.pointer none ∧ Value.pointer none = Value.pointer none ∧ Value.pointer none = Value.pointer none ∧ Value.pointer none = Value.pointer none ∧ Value.pointer
 none = Value.pointer none ∧ Value.pointer none = Value.pointer none ∧ Value.pointer none = Value.pointer none ∧ (Value.pointer none = Value.pointer none ∧ Value.pointer none =
 Value.pointer none ∧ Value.pointer none = Value.pointer none ∧ Value.pointer none = Value.pointer none ∧ Value.pointer none = Value.pointer none ∧ Value.pointer none = Value.pointer
 none ∧ Value.pointer none = Value.pointer none ∧ Value.pointer none = Value.pointer none ∧ Value.pointer none = Value.pointer none ∧ (Value.pointer none = Value.pointer none ∧
 Value.pointer none = Value.pointer none ∧ Value.pointer none = Value.pointer none ∧ Value.pointer none = Value.pointer none ∧ Value.pointer none = Value.pointer none ∧ Value.pointer
 none = Value.pointer none ∧ Value.pointer none = Value.pointer none ∧ Value.pointer none = Value.pointer none ∧ Value.pointer none = Value.pointer none ∧ (((True ∧ True ∧ 1 ≤
 1000000000 ∧ ∀ (cap_1 : Nat), 1 ≤ cap_1 → cap_1 = cap_1 ∧ True ∧ 2 ≤ 1000000000 ∧ ∀ (cap_2 : Nat), 2 ≤ cap_2 → cap_2 = cap_2 ∧ True ∧ 3 ≤ 1000000000 ∧ ∀ (cap_3 : Nat), 3 ≤ cap_3 →
 cap_3 = cap_3 ∧ True ∧ 4 ≤ 1000000000 ∧ ∀ (cap_4 : Nat), 4 ≤ cap_4 → True ∧ True ∧ 1 ≤ 1000000000 ∧ ∀ (cap_5 : Nat), 1 ≤ cap_5 → cap_5 = cap_5 ∧ True ∧ 2 ≤ 1000000000 ∧ ∀ (cap_6 :
 Nat), 2 ≤ cap_6 → cap_6 = cap_6 ∧ True ∧ 3 ≤ 1000000000 ∧ ∀ (cap_7 : Nat), 3 ≤ cap_7 → cap_7 = cap_7 ∧ True ∧ 4 ≤ 1000000000 ∧ ∀ (cap_8 : Nat), 4 ≤ cap_8 → True ∧ True ∧ 1 ≤
 1000000000 ∧ ∀ (cap_9 : Nat), 1 ≤ cap_9 → True ∧ True ∧ 1 ≤ 1000000000 ∧ ∀ (cap_10 : Nat), 1 ≤ cap_10 → cap_10 = cap_10 ∧ True ∧ 2 ≤ 1000000000 ∧ ∀ (cap_11 : Nat), 2 ≤ cap_11 →
 cap_11 = cap_11 ∧ True ∧ 3 ≤ 1000000000 ∧ ∀ (cap_12 : Nat), 3 ≤ cap_12 → cap_12 = cap_12 ∧ True ∧ 4 ≤ 1000000000 ∧ ∀ (cap_13 : Nat), 4 ≤ cap_13 → cap_9 = cap_9 ∧ True ∧ 2 ≤
 1000000000 ∧ ∀ (cap_14 : Nat), 2 ≤ cap_14 → True ∧ True ∧ 1 ≤ 1000000000 ∧ ∀ (cap_15 : Nat), 1 ≤ cap_15 → cap_15 = cap_15 ∧ True ∧ 2 ≤ 1000000000 ∧ ∀ (cap_16 : Nat), 2 ≤ cap_16 →
 cap_16 = cap_16 ∧ True ∧ 3 ≤ 1000000000 ∧ ∀ (cap_17 : Nat), 3 ≤ cap_17 → cap_17 = cap_17 ∧ True ∧ 4 ≤ 1000000000 ∧ ∀ (cap_18 : Nat), 4 ≤ cap_18 → cap_14 = cap_14 ∧ True ∧ 3 ≤
 1000000000 ∧ ∀ (cap_19 : Nat), 3 ≤ cap_19 → True ∧ True ∧ 1 ≤ 1000000000 ∧ ∀ (cap_20 : Nat), 1 ≤ cap_20 → cap_20 = cap_20 ∧ True ∧ 2 ≤ 1000000000 ∧ ∀ (cap_21 : Nat), 2 ≤ cap_21 →
 cap_21 = cap_21 ∧ True ∧ 3 ≤ 1000000000 ∧ ∀ (cap_22 : Nat), 3 ≤ cap_22 → cap_22 = cap_22 ∧ True ∧ 4 ≤ 1000000000 ∧ ∀ (cap_23 : Nat), 4 ≤ cap_23 → cap_19 = cap_19 ∧ True ∧ 4 ≤
 1000000000 ∧ ∀ (cap_24 : Nat), 4 ≤ cap_24 → True ∧ True ∧ 1 ≤ 1000000000 ∧ ∀ (cap_25 : Nat), 1 ≤ cap_25 → cap_25 = cap_25 ∧ True ∧ 2 ≤ 1000000000 ∧ ∀ (cap_26 : Nat), 2 ≤ cap_26 →
 cap_26 = cap_26 ∧ True ∧ 3 ≤ 1000000000 ∧ ∀ (cap_27 : Nat), 3 ≤ cap_27 → cap_27 = cap_27 ∧ True ∧ 4 ≤ 1000000000 ∧ ∀ (cap_28 : Nat), 4 ≤ cap_28 → (Value.pointer none = Value.pointer
 none ∧ Value.pointer none = Value.pointer none ∧ Value.pointer none = Value.pointer none ∧ ([] : List (Int × Value)) = [] ∧ Value.pointer none = Value.pointer none ∧
 (((Value.pointer none = Value.pointer none ∧ Value.pointer none = Value.pointer none ∧ Value.pointer none = Value.pointer none ∧ ([] : List (Int × Value)) = [] ∧ Value.pointer none
 = Value.pointer none ∧ ((((Value.pointer none = Value.pointer none ∧ Value.pointer none = Value.pointer none ∧ Value.pointer none = Value.pointer none ∧ ([] : List (Int × Value)) =
 [] ∧ True ∧ True ∧ 1 ≤ 1000000000 ∧ ∀ (cap : Nat), 1 ≤ cap → cap = cap ∧ True ∧ 2 ≤ 1000000000 ∧ ∀ (cap : Nat), 2 ≤ cap → cap = cap ∧ True ∧ 3 ≤ 1000000000 ∧ ∀ (cap : Nat), 3 ≤ cap
 → cap = cap ∧ True ∧ 4 ≤ 1000000000 ∧ ∀ (cap : Nat), 4 ≤ cap → true = true) ∧ True) ∧ True) ∧ True) ∧ True) ∧ True) ∧ (∀ (K : KO XN), (fun X0 : Prop => (first0_15 X0) ∧ True →
 first0_12 X0) (K (first0_1) (Mem.mk [(47, SO.cells [SC.int true .u64 (0 : Int), SC.raw (Value.pointer none)] 199), (51, SO.cells [SC.int true .u64 (0 : Int), SC.raw (Value.pointer
 none)] 199), (55, SO.cells [SC.int true .u64 (0 : Int), SC.raw (Value.pointer none)] 199), (57, SO.mp true []), (59, SO.cells (first0_3 cap cap_24) 204), (68, SO.cells [SC.int true
 .i64 (0 : Int), ti .i64 (1 : Int)] 82), (403, SO.cells (first0_6) 212), (484, SO.cells (first0_7) 212), (611, SO.cells (first0_8) 212), (738, SO.cells (first0_5) 212), (750, SO.row
 197 1 4 cap [sp 403 0, sp 484 0, sp 611 0, sp 738 0]), (932, SO.cells [SC.int true .u64 (0 : Int), sp 403 0] 199), (981, SO.cells (first0_16) 87), (3560, SO.row 29 1 4 cap_24
 (first0_18)), (3569, SO.cells (first0_14) 75), (4191, SO.cells [SC.int true .u64 (0 : Int), SC.raw (Value.pointer none)] 199), (4195, SO.cells [ti .u64 (262148 : Int), SC.raw
 (Value.pointer none)] 199), (4199, SO.cells [SC.int true .u64 (0 : Int), SC.raw (Value.pointer none)] 199), (4201, SO.mp true []), (4203, SO.cells (first0_13) 204), (4215, SO.cells
 (first0_11) 77), (4216, SO.cells [SC.int true .i64 (0 : Int), SC.int true .i64 (0 : Int)] 82), (4409, SO.cells [SC.int true .i64 (0 : Int), SC.int true .i64 (0 : Int)] 82), (4418,
 SO.cells (first0_11) 77), (4419, SO.cells [SC.int true .i64 (0 : Int), SC.int true .i64 (0 : Int)] 82), (4480, SO.cells [ti .u64 (262148 : Int), SC.raw (Value.pointer none)] 199),
 (4533, SO.cells [ti .u64 (262148 : Int), SC.raw (Value.pointer none)] 199), (4534, SO.cells [SC.int true .u64 (0 : Int), SC.raw (Value.pointer none)] 199), (4549, SO.cells
 (first0_2) 87)] 4539) Scr.know)) ∧ True) ∧ (∀ (K : KO XN), (fun X0 : Prop => (first0_21 X0) ∧ (first0_10 cap cap_24) ∧ True → first0_9 X0 cap cap_24) (K (first0_4) (Mem.mk [(47,
 SO.cells [SC.int true .u64 (0 : Int), SC.raw (Value.pointer none)] 199), (51, SO.cells [SC.int true .u64 (0 : Int), SC.raw (Value.pointer none)] 199), (55, SO.cells [SC.int true
 .u64 (0 : Int), SC.raw (Value.pointer none)] 199), (57, SO.mp true []), (59, SO.cells (first0_3 cap cap_24) 204), (68, SO.cells [SC.int true .i64 (0 : Int), ti .i64 (1 : Int)] 82),
 (403, SO.cells (first0_6) 212), (484, SO.cells (first0_7) 212), (611, SO.cells (first0_8) 212), (738, SO.cells (first0_5) 212), (750, SO.row 197 1 4 cap [sp 403 0, sp 484 0, sp 611
 0, sp 738 0]), (932, SO.cells [SC.int true .u64 (0 : Int), sp 403 0] 199), (981, SO.cells (first0_16) 87), (3560, SO.row 29 1 4 cap_24 (first0_18)), (3569, SO.cells (first0_14) 75),
 (4191, SO.cells [SC.int true .u64 (0 : Int), SC.raw (Value.pointer none)] 199), (4195, SO.cells [ti .u64 (262148 : Int), SC.raw (Value.pointer none)] 199), (4199, SO.cells [SC.int
 true .u64 (0 : Int), SC.raw (Value.pointer none)] 199), (4201, SO.mp true []), (4203, SO.cells (first0_19) 204), (4215, SO.cells (first0_11) 77), (4216, SO.cells [SC.int true .i64
 (0 : Int), SC.int true .i64 (0 : Int)] 82), (4409, SO.cells [SC.int true .i64 (0 : Int), SC.int true .i64 (0 : Int)] 82), (4418, SO.cells (first0_11) 77), (4419, SO.cells [SC.int
 true .i64 (0 : Int), SC.int true .i64 (0 : Int)] 82), (4480, SO.cells [ti .u64 (262148 : Int), SC.raw (Value.pointer none)] 199), (4508, SO.cells [SC.int true .u64 (0 : Int), SC.raw
 (Value.pointer none)] 199)] 4563) Scr.know)) ∧ True) ∧ (∀ (K : KO XN), (fun X0 : Prop => Value.pointer none = Value.pointer none ∧ Value.pointer none = Value.pointer none ∧
 Value.pointer none = Value.pointer none ∧ ([] : List (Int × Value)) = [] ∧ Value.pointer none = Value.pointer none ∧ ((first0_21 X0) ∧ (first0_10 cap cap_24) ∧ True) ∧ (∀ (K : KO
 XN), (fun X1 : Prop => (first0_21 X1) ∧ (∀ (K : KO XN), (fun X2 : Prop => (first0_15 X2) ∧ True → first0_12 X2) (K (first0_1) (Mem.mk [(47, SO.cells [SC.int true .u64 (0 : Int),
 SC.raw (Value.pointer none)] 199), (51, SO.cells [SC.int true .u64 (0 : Int), SC.raw (Value.pointer none)] 199), (55, SO.cells [SC.int true .u64 (0 : Int), SC.raw (Value.pointer
 none)] 199), (57, SO.mp true []), (59, SO.cells (first0_3 cap cap_24) 204), (68, SO.cells [SC.int true .i64 (0 : Int), ti .i64 (1 : Int)] 82), (403, SO.cells (first0_6) 212), (484,
 SO.cells (first0_7) 212), (611, SO.cells (first0_8) 212), (738, SO.cells (first0_5) 212), (750, SO.row 197 1 4 cap [sp 403 0, sp 484 0, sp 611 0, sp 738 0]), (932, SO.cells [SC.int
 true .u64 (0 : Int), sp 403 0] 199), (981, SO.cells (first0_16) 87), (3560, SO.row 29 1 4 cap_24 (first0_18)), (3569, SO.cells (first0_14) 75), (4191, SO.cells [SC.int true .u64 (0
 : Int), SC.raw (Value.pointer none)] 199), (4195, SO.cells [ti .u64 (262148 : Int), SC.raw (Value.pointer none)] 199), (4199, SO.cells [SC.int true .u64 (0 : Int), SC.raw
 (Value.pointer none)] 199), (4201, SO.mp true []), (4203, SO.cells (first0_13) 204), (4215, SO.cells (first0_11) 77), (4216, SO.cells [SC.int true .i64 (0 : Int), SC.int true .i64
 (0 : Int)] 82), (4409, SO.cells [SC.int true .i64 (0 : Int), SC.int true .i64 (0 : Int)] 82), (4418, SO.cells (first0_11) 77), (4419, SO.cells [SC.int true .i64 (0 : Int), SC.int
 true .i64 (0 : Int)] 82), (4480, SO.cells [ti .u64 (262148 : Int), SC.raw (Value.pointer none)] 199), (4533, SO.cells [ti .u64 (262148 : Int), SC.raw (Value.pointer none)] 199),
 (4534, SO.cells [SC.int true .u64 (0 : Int), SC.raw (Value.pointer none)] 199), (4549, SO.cells (first0_2) 87)] 4539) Scr.know)) ∧ True → Value.pointer none = Value.pointer none ∧
 Value.pointer none = Value.pointer none ∧ Value.pointer none = Value.pointer none ∧ ([] : List (Int × Value)) = [] ∧ Value.pointer none = Value.pointer none ∧ (((first0_12 X1) ∧
 True) ∧ (∀ (K : KO XN), (fun X2 : Prop => (first0_15 X2) ∧ True → first0_12 X2) (K (first0_1) (Mem.mk [(47, SO.cells [SC.int true .u64 (0 : Int), SC.raw (Value.pointer none)] 199),
 (51, SO.cells [SC.int true .u64 (0 : Int), SC.raw (Value.pointer none)] 199), (55, SO.cells [SC.int true .u64 (0 : Int), SC.raw (Value.pointer none)] 199), (57, SO.mp true []), (59,
 SO.cells (first0_3 cap cap_24) 204), (68, SO.cells [SC.int true .i64 (0 : Int), ti .i64 (1 : Int)] 82), (403, SO.cells (first0_6) 212), (484, SO.cells (first0_7) 212), (611,
 SO.cells (first0_8) 212), (738, SO.cells (first0_5) 212), (750, SO.row 197 1 4 cap [sp 403 0, sp 484 0, sp 611 0, sp 738 0]), (932, SO.cells [SC.int true .u64 (0 : Int), sp 403 0]
 199), (981, SO.cells (first0_16) 87), (3560, SO.row 29 1 4 cap_24 (first0_18)), (3569, SO.cells (first0_14) 75), (4191, SO.cells [SC.int true .u64 (0 : Int), SC.raw (Value.pointer
 none)] 199), (4195, SO.cells [ti .u64 (262148 : Int), SC.raw (Value.pointer none)] 199), (4199, SO.cells [SC.int true .u64 (0 : Int), SC.raw (Value.pointer none)] 199), (4201, SO.mp
 true []), (4203, SO.cells (first0_13) 204), (4215, SO.cells (first0_11) 77), (4216, SO.cells [SC.int true .i64 (0 : Int), SC.int true .i64 (0 : Int)] 82), (4409, SO.cells [SC.int
 true .i64 (0 : Int), SC.int true .i64 (0 : Int)] 82), (4418, SO.cells (first0_11) 77), (4419, SO.cells [SC.int true .i64 (0 : Int), SC.int true .i64 (0 : Int)] 82), (4480, SO.cells
 [ti .u64 (262148 : Int), SC.raw (Value.pointer none)] 199), (4508, SO.cells [SC.int true .u64 (0 : Int), SC.raw (Value.pointer none)] 199), (4533, SO.cells [ti .u64 (262148 : Int),
 SC.raw (Value.pointer none)] 199), (4534, SO.cells [SC.int true .u64 (0 : Int), SC.raw (Value.pointer none)] 199), (4549, SO.cells (first0_2) 87)] 4539) Scr.know)) ∧ True) ∧ True)
 (K (first0_4) (Mem.mk [(47, SO.cells [SC.int true .u64 (0 : Int), SC.raw (Value.pointer none)] 199), (51, SO.cells [SC.int true .u64 (0 : Int), SC.raw (Value.pointer none)] 199),
 (55, SO.cells [SC.int true .u64 (0 : Int), SC.raw (Value.pointer none)] 199), (57, SO.mp true []), (59, SO.cells (first0_3 cap cap_24) 204), (68, SO.cells [SC.int true .i64 (0 :
 Int), ti .i64 (1 : Int)] 82), (403, SO.cells (first0_6) 212), (484, SO.cells (first0_7) 212), (611, SO.cells (first0_8) 212), (738, SO.cells (first0_5) 212), (750, SO.row 197 1 4
 cap [sp 403 0, sp 484 0, sp 611 0, sp 738 0]), (932, SO.cells [SC.int true .u64 (0 : Int), sp 403 0] 199), (981, SO.cells (first0_16) 87), (3560, SO.row 29 1 4 cap_24 (first0_18)),
 (3569, SO.cells (first0_14) 75), (4191, SO.cells [SC.int true .u64 (0 : Int), SC.raw (Value.pointer none)] 199), (4195, SO.cells [ti .u64 (262148 : Int), SC.raw (Value.pointer
 none)] 199), (4199, SO.cells [SC.int true .u64 (0 : Int), SC.raw (Value.pointer none)] 199), (4201, SO.mp true []), (4203, SO.cells (first0_19) 204), (4215, SO.cells (first0_11)
 77), (4216, SO.cells [SC.int true .i64 (0 : Int), SC.int true .i64 (0 : Int)] 82), (4409, SO.cells [SC.int true .i64 (0 : Int), SC.int true .i64 (0 : Int)] 82), (4418, SO.cells
 (first0_11) 77), (4419, SO.cells [SC.int true .i64 (0 : Int), SC.int true .i64 (0 : Int)] 82), (4480, SO.cells [ti .u64 (262148 : Int), SC.raw (Value.pointer none)] 199), (4508,
 SO.cells [SC.int true .u64 (0 : Int), SC.raw (Value.pointer none)] 199)] 4563) Scr.know)) ∧ True → Value.pointer none = Value.pointer none ∧ Value.pointer none = Value.pointer none
 ∧ Value.pointer none = Value.pointer none ∧ ([] : List (Int × Value)) = [] ∧ Value.pointer none = Value.pointer none ∧ (first0_9 X0 cap cap_24) ∧ True) (K (first0_4) (Mem.mk [(47,
 SO.cells [SC.int true .u64 (0 : Int), SC.raw (Value.pointer none)] 199), (51, SO.cells [SC.int true .u64 (0 : Int), SC.raw (Value.pointer none)] 199), (55, SO.cells [SC.int true
 .u64 (0 : Int), SC.raw (Value.pointer none)] 199), (57, SO.mp true []), (59, SO.cells (first0_3 cap cap_24) 204), (68, SO.cells [SC.int true .i64 (0 : Int), ti .i64 (1 : Int)] 82),
 (403, SO.cells (first0_6) 212), (484, SO.cells (first0_7) 212), (611, SO.cells (first0_8) 212), (738, SO.cells (first0_5) 212), (750, SO.row 197 1 4 cap [sp 403 0, sp 484 0, sp 611
 0, sp 738 0]), (932, SO.cells [SC.int true .u64 (0 : Int), sp 403 0] 199), (981, SO.cells (first0_16) 87), (3560, SO.row 29 1 4 cap_24 (first0_18)), (3569, SO.cells (first0_14) 75),
 (4191, SO.cells [SC.int true .u64 (0 : Int), SC.raw (Value.pointer none)] 199), (4195, SO.cells [ti .u64 (262148 : Int), SC.raw (Value.pointer none)] 199), (4199, SO.cells [SC.int
 true .u64 (0 : Int), SC.raw (Value.pointer none)] 199), (4201, SO.mp true []), (4203, SO.cells (first0_19) 204), (4215, SO.cells (first0_11) 77), (4216, SO.cells [SC.int true .i64
 (0 : Int), SC.int true .i64 (0 : Int)] 82), (4409, SO.cells [SC.int true .i64 (0 : Int), SC.int true .i64 (0 : Int)] 82), (4418, SO.cells (first0_11) 77), (4419, SO.cells [SC.int
 true .i64 (0 : Int), SC.int true .i64 (0 : Int)] 82), (4480, SO.cells [ti .u64 (262148 : Int), SC.raw (Value.pointer none)] 199), (4508, SO.cells [SC.int true .u64 (0 : Int), SC.raw
 (Value.pointer none)] 199)] 4563) Scr.know)) ∧ True) ∧ True) ∧ True) ∧ True) ∧ True) ∧ True) ∧ (∀ (K : KO XN), (fun X0 : Prop => Value.pointer none = Value.pointer none ∧
 Value.pointer none = Value.pointer none ∧ Value.pointer none = Value.pointer none ∧ Value.pointer none = Value.pointer none ∧ Value.pointer none = Value.pointer none ∧ Value.pointer
 none = Value.pointer none ∧ Value.pointer none = Value.pointer none ∧ Value.pointer none = Value.pointer none ∧ Value.pointer none = Value.pointer none ∧ (first0_17 X0) ∧ True →
 Value.pointer none = Value.pointer none ∧ Value.pointer none = Value.pointer none ∧ Value.pointer none = Value.pointer none ∧ Value.pointer none = Value.pointer none ∧ Value.pointer
 none = Value.pointer none ∧ Value.pointer none = Value.pointer none ∧ Value.pointer none = Value.pointer none ∧ Value.pointer none = Value.pointer none ∧ Value.pointer none =
 Value.pointer none ∧ (first0_17 X0) ∧ True) (K (SF.mk 110 (np 59 0 (nv (SV.c (SC.int true .i64 (1 : Int))) (nv (SV.c (ti .u64 (6 : Int))) (nu (nv (SV.c (SC.int true .i64 (1 : Int)))
 (np 376 3 (nv (SV.c (ti .i64 (0 : Int))) tn tn) nu0) (nv (SV.agg [SC.int true .u64 (0 : Int), SC.raw (Value.pointer none)]) (nv (SV.c (ti .i64 (0 : Int))) tn tn) tn)) (nv (SV.c (tb
 false)) (np 738 1 (nv (SV.c (ti .i64 (4 : Int))) tn tn) nu0) (nv (SV.c (ti .i64 (2 : Int))) nu0 tn))) (np 738 0 (np 51 0 (np 738 0 (np 611 5 tn tn) nu0) (nv (SV.c (ti .i64 (3 :
 Int))) (np 738 0 tn tn) tn)) (nv (SV.c (ti .i64 (3 : Int))) (np 738 0 (np 738 0 tn tn) nu0) (nv (SV.c (ti .i64 (3 : Int))) nu0 tn)))) (nu (np 385 0 (np 59 7 (nv (SV.c (ti .i64 (3 :
 Int))) (np 611 0 tn tn) nu0) (nv (SV.c (tb true)) (nv (SV.c (ti .u64 (6 : Int))) tn tn) tn)) (np 59 0 (np 738 0 (np 738 0 tn tn) nu0) (np 611 0 nu0 tn))) (nv (SV.c (ti .i64 (0 :
 Int))) (nv (SV.agg [SC.int true .u64 (0 : Int), SC.raw (Value.pointer none)]) (np 738 0 (np 611 1 tn tn) nu0) (nv (SV.c (ti .i64 (0 : Int))) nu0 tn)) (nv (SV.c (ti .i64 (3 : Int)))
 (np 738 5 (np 738 1 tn tn) nu0) (np 376 2 nu0 tn))))) (nv (SV.c (ti .i64 (0 : Int))) (nu (np 376 0 (np 59 0 (nv (SV.c (ti .i64 (0 : Int))) (np 738 0 tn tn) nu0) (nv (SV.c (ti .i64
 (3 : Int))) (nv (SV.c (ti .i64 (0 : Int))) tn tn) tn)) (nv (SV.c (ti .i64 (3 : Int))) (nv (SV.c (SC.int true .u64 (0 : Int))) (np 376 3 tn tn) nu0) (np 376 2 nu0 tn))) (nv (SV.c (ti
 .i64 (0 : Int))) (np 51 0 (nv (SV.c (ti .i64 (0 : Int))) (np 611 0 tn tn) nu0) (nv (SV.c (ti .i64 (2 : Int))) (np 738 1 tn tn) tn)) (np 738 0 (np 738 5 (np 738 0 tn tn) nu0) (nv
 (SV.c (ti .i64 (2 : Int))) nu0 tn)))) (nu (nv (SV.c (ti .i64 (3 : Int))) (np 59 8 (nv (SV.c (ti .i64 (0 : Int))) (np 611 5 tn tn) nu0) (nv (SV.c (ti .i64 (0 : Int))) (nv (SV.agg
 (first0_16)) tn tn) tn)) (nv (SV.agg [SC.int true .u64 (0 : Int), SC.raw (Value.pointer none)]) (nv (SV.c (ti .i64 (0 : Int))) (np 376 3 tn tn) nu0) (nv (SV.c (ti .i64 (0 : Int)))
 nu0 tn))) (np 59 0 (nv (SV.c (ti .i64 (4 : Int))) (np 738 1 (np 611 1 tn tn) nu0) (nv (SV.c (ti .i64 (3 : Int))) nu0 tn)) (np 738 0 (nv (SV.c (SC.raw (Value.pointer none))) (nv
 (SV.agg (first0_2)) tn tn) tn) (np 611 0 nu0 tn)))))) []) (Mem.mk [(47, SO.cells [SC.int true .u64 (0 : Int), SC.raw (Value.pointer none)] 199), (51, SO.cells [SC.int true .u64 (0 :
 Int), SC.raw (Value.pointer none)] 199), (55, SO.cells [SC.int true .u64 (0 : Int), SC.raw (Value.pointer none)] 199), (57, SO.mp true []), (59, SO.cells [SC.int true .u64 (0 :
 Int), SC.int true .i64 (0 : Int), SC.int true .u64 (0 : Int), SC.int true .i64 (0 : Int), SC.int true .i64 (0 : Int), SC.int true .u64 (0 : Int), SC.int true .i64 (0 : Int), sp 47
 0, sp 51 0, sp 55 0, SC.map 57, SC.sli 750 1 true 0 true 4 cap, SC.nls, SC.nls, SC.int true .u64 (0 : Int)] 204), (71, SO.cells [SC.int true .i64 (1 : Int), SC.int true .i64 (0 :
 Int), SC.int true .i64 (5 : Int), SC.int true .i64 (0 : Int)] 77), (72, SO.cells [SC.int true .i64 (0 : Int), SC.int true .i64 (0 : Int)] 82), (265, SO.cells [SC.int true .i64 (0 :
 Int), SC.int true .i64 (0 : Int)] 82), (274, SO.cells [SC.int true .i64 (1 : Int), SC.int true .i64 (0 : Int), SC.int true .i64 (5 : Int), SC.int true .i64 (0 : Int)] 77), (275,
 SO.cells [SC.int true .i64 (0 : Int), SC.int true .i64 (0 : Int)] 82), (376, SO.cells [sp 403 0, sp 484 0, sp 611 0, sp 738 0] 210), (385, SO.cells [SC.int true .u64 (0 : Int),
 SC.raw (Value.pointer none)] 199), (403, SO.cells (first0_6) 212), (484, SO.cells (first0_7) 212), (611, SO.cells (first0_8) 212), (738, SO.cells (first0_5) 212), (750, SO.row 197 1
 4 cap [sp 403 0, sp 484 0, sp 611 0, sp 738 0])] 901) Scr.know)) ∧ True) ∧ True) ∧ True) ∧ True) ∧ True) ∧ True) ∧ True) ∧ True) ∧ True) ∧ True) ∧ True) ∧ True) ∧ True) := by
  kernel_rfl
theorem first08_run  (hc : True) : Run (callN Try.prog (([] : List (Smry Try.prog XN)) : List (Smry Try.prog XN)) (fun _ t => Nat.beq t 999999) 300 30 40 [] ⟨[], 1⟩ (.know) (fun v _ _ => retTrue v)) := by
  constructor
  rw [first08_vc]
  delta first0_25 first0_1 first0_2 first0_3 first0_4 first0_5 first0_6 first0_7 first0_8 first0_20 first0_23 first0_16 first0_18 first0_26 first0_24 first0_22 first0_9 first0_10 first0_11 first0_12 first0_13 first0_14 first0_15 first0_17 first0_19 first0_21
  repeat' first
    | (refine fun (K : KO XN) => ?_; simp only [eq_self, true_and, and_true, imp_self, implies_true]; first | done | exact id; done)
    | with_reducible apply And.intro
    | with_reducible exact trivial
    | with_reducible exact Eq.refl _
    | intro _
  all_goals first | omega | with_reducible assumption
end Go.Proofs.Ytnkikhhiaecebaa
