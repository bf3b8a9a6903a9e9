/- The statements of layer 11: first answers true, by the executor over arenas that are known. -/
import Derived.Test.YtnfpkadepomjjaaSumGet
import Derived.Test.YtnfpkadepomjjaaSumDir
import Derived.Test.YtnfpkadepomjjaaBaseC
set_option linter.all false
namespace Go.Proofs.Ytnfpkadepomjjaa
open Go
set_option maxRecDepth 1000000
set_option maxHeartbeats 0
def tblPV : List (Smry Try.prog XP) := [usedP, counterS, slotS, wordS, fixedS, segS, rsegS, newP, layP, readP, writeP, addP, swapP, tallyP, faultsP]
/-- What the executor leaves to be shown, written out. -/
theorem first11_vc  : (callN Try.prog tblPV (fun _ n => Nat.beq n 999999) 100 20 40 [] ⟨[], 0⟩ .nil (fun v _ _ => retTrue v)) = (
    ((((((((((((((((((((((((((((((((((((((((true = true ∧ True) ∧ True) ∧ True) ∧ True) ∧ True) ∧ True) ∧ (∀ (K : KO XP), (((K (SF.mk (37 : Nat) (ST.node (SV.c (SC.ptr (1441 : Nat) (0 :
    Nat))) (ST.node (SV.tup []) (ST.node (SV.c (SC.ptr (1441 : Nat) (0 : Nat))) (ST.node (SV.c (SC.ptr (7 : Nat) (0 : Nat))) (ST.node (SV.c (SC.int true IntKind.i64 (0 : Int) Bd.any))
    (ST.node (SV.tup []) ST.nil ST.nil) ST.nil) (ST.node (SV.tup []) ST.nil ST.nil)) (ST.node (SV.c (SC.int true IntKind.i64 (1 : Int) (Bd.w (0 : Int) (7 : Int) (segG_bd._proof_4
    (Int.ofNat ((0 : Nat) + (1 : Nat))))))) (ST.node (SV.tup []) (ST.node (SV.tup []) ST.nil ST.nil) ST.nil) (ST.node (SV.tup []) ST.nil ST.nil))) (ST.node (SV.c (SC.ptr (1441 : Nat) (0
    : Nat))) (ST.node (SV.c (SC.ptr (1441 : Nat) (0 : Nat))) (ST.node (SV.c (SC.ptr (1441 : Nat) (3 : Nat))) (ST.node (SV.tup []) ST.nil ST.nil) ST.nil) (ST.node (SV.tup []) ST.nil
    ST.nil)) (ST.node (SV.tup [(false, [SC.int true IntKind.u64 (131074 : Int) Bd.any]), (false, [SC.int true IntKind.i64 (0 : Int) Bd.any])]) (ST.node (SV.tup []) ST.nil ST.nil)
    (ST.node (SV.tup []) ST.nil ST.nil)))) (ST.node (SV.tup [(false, [SC.int true IntKind.u64 (131074 : Int) Bd.any]), (false, [SC.int true IntKind.i64 (0 : Int) Bd.any])]) (ST.node
    (SV.c (SC.ptr (1441 : Nat) (0 : Nat))) (ST.node (SV.c (SC.ptr (1441 : Nat) (0 : Nat))) (ST.node (SV.c (SC.ptr (1441 : Nat) (0 : Nat))) (ST.node (SV.tup []) ST.nil ST.nil) ST.nil)
    (ST.node (SV.tup []) ST.nil ST.nil)) (ST.node (SV.agg [SC.int true IntKind.u64 (0 : Int), SC.int false IntKind.i64 (2 : Int) (Bd.w (1 : Int) (8 : Int) (fixed_bd._proof_2 (Int.ofNat
    ((0 : Nat) + (1 : Nat)))))]) (ST.node (SV.tup []) (ST.node (SV.tup []) ST.nil ST.nil) ST.nil) (ST.node (SV.tup []) ST.nil ST.nil))) (ST.node (SV.c (SC.ptr (1441 : Nat) (1 : Nat)))
    (ST.node (SV.c (SC.ptr (1441 : Nat) (5 : Nat))) (ST.node (SV.c (SC.ptr (1441 : Nat) (3 : Nat))) (ST.node (SV.tup []) ST.nil ST.nil) ST.nil) (ST.node (SV.tup []) ST.nil ST.nil))
    (ST.node (SV.c (SC.int true IntKind.u64 (131074 : Int) Bd.any)) (ST.node (SV.tup []) ST.nil ST.nil) (ST.node (SV.tup []) ST.nil ST.nil))))) []) (Mem.mk [((7 : Nat), SO.ext (HO.obj
    [] (PA.mk (99 : Nat) (21 : Nat) (21 : Nat) (0 : Nat) (2 : Nat) [(0 : Nat), (65537 : Nat), (131074 : Nat), (0 : Nat), (0 : Nat), (0 : Nat), (0 : Nat), (0 : Nat), (0 : Nat)] (2 : Nat)
    [(1 : Nat), (2 : Nat)] [] [((1 : Nat), (65537 : Nat), [(7 : Nat), (0 : Nat), (0 : Nat), (0 : Nat), (0 : Nat), (0 : Nat), (0 : Nat)]), ((2 : Nat), (131074 : Nat), [(7 : Nat), (0 :
    Nat), (0 : Nat), (0 : Nat), (0 : Nat), (0 : Nat), (0 : Nat), (0 : Nat), (0 : Nat), (0 : Nat), (0 : Nat), (0 : Nat), (0 : Nat), (0 : Nat)])] (Tly.mk ((1 : Nat) + (1 : Nat)) (0 : Nat)
    ((4 : Nat) + (1 : Nat)) (0 : Nat) ((5 : Nat) + (1 : Nat)) (0 : Nat))))), ((19 : Nat), SO.cells [SC.raw Value.nilFunc, SC.ptr (7 : Nat) (0 : Nat), SC.int true IntKind.u64 (7 : Int),
    SC.int true IntKind.u64 (65537 : Int) Bd.any, SC.int true IntKind.i64 (0 : Int), SC.int true IntKind.i64 (0 : Int) (Bd.w (0 : Int) (7 : Int) (segG_bd._proof_4 (Int.ofNat (0 :
    Nat)))), SC.int true IntKind.u64 (0 : Int), SC.boo true true, SC.int true IntKind.i64 (0 : Int)] (207 : Nat)), ((578 : Nat), SO.cells [SC.int true IntKind.u64 (65537 : Int) Bd.any,
    SC.int true IntKind.i64 (0 : Int)] (44 : Nat)), ((670 : Nat), SO.cells [SC.raw Value.nilFunc, SC.ptr (7 : Nat) (0 : Nat), SC.int true IntKind.u64 (7 : Int), SC.int true IntKind.u64
    (131074 : Int) Bd.any, SC.int true IntKind.i64 (1 : Int) Bd.any, SC.int true IntKind.i64 (1 : Int) (Bd.w (0 : Int) (7 : Int) (segG_bd._proof_4 (Int.ofNat ((0 : Nat) + (1 : Nat))))),
    SC.int true IntKind.u64 (0 : Int), SC.boo true true, SC.int true IntKind.i64 (0 : Int)] (207 : Nat)), ((1349 : Nat), SO.cells [SC.int true IntKind.u64 (131074 : Int) Bd.any, SC.int
    true IntKind.i64 (1 : Int) Bd.any] (44 : Nat)), ((1441 : Nat), SO.cells [SC.fn (Fn.func (184 : Nat)) [SC.ptr (1441 : Nat) (0 : Nat)] [], SC.ptr (7 : Nat) (0 : Nat), SC.int true
    IntKind.u64 (7 : Int), SC.int true IntKind.u64 (131074 : Int) Bd.any, SC.int true IntKind.i64 (1 : Int) Bd.any, SC.int true IntKind.i64 (1 : Int) (Bd.w (0 : Int) (7 : Int)
    (segG_bd._proof_4 (Int.ofNat ((0 : Nat) + (1 : Nat))))), SC.int true IntKind.u64 (0 : Int), SC.boo true false, SC.int true IntKind.i64 (0 : Int)] (207 : Nat))] (1674 : Nat)) Scr.nil
    ∧ True) ∧ True) ∧ True) ∧ True → (((K (SF.mk (37 : Nat) (ST.node (SV.c (SC.ptr (1441 : Nat) (0 : Nat))) (ST.node (SV.tup []) (ST.node (SV.c (SC.ptr (1441 : Nat) (0 : Nat))) (ST.node
    (SV.c (SC.ptr (7 : Nat) (0 : Nat))) (ST.node (SV.c (SC.int true IntKind.i64 (0 : Int) Bd.any)) (ST.node (SV.tup []) ST.nil ST.nil) ST.nil) (ST.node (SV.tup []) ST.nil ST.nil))
    (ST.node (SV.c (SC.int true IntKind.i64 (1 : Int) (Bd.w (0 : Int) (7 : Int) (segG_bd._proof_4 (Int.ofNat ((0 : Nat) + (1 : Nat))))))) (ST.node (SV.tup []) (ST.node (SV.tup [])
    ST.nil ST.nil) ST.nil) (ST.node (SV.tup []) ST.nil ST.nil))) (ST.node (SV.c (SC.ptr (1441 : Nat) (0 : Nat))) (ST.node (SV.c (SC.ptr (1441 : Nat) (0 : Nat))) (ST.node (SV.c (SC.ptr
    (1441 : Nat) (3 : Nat))) (ST.node (SV.tup []) ST.nil ST.nil) ST.nil) (ST.node (SV.tup []) ST.nil ST.nil)) (ST.node (SV.tup [(false, [SC.int true IntKind.u64 (131074 : Int) Bd.any]),
    (false, [SC.int true IntKind.i64 (0 : Int) Bd.any])]) (ST.node (SV.tup []) ST.nil ST.nil) (ST.node (SV.tup []) ST.nil ST.nil)))) (ST.node (SV.tup [(false, [SC.int true IntKind.u64
    (131074 : Int) Bd.any]), (false, [SC.int true IntKind.i64 (0 : Int) Bd.any])]) (ST.node (SV.c (SC.ptr (1441 : Nat) (0 : Nat))) (ST.node (SV.c (SC.ptr (1441 : Nat) (0 : Nat)))
    (ST.node (SV.c (SC.ptr (1441 : Nat) (0 : Nat))) (ST.node (SV.tup []) ST.nil ST.nil) ST.nil) (ST.node (SV.tup []) ST.nil ST.nil)) (ST.node (SV.agg [SC.int true IntKind.u64 (0 : Int),
    SC.int false IntKind.i64 (2 : Int) (Bd.w (1 : Int) (8 : Int) (fixed_bd._proof_2 (Int.ofNat ((0 : Nat) + (1 : Nat)))))]) (ST.node (SV.tup []) (ST.node (SV.tup []) ST.nil ST.nil)
    ST.nil) (ST.node (SV.tup []) ST.nil ST.nil))) (ST.node (SV.c (SC.ptr (1441 : Nat) (1 : Nat))) (ST.node (SV.c (SC.ptr (1441 : Nat) (5 : Nat))) (ST.node (SV.c (SC.ptr (1441 : Nat) (3
    : Nat))) (ST.node (SV.tup []) ST.nil ST.nil) ST.nil) (ST.node (SV.tup []) ST.nil ST.nil)) (ST.node (SV.c (SC.int true IntKind.u64 (131074 : Int) Bd.any)) (ST.node (SV.tup []) ST.nil
    ST.nil) (ST.node (SV.tup []) ST.nil ST.nil))))) []) (Mem.mk [((7 : Nat), SO.ext (HO.obj [] (PA.mk (99 : Nat) (21 : Nat) (21 : Nat) (0 : Nat) (2 : Nat) [(0 : Nat), (65537 : Nat),
    (131074 : Nat), (0 : Nat), (0 : Nat), (0 : Nat), (0 : Nat), (0 : Nat), (0 : Nat)] (2 : Nat) [(1 : Nat), (2 : Nat)] [] [((1 : Nat), (65537 : Nat), [(7 : Nat), (0 : Nat), (0 : Nat),
    (0 : Nat), (0 : Nat), (0 : Nat), (0 : Nat)]), ((2 : Nat), (131074 : Nat), [(7 : Nat), (0 : Nat), (0 : Nat), (0 : Nat), (0 : Nat), (0 : Nat), (0 : Nat), (0 : Nat), (0 : Nat), (0 :
    Nat), (0 : Nat), (0 : Nat), (0 : Nat), (0 : Nat)])] (Tly.mk ((1 : Nat) + (1 : Nat)) (0 : Nat) ((4 : Nat) + (1 : Nat)) (0 : Nat) ((5 : Nat) + (1 : Nat)) (0 : Nat))))), ((19 : Nat),
    SO.cells [SC.raw Value.nilFunc, SC.ptr (7 : Nat) (0 : Nat), SC.int true IntKind.u64 (7 : Int), SC.int true IntKind.u64 (65537 : Int) Bd.any, SC.int true IntKind.i64 (0 : Int),
    SC.int true IntKind.i64 (0 : Int) (Bd.w (0 : Int) (7 : Int) (segG_bd._proof_4 (Int.ofNat (0 : Nat)))), SC.int true IntKind.u64 (0 : Int), SC.boo true true, SC.int true IntKind.i64
    (0 : Int)] (207 : Nat)), ((578 : Nat), SO.cells [SC.int true IntKind.u64 (65537 : Int) Bd.any, SC.int true IntKind.i64 (0 : Int)] (44 : Nat)), ((670 : Nat), SO.cells [SC.raw
    Value.nilFunc, SC.ptr (7 : Nat) (0 : Nat), SC.int true IntKind.u64 (7 : Int), SC.int true IntKind.u64 (131074 : Int) Bd.any, SC.int true IntKind.i64 (1 : Int) Bd.any, SC.int true
    IntKind.i64 (1 : Int) (Bd.w (0 : Int) (7 : Int) (segG_bd._proof_4 (Int.ofNat ((0 : Nat) + (1 : Nat))))), SC.int true IntKind.u64 (0 : Int), SC.boo true true, SC.int true IntKind.i64
    (0 : Int)] (207 : Nat)), ((1349 : Nat), SO.cells [SC.int true IntKind.u64 (131074 : Int) Bd.any, SC.int true IntKind.i64 (1 : Int) Bd.any] (44 : Nat)), ((1441 : Nat), SO.cells
    [SC.fn (Fn.func (184 : Nat)) [SC.ptr (1441 : Nat) (0 : Nat)] [], SC.ptr (7 : Nat) (0 : Nat), SC.int true IntKind.u64 (7 : Int), SC.int true IntKind.u64 (131074 : Int) Bd.any, SC.int
    true IntKind.i64 (1 : Int) Bd.any, SC.int true IntKind.i64 (1 : Int) (Bd.w (0 : Int) (7 : Int) (segG_bd._proof_4 (Int.ofNat ((0 : Nat) + (1 : Nat))))), SC.int true IntKind.u64 (0 :
    Int), SC.boo true false, SC.int true IntKind.i64 (0 : Int)] (207 : Nat))] (1674 : Nat)) Scr.nil ∧ True) ∧ True) ∧ True) ∧ (∀ (K : KO XP), ((K (SF.mk (37 : Nat) (ST.node (SV.c
    (SC.ptr (1441 : Nat) (0 : Nat))) (ST.node (SV.tup []) (ST.node (SV.c (SC.ptr (1441 : Nat) (0 : Nat))) (ST.node (SV.c (SC.ptr (7 : Nat) (0 : Nat))) (ST.node (SV.c (SC.int true
    IntKind.i64 (0 : Int) Bd.any)) (ST.node (SV.tup []) ST.nil ST.nil) ST.nil) (ST.node (SV.tup []) ST.nil ST.nil)) (ST.node (SV.c (SC.int true IntKind.i64 (1 : Int) (Bd.w (0 : Int) (7
    : Int) (segG_bd._proof_4 (Int.ofNat ((0 : Nat) + (1 : Nat))))))) (ST.node (SV.tup []) (ST.node (SV.tup []) ST.nil ST.nil) ST.nil) (ST.node (SV.tup []) ST.nil ST.nil))) (ST.node
    (SV.c (SC.ptr (1441 : Nat) (0 : Nat))) (ST.node (SV.c (SC.ptr (1441 : Nat) (0 : Nat))) (ST.node (SV.c (SC.ptr (1441 : Nat) (3 : Nat))) (ST.node (SV.tup []) ST.nil ST.nil) ST.nil)
    (ST.node (SV.tup []) ST.nil ST.nil)) (ST.node (SV.tup [(false, [SC.int true IntKind.u64 (131074 : Int) Bd.any]), (false, [SC.int true IntKind.i64 (0 : Int) Bd.any])]) (ST.node
    (SV.tup []) ST.nil ST.nil) (ST.node (SV.tup []) ST.nil ST.nil)))) (ST.node (SV.tup [(false, [SC.int true IntKind.u64 (131074 : Int) Bd.any]), (false, [SC.int true IntKind.i64 (0 :
    Int) Bd.any])]) (ST.node (SV.c (SC.ptr (1441 : Nat) (0 : Nat))) (ST.node (SV.c (SC.ptr (1441 : Nat) (0 : Nat))) (ST.node (SV.c (SC.ptr (1441 : Nat) (0 : Nat))) (ST.node (SV.tup [])
    ST.nil ST.nil) ST.nil) (ST.node (SV.tup []) ST.nil ST.nil)) (ST.node (SV.agg [SC.int true IntKind.u64 (0 : Int), SC.int false IntKind.i64 (2 : Int) (Bd.w (1 : Int) (8 : Int)
    (fixed_bd._proof_2 (Int.ofNat ((0 : Nat) + (1 : Nat)))))]) (ST.node (SV.tup []) (ST.node (SV.tup []) ST.nil ST.nil) ST.nil) (ST.node (SV.tup []) ST.nil ST.nil))) (ST.node (SV.c
    (SC.ptr (1441 : Nat) (1 : Nat))) (ST.node (SV.c (SC.ptr (1441 : Nat) (5 : Nat))) (ST.node (SV.c (SC.ptr (1441 : Nat) (3 : Nat))) (ST.node (SV.tup []) ST.nil ST.nil) ST.nil) (ST.node
    (SV.tup []) ST.nil ST.nil)) (ST.node (SV.c (SC.int true IntKind.u64 (131074 : Int) Bd.any)) (ST.node (SV.tup []) ST.nil ST.nil) (ST.node (SV.tup []) ST.nil ST.nil))))) []) (Mem.mk
    [((7 : Nat), SO.ext (HO.obj [] (PA.mk (99 : Nat) (21 : Nat) (21 : Nat) (0 : Nat) (2 : Nat) [(0 : Nat), (65537 : Nat), (131074 : Nat), (0 : Nat), (0 : Nat), (0 : Nat), (0 : Nat), (0
    : Nat), (0 : Nat)] (2 : Nat) [(1 : Nat), (2 : Nat)] [] [((1 : Nat), (65537 : Nat), [(7 : Nat), (0 : Nat), (0 : Nat), (0 : Nat), (0 : Nat), (0 : Nat), (0 : Nat)]), ((2 : Nat),
    (131074 : Nat), [(7 : Nat), (0 : Nat), (0 : Nat), (0 : Nat), (0 : Nat), (0 : Nat), (0 : Nat), (0 : Nat), (0 : Nat), (0 : Nat), (0 : Nat), (0 : Nat), (0 : Nat), (0 : Nat)])] (Tly.mk
    ((1 : Nat) + (1 : Nat)) (0 : Nat) ((4 : Nat) + (1 : Nat)) (0 : Nat) ((5 : Nat) + (1 : Nat)) (0 : Nat))))), ((19 : Nat), SO.cells [SC.raw Value.nilFunc, SC.ptr (7 : Nat) (0 : Nat),
    SC.int true IntKind.u64 (7 : Int), SC.int true IntKind.u64 (65537 : Int) Bd.any, SC.int true IntKind.i64 (0 : Int), SC.int true IntKind.i64 (0 : Int) (Bd.w (0 : Int) (7 : Int)
    (segG_bd._proof_4 (Int.ofNat (0 : Nat)))), SC.int true IntKind.u64 (0 : Int), SC.boo true true, SC.int true IntKind.i64 (0 : Int)] (207 : Nat)), ((578 : Nat), SO.cells [SC.int true
    IntKind.u64 (65537 : Int) Bd.any, SC.int true IntKind.i64 (0 : Int)] (44 : Nat)), ((670 : Nat), SO.cells [SC.raw Value.nilFunc, SC.ptr (7 : Nat) (0 : Nat), SC.int true IntKind.u64
    (7 : Int), SC.int true IntKind.u64 (131074 : Int) Bd.any, SC.int true IntKind.i64 (1 : Int) Bd.any, SC.int true IntKind.i64 (1 : Int) (Bd.w (0 : Int) (7 : Int) (segG_bd._proof_4
    (Int.ofNat ((0 : Nat) + (1 : Nat))))), SC.int true IntKind.u64 (0 : Int), SC.boo true true, SC.int true IntKind.i64 (0 : Int)] (207 : Nat)), ((1349 : Nat), SO.cells [SC.int true
    IntKind.u64 (131074 : Int) Bd.any, SC.int true IntKind.i64 (1 : Int) Bd.any] (44 : Nat)), ((1441 : Nat), SO.cells [SC.fn (Fn.func (184 : Nat)) [SC.ptr (1441 : Nat) (0 : Nat)] [],
    SC.ptr (7 : Nat) (0 : Nat), SC.int true IntKind.u64 (7 : Int), SC.int true IntKind.u64 (131074 : Int) Bd.any, SC.int true IntKind.i64 (1 : Int) Bd.any, SC.int true IntKind.i64 (1 :
    Int) (Bd.w (0 : Int) (7 : Int) (segG_bd._proof_4 (Int.ofNat ((0 : Nat) + (1 : Nat))))), SC.int true IntKind.u64 (0 : Int), SC.boo true false, SC.int true IntKind.i64 (0 : Int)] (207
    : Nat))] (1674 : Nat)) Scr.nil ∧ True) ∧ True) ∧ True → ((K (SF.mk (37 : Nat) (ST.node (SV.c (SC.ptr (1441 : Nat) (0 : Nat))) (ST.node (SV.tup []) (ST.node (SV.c (SC.ptr (1441 :
    Nat) (0 : Nat))) (ST.node (SV.c (SC.ptr (7 : Nat) (0 : Nat))) (ST.node (SV.c (SC.int true IntKind.i64 (0 : Int) Bd.any)) (ST.node (SV.tup []) ST.nil ST.nil) ST.nil) (ST.node (SV.tup
    []) ST.nil ST.nil)) (ST.node (SV.c (SC.int true IntKind.i64 (1 : Int) (Bd.w (0 : Int) (7 : Int) (segG_bd._proof_4 (Int.ofNat ((0 : Nat) + (1 : Nat))))))) (ST.node (SV.tup [])
    (ST.node (SV.tup []) ST.nil ST.nil) ST.nil) (ST.node (SV.tup []) ST.nil ST.nil))) (ST.node (SV.c (SC.ptr (1441 : Nat) (0 : Nat))) (ST.node (SV.c (SC.ptr (1441 : Nat) (0 : Nat)))
    (ST.node (SV.c (SC.ptr (1441 : Nat) (3 : Nat))) (ST.node (SV.tup []) ST.nil ST.nil) ST.nil) (ST.node (SV.tup []) ST.nil ST.nil)) (ST.node (SV.tup [(false, [SC.int true IntKind.u64
    (131074 : Int) Bd.any]), (false, [SC.int true IntKind.i64 (0 : Int) Bd.any])]) (ST.node (SV.tup []) ST.nil ST.nil) (ST.node (SV.tup []) ST.nil ST.nil)))) (ST.node (SV.tup [(false,
    [SC.int true IntKind.u64 (131074 : Int) Bd.any]), (false, [SC.int true IntKind.i64 (0 : Int) Bd.any])]) (ST.node (SV.c (SC.ptr (1441 : Nat) (0 : Nat))) (ST.node (SV.c (SC.ptr (1441
    : Nat) (0 : Nat))) (ST.node (SV.c (SC.ptr (1441 : Nat) (0 : Nat))) (ST.node (SV.tup []) ST.nil ST.nil) ST.nil) (ST.node (SV.tup []) ST.nil ST.nil)) (ST.node (SV.agg [SC.int true
    IntKind.u64 (0 : Int), SC.int false IntKind.i64 (2 : Int) (Bd.w (1 : Int) (8 : Int) (fixed_bd._proof_2 (Int.ofNat ((0 : Nat) + (1 : Nat)))))]) (ST.node (SV.tup []) (ST.node (SV.tup
    []) ST.nil ST.nil) ST.nil) (ST.node (SV.tup []) ST.nil ST.nil))) (ST.node (SV.c (SC.ptr (1441 : Nat) (1 : Nat))) (ST.node (SV.c (SC.ptr (1441 : Nat) (5 : Nat))) (ST.node (SV.c
    (SC.ptr (1441 : Nat) (3 : Nat))) (ST.node (SV.tup []) ST.nil ST.nil) ST.nil) (ST.node (SV.tup []) ST.nil ST.nil)) (ST.node (SV.c (SC.int true IntKind.u64 (131074 : Int) Bd.any))
    (ST.node (SV.tup []) ST.nil ST.nil) (ST.node (SV.tup []) ST.nil ST.nil))))) []) (Mem.mk [((7 : Nat), SO.ext (HO.obj [] (PA.mk (99 : Nat) (21 : Nat) (21 : Nat) (0 : Nat) (2 : Nat)
    [(0 : Nat), (65537 : Nat), (131074 : Nat), (0 : Nat), (0 : Nat), (0 : Nat), (0 : Nat), (0 : Nat), (0 : Nat)] (2 : Nat) [(1 : Nat), (2 : Nat)] [] [((1 : Nat), (65537 : Nat), [(7 :
    Nat), (0 : Nat), (0 : Nat), (0 : Nat), (0 : Nat), (0 : Nat), (0 : Nat)]), ((2 : Nat), (131074 : Nat), [(7 : Nat), (0 : Nat), (0 : Nat), (0 : Nat), (0 : Nat), (0 : Nat), (0 : Nat),
    (0 : Nat), (0 : Nat), (0 : Nat), (0 : Nat), (0 : Nat), (0 : Nat), (0 : Nat)])] (Tly.mk ((1 : Nat) + (1 : Nat)) (0 : Nat) ((4 : Nat) + (1 : Nat)) (0 : Nat) ((5 : Nat) + (1 : Nat)) (0
    : Nat))))), ((19 : Nat), SO.cells [SC.raw Value.nilFunc, SC.ptr (7 : Nat) (0 : Nat), SC.int true IntKind.u64 (7 : Int), SC.int true IntKind.u64 (65537 : Int) Bd.any, SC.int true
    IntKind.i64 (0 : Int), SC.int true IntKind.i64 (0 : Int) (Bd.w (0 : Int) (7 : Int) (segG_bd._proof_4 (Int.ofNat (0 : Nat)))), SC.int true IntKind.u64 (0 : Int), SC.boo true true,
    SC.int true IntKind.i64 (0 : Int)] (207 : Nat)), ((578 : Nat), SO.cells [SC.int true IntKind.u64 (65537 : Int) Bd.any, SC.int true IntKind.i64 (0 : Int)] (44 : Nat)), ((670 : Nat),
    SO.cells [SC.raw Value.nilFunc, SC.ptr (7 : Nat) (0 : Nat), SC.int true IntKind.u64 (7 : Int), SC.int true IntKind.u64 (131074 : Int) Bd.any, SC.int true IntKind.i64 (1 : Int)
    Bd.any, SC.int true IntKind.i64 (1 : Int) (Bd.w (0 : Int) (7 : Int) (segG_bd._proof_4 (Int.ofNat ((0 : Nat) + (1 : Nat))))), SC.int true IntKind.u64 (0 : Int), SC.boo true true,
    SC.int true IntKind.i64 (0 : Int)] (207 : Nat)), ((1349 : Nat), SO.cells [SC.int true IntKind.u64 (131074 : Int) Bd.any, SC.int true IntKind.i64 (1 : Int) Bd.any] (44 : Nat)),
    ((1441 : Nat), SO.cells [SC.fn (Fn.func (184 : Nat)) [SC.ptr (1441 : Nat) (0 : Nat)] [], SC.ptr (7 : Nat) (0 : Nat), SC.int true IntKind.u64 (7 : Int), SC.int true IntKind.u64
    (131074 : Int) Bd.any, SC.int true IntKind.i64 (1 : Int) Bd.any, SC.int true IntKind.i64 (1 : Int) (Bd.w (0 : Int) (7 : Int) (segG_bd._proof_4 (Int.ofNat ((0 : Nat) + (1 : Nat))))),
    SC.int true IntKind.u64 (0 : Int), SC.boo true false, SC.int true IntKind.i64 (0 : Int)] (207 : Nat))] (1674 : Nat)) Scr.nil ∧ True) ∧ True) ∧ True) ∧ True) ∧ True) ∧ True) ∧ True)
    ∧ True) ∧ True) ∧ True) ∧ (∀ (K : KO XP), (((K (SF.mk (37 : Nat) (ST.node (SV.c (SC.ptr (1441 : Nat) (0 : Nat))) (ST.node (SV.tup []) (ST.node (SV.c (SC.ptr (1441 : Nat) (0 : Nat)))
    (ST.node (SV.c (SC.ptr (7 : Nat) (0 : Nat))) (ST.node (SV.c (SC.int true IntKind.i64 (0 : Int) Bd.any)) (ST.node (SV.tup []) ST.nil ST.nil) ST.nil) (ST.node (SV.tup []) ST.nil
    ST.nil)) (ST.node (SV.c (SC.int true IntKind.i64 (0 : Int) (Bd.w (0 : Int) (7 : Int) (segG_bd._proof_4 (Int.ofNat (0 : Nat)))))) (ST.node (SV.tup []) (ST.node (SV.tup []) ST.nil
    ST.nil) ST.nil) (ST.node (SV.tup []) ST.nil ST.nil))) (ST.node (SV.c (SC.ptr (1441 : Nat) (0 : Nat))) (ST.node (SV.c (SC.ptr (1441 : Nat) (0 : Nat))) (ST.node (SV.c (SC.ptr (1441 :
    Nat) (3 : Nat))) (ST.node (SV.tup []) ST.nil ST.nil) ST.nil) (ST.node (SV.tup []) ST.nil ST.nil)) (ST.node (SV.tup [(false, [SC.int true IntKind.u64 (65537 : Int) Bd.any]), (false,
    [SC.int true IntKind.i64 (0 : Int) Bd.any])]) (ST.node (SV.tup []) ST.nil ST.nil) (ST.node (SV.tup []) ST.nil ST.nil)))) (ST.node (SV.tup [(false, [SC.int true IntKind.u64 (65537 :
    Int) Bd.any]), (false, [SC.int true IntKind.i64 (0 : Int) Bd.any])]) (ST.node (SV.c (SC.ptr (1441 : Nat) (0 : Nat))) (ST.node (SV.c (SC.ptr (1441 : Nat) (0 : Nat))) (ST.node (SV.c
    (SC.ptr (1441 : Nat) (0 : Nat))) (ST.node (SV.tup []) ST.nil ST.nil) ST.nil) (ST.node (SV.tup []) ST.nil ST.nil)) (ST.node (SV.agg [SC.int true IntKind.u64 (0 : Int), SC.int false
    IntKind.i64 (1 : Int) (Bd.w (1 : Int) (8 : Int) (fixed_bd._proof_2 (Int.ofNat (0 : Nat))))]) (ST.node (SV.tup []) (ST.node (SV.tup []) ST.nil ST.nil) ST.nil) (ST.node (SV.tup [])
    ST.nil ST.nil))) (ST.node (SV.c (SC.ptr (1441 : Nat) (1 : Nat))) (ST.node (SV.c (SC.ptr (1441 : Nat) (5 : Nat))) (ST.node (SV.c (SC.ptr (1441 : Nat) (3 : Nat))) (ST.node (SV.tup [])
    ST.nil ST.nil) ST.nil) (ST.node (SV.tup []) ST.nil ST.nil)) (ST.node (SV.c (SC.int true IntKind.u64 (65537 : Int) Bd.any)) (ST.node (SV.tup []) ST.nil ST.nil) (ST.node (SV.tup [])
    ST.nil ST.nil))))) []) (Mem.mk [((7 : Nat), SO.ext (HO.obj [] (PA.mk (99 : Nat) (21 : Nat) (21 : Nat) (0 : Nat) (2 : Nat) [(0 : Nat), (65537 : Nat), (131074 : Nat), (0 : Nat), (0 :
    Nat), (0 : Nat), (0 : Nat), (0 : Nat), (0 : Nat)] (2 : Nat) [(1 : Nat), (2 : Nat)] [] [((1 : Nat), (65537 : Nat), [(7 : Nat), (0 : Nat), (0 : Nat), (0 : Nat), (0 : Nat), (0 : Nat),
    (0 : Nat)]), ((2 : Nat), (131074 : Nat), [(7 : Nat), (0 : Nat), (0 : Nat), (0 : Nat), (0 : Nat), (0 : Nat), (0 : Nat), (0 : Nat), (0 : Nat), (0 : Nat), (0 : Nat), (0 : Nat), (0 :
    Nat), (0 : Nat)])] (Tly.mk ((1 : Nat) + (1 : Nat)) (0 : Nat) ((3 : Nat) + (1 : Nat)) (0 : Nat) ((4 : Nat) + (1 : Nat)) (0 : Nat))))), ((19 : Nat), SO.cells [SC.raw Value.nilFunc,
    SC.ptr (7 : Nat) (0 : Nat), SC.int true IntKind.u64 (7 : Int), SC.int true IntKind.u64 (65537 : Int) Bd.any, SC.int true IntKind.i64 (0 : Int), SC.int true IntKind.i64 (0 : Int)
    (Bd.w (0 : Int) (7 : Int) (segG_bd._proof_4 (Int.ofNat (0 : Nat)))), SC.int true IntKind.u64 (0 : Int), SC.boo true true, SC.int true IntKind.i64 (0 : Int)] (207 : Nat)), ((578 :
    Nat), SO.cells [SC.int true IntKind.u64 (65537 : Int) Bd.any, SC.int true IntKind.i64 (0 : Int)] (44 : Nat)), ((670 : Nat), SO.cells [SC.raw Value.nilFunc, SC.ptr (7 : Nat) (0 :
    Nat), SC.int true IntKind.u64 (7 : Int), SC.int true IntKind.u64 (131074 : Int) Bd.any, SC.int true IntKind.i64 (1 : Int) Bd.any, SC.int true IntKind.i64 (1 : Int) (Bd.w (0 : Int)
    (7 : Int) (segG_bd._proof_4 (Int.ofNat ((0 : Nat) + (1 : Nat))))), SC.int true IntKind.u64 (0 : Int), SC.boo true true, SC.int true IntKind.i64 (0 : Int)] (207 : Nat)), ((1349 :
    Nat), SO.cells [SC.int true IntKind.u64 (131074 : Int) Bd.any, SC.int true IntKind.i64 (1 : Int) Bd.any] (44 : Nat)), ((1441 : Nat), SO.cells [SC.fn (Fn.func (184 : Nat)) [SC.ptr
    (1441 : Nat) (0 : Nat)] [], SC.ptr (7 : Nat) (0 : Nat), SC.int true IntKind.u64 (7 : Int), SC.int true IntKind.u64 (65537 : Int) Bd.any, SC.int true IntKind.i64 (0 : Int), SC.int
    true IntKind.i64 (0 : Int) (Bd.w (0 : Int) (7 : Int) (segG_bd._proof_4 (Int.ofNat (0 : Nat)))), SC.int true IntKind.u64 (0 : Int), SC.boo true false, SC.int true IntKind.i64 (0 :
    Int)] (207 : Nat))] (1522 : Nat)) Scr.nil ∧ True) ∧ True) ∧ True) ∧ True → (((K (SF.mk (37 : Nat) (ST.node (SV.c (SC.ptr (1441 : Nat) (0 : Nat))) (ST.node (SV.tup []) (ST.node (SV.c
    (SC.ptr (1441 : Nat) (0 : Nat))) (ST.node (SV.c (SC.ptr (7 : Nat) (0 : Nat))) (ST.node (SV.c (SC.int true IntKind.i64 (0 : Int) Bd.any)) (ST.node (SV.tup []) ST.nil ST.nil) ST.nil)
    (ST.node (SV.tup []) ST.nil ST.nil)) (ST.node (SV.c (SC.int true IntKind.i64 (0 : Int) (Bd.w (0 : Int) (7 : Int) (segG_bd._proof_4 (Int.ofNat (0 : Nat)))))) (ST.node (SV.tup [])
    (ST.node (SV.tup []) ST.nil ST.nil) ST.nil) (ST.node (SV.tup []) ST.nil ST.nil))) (ST.node (SV.c (SC.ptr (1441 : Nat) (0 : Nat))) (ST.node (SV.c (SC.ptr (1441 : Nat) (0 : Nat)))
    (ST.node (SV.c (SC.ptr (1441 : Nat) (3 : Nat))) (ST.node (SV.tup []) ST.nil ST.nil) ST.nil) (ST.node (SV.tup []) ST.nil ST.nil)) (ST.node (SV.tup [(false, [SC.int true IntKind.u64
    (65537 : Int) Bd.any]), (false, [SC.int true IntKind.i64 (0 : Int) Bd.any])]) (ST.node (SV.tup []) ST.nil ST.nil) (ST.node (SV.tup []) ST.nil ST.nil)))) (ST.node (SV.tup [(false,
    [SC.int true IntKind.u64 (65537 : Int) Bd.any]), (false, [SC.int true IntKind.i64 (0 : Int) Bd.any])]) (ST.node (SV.c (SC.ptr (1441 : Nat) (0 : Nat))) (ST.node (SV.c (SC.ptr (1441 :
    Nat) (0 : Nat))) (ST.node (SV.c (SC.ptr (1441 : Nat) (0 : Nat))) (ST.node (SV.tup []) ST.nil ST.nil) ST.nil) (ST.node (SV.tup []) ST.nil ST.nil)) (ST.node (SV.agg [SC.int true
    IntKind.u64 (0 : Int), SC.int false IntKind.i64 (1 : Int) (Bd.w (1 : Int) (8 : Int) (fixed_bd._proof_2 (Int.ofNat (0 : Nat))))]) (ST.node (SV.tup []) (ST.node (SV.tup []) ST.nil
    ST.nil) ST.nil) (ST.node (SV.tup []) ST.nil ST.nil))) (ST.node (SV.c (SC.ptr (1441 : Nat) (1 : Nat))) (ST.node (SV.c (SC.ptr (1441 : Nat) (5 : Nat))) (ST.node (SV.c (SC.ptr (1441 :
    Nat) (3 : Nat))) (ST.node (SV.tup []) ST.nil ST.nil) ST.nil) (ST.node (SV.tup []) ST.nil ST.nil)) (ST.node (SV.c (SC.int true IntKind.u64 (65537 : Int) Bd.any)) (ST.node (SV.tup [])
    ST.nil ST.nil) (ST.node (SV.tup []) ST.nil ST.nil))))) []) (Mem.mk [((7 : Nat), SO.ext (HO.obj [] (PA.mk (99 : Nat) (21 : Nat) (21 : Nat) (0 : Nat) (2 : Nat) [(0 : Nat), (65537 :
    Nat), (131074 : Nat), (0 : Nat), (0 : Nat), (0 : Nat), (0 : Nat), (0 : Nat), (0 : Nat)] (2 : Nat) [(1 : Nat), (2 : Nat)] [] [((1 : Nat), (65537 : Nat), [(7 : Nat), (0 : Nat), (0 :
    Nat), (0 : Nat), (0 : Nat), (0 : Nat), (0 : Nat)]), ((2 : Nat), (131074 : Nat), [(7 : Nat), (0 : Nat), (0 : Nat), (0 : Nat), (0 : Nat), (0 : Nat), (0 : Nat), (0 : Nat), (0 : Nat),
    (0 : Nat), (0 : Nat), (0 : Nat), (0 : Nat), (0 : Nat)])] (Tly.mk ((1 : Nat) + (1 : Nat)) (0 : Nat) ((3 : Nat) + (1 : Nat)) (0 : Nat) ((4 : Nat) + (1 : Nat)) (0 : Nat))))), ((19 :
    Nat), SO.cells [SC.raw Value.nilFunc, SC.ptr (7 : Nat) (0 : Nat), SC.int true IntKind.u64 (7 : Int), SC.int true IntKind.u64 (65537 : Int) Bd.any, SC.int true IntKind.i64 (0 : Int),
    SC.int true IntKind.i64 (0 : Int) (Bd.w (0 : Int) (7 : Int) (segG_bd._proof_4 (Int.ofNat (0 : Nat)))), SC.int true IntKind.u64 (0 : Int), SC.boo true true, SC.int true IntKind.i64
    (0 : Int)] (207 : Nat)), ((578 : Nat), SO.cells [SC.int true IntKind.u64 (65537 : Int) Bd.any, SC.int true IntKind.i64 (0 : Int)] (44 : Nat)), ((670 : Nat), SO.cells [SC.raw
    Value.nilFunc, SC.ptr (7 : Nat) (0 : Nat), SC.int true IntKind.u64 (7 : Int), SC.int true IntKind.u64 (131074 : Int) Bd.any, SC.int true IntKind.i64 (1 : Int) Bd.any, SC.int true
    IntKind.i64 (1 : Int) (Bd.w (0 : Int) (7 : Int) (segG_bd._proof_4 (Int.ofNat ((0 : Nat) + (1 : Nat))))), SC.int true IntKind.u64 (0 : Int), SC.boo true true, SC.int true IntKind.i64
    (0 : Int)] (207 : Nat)), ((1349 : Nat), SO.cells [SC.int true IntKind.u64 (131074 : Int) Bd.any, SC.int true IntKind.i64 (1 : Int) Bd.any] (44 : Nat)), ((1441 : Nat), SO.cells
    [SC.fn (Fn.func (184 : Nat)) [SC.ptr (1441 : Nat) (0 : Nat)] [], SC.ptr (7 : Nat) (0 : Nat), SC.int true IntKind.u64 (7 : Int), SC.int true IntKind.u64 (65537 : Int) Bd.any, SC.int
    true IntKind.i64 (0 : Int), SC.int true IntKind.i64 (0 : Int) (Bd.w (0 : Int) (7 : Int) (segG_bd._proof_4 (Int.ofNat (0 : Nat)))), SC.int true IntKind.u64 (0 : Int), SC.boo true
    false, SC.int true IntKind.i64 (0 : Int)] (207 : Nat))] (1522 : Nat)) Scr.nil ∧ True) ∧ True) ∧ True) ∧ (∀ (K : KO XP), ((K (SF.mk (37 : Nat) (ST.node (SV.c (SC.ptr (1441 : Nat) (0
    : Nat))) (ST.node (SV.tup []) (ST.node (SV.c (SC.ptr (1441 : Nat) (0 : Nat))) (ST.node (SV.c (SC.ptr (7 : Nat) (0 : Nat))) (ST.node (SV.c (SC.int true IntKind.i64 (0 : Int) Bd.any))
    (ST.node (SV.tup []) ST.nil ST.nil) ST.nil) (ST.node (SV.tup []) ST.nil ST.nil)) (ST.node (SV.c (SC.int true IntKind.i64 (0 : Int) (Bd.w (0 : Int) (7 : Int) (segG_bd._proof_4
    (Int.ofNat (0 : Nat)))))) (ST.node (SV.tup []) (ST.node (SV.tup []) ST.nil ST.nil) ST.nil) (ST.node (SV.tup []) ST.nil ST.nil))) (ST.node (SV.c (SC.ptr (1441 : Nat) (0 : Nat)))
    (ST.node (SV.c (SC.ptr (1441 : Nat) (0 : Nat))) (ST.node (SV.c (SC.ptr (1441 : Nat) (3 : Nat))) (ST.node (SV.tup []) ST.nil ST.nil) ST.nil) (ST.node (SV.tup []) ST.nil ST.nil))
    (ST.node (SV.tup [(false, [SC.int true IntKind.u64 (65537 : Int) Bd.any]), (false, [SC.int true IntKind.i64 (0 : Int) Bd.any])]) (ST.node (SV.tup []) ST.nil ST.nil) (ST.node (SV.tup
    []) ST.nil ST.nil)))) (ST.node (SV.tup [(false, [SC.int true IntKind.u64 (65537 : Int) Bd.any]), (false, [SC.int true IntKind.i64 (0 : Int) Bd.any])]) (ST.node (SV.c (SC.ptr (1441 :
    Nat) (0 : Nat))) (ST.node (SV.c (SC.ptr (1441 : Nat) (0 : Nat))) (ST.node (SV.c (SC.ptr (1441 : Nat) (0 : Nat))) (ST.node (SV.tup []) ST.nil ST.nil) ST.nil) (ST.node (SV.tup [])
    ST.nil ST.nil)) (ST.node (SV.agg [SC.int true IntKind.u64 (0 : Int), SC.int false IntKind.i64 (1 : Int) (Bd.w (1 : Int) (8 : Int) (fixed_bd._proof_2 (Int.ofNat (0 : Nat))))])
    (ST.node (SV.tup []) (ST.node (SV.tup []) ST.nil ST.nil) ST.nil) (ST.node (SV.tup []) ST.nil ST.nil))) (ST.node (SV.c (SC.ptr (1441 : Nat) (1 : Nat))) (ST.node (SV.c (SC.ptr (1441 :
    Nat) (5 : Nat))) (ST.node (SV.c (SC.ptr (1441 : Nat) (3 : Nat))) (ST.node (SV.tup []) ST.nil ST.nil) ST.nil) (ST.node (SV.tup []) ST.nil ST.nil)) (ST.node (SV.c (SC.int true
    IntKind.u64 (65537 : Int) Bd.any)) (ST.node (SV.tup []) ST.nil ST.nil) (ST.node (SV.tup []) ST.nil ST.nil))))) []) (Mem.mk [((7 : Nat), SO.ext (HO.obj [] (PA.mk (99 : Nat) (21 :
    Nat) (21 : Nat) (0 : Nat) (2 : Nat) [(0 : Nat), (65537 : Nat), (131074 : Nat), (0 : Nat), (0 : Nat), (0 : Nat), (0 : Nat), (0 : Nat), (0 : Nat)] (2 : Nat) [(1 : Nat), (2 : Nat)] []
    [((1 : Nat), (65537 : Nat), [(7 : Nat), (0 : Nat), (0 : Nat), (0 : Nat), (0 : Nat), (0 : Nat), (0 : Nat)]), ((2 : Nat), (131074 : Nat), [(7 : Nat), (0 : Nat), (0 : Nat), (0 : Nat),
    (0 : Nat), (0 : Nat), (0 : Nat), (0 : Nat), (0 : Nat), (0 : Nat), (0 : Nat), (0 : Nat), (0 : Nat), (0 : Nat)])] (Tly.mk ((1 : Nat) + (1 : Nat)) (0 : Nat) ((3 : Nat) + (1 : Nat)) (0
    : Nat) ((4 : Nat) + (1 : Nat)) (0 : Nat))))), ((19 : Nat), SO.cells [SC.raw Value.nilFunc, SC.ptr (7 : Nat) (0 : Nat), SC.int true IntKind.u64 (7 : Int), SC.int true IntKind.u64
    (65537 : Int) Bd.any, SC.int true IntKind.i64 (0 : Int), SC.int true IntKind.i64 (0 : Int) (Bd.w (0 : Int) (7 : Int) (segG_bd._proof_4 (Int.ofNat (0 : Nat)))), SC.int true
    IntKind.u64 (0 : Int), SC.boo true true, SC.int true IntKind.i64 (0 : Int)] (207 : Nat)), ((578 : Nat), SO.cells [SC.int true IntKind.u64 (65537 : Int) Bd.any, SC.int true
    IntKind.i64 (0 : Int)] (44 : Nat)), ((670 : Nat), SO.cells [SC.raw Value.nilFunc, SC.ptr (7 : Nat) (0 : Nat), SC.int true IntKind.u64 (7 : Int), SC.int true IntKind.u64 (131074 :
    Int) Bd.any, SC.int true IntKind.i64 (1 : Int) Bd.any, SC.int true IntKind.i64 (1 : Int) (Bd.w (0 : Int) (7 : Int) (segG_bd._proof_4 (Int.ofNat ((0 : Nat) + (1 : Nat))))), SC.int
    true IntKind.u64 (0 : Int), SC.boo true true, SC.int true IntKind.i64 (0 : Int)] (207 : Nat)), ((1349 : Nat), SO.cells [SC.int true IntKind.u64 (131074 : Int) Bd.any, SC.int true
    IntKind.i64 (1 : Int) Bd.any] (44 : Nat)), ((1441 : Nat), SO.cells [SC.fn (Fn.func (184 : Nat)) [SC.ptr (1441 : Nat) (0 : Nat)] [], SC.ptr (7 : Nat) (0 : Nat), SC.int true
    IntKind.u64 (7 : Int), SC.int true IntKind.u64 (65537 : Int) Bd.any, SC.int true IntKind.i64 (0 : Int), SC.int true IntKind.i64 (0 : Int) (Bd.w (0 : Int) (7 : Int) (segG_bd._proof_4
    (Int.ofNat (0 : Nat)))), SC.int true IntKind.u64 (0 : Int), SC.boo true false, SC.int true IntKind.i64 (0 : Int)] (207 : Nat))] (1522 : Nat)) Scr.nil ∧ True) ∧ True) ∧ True → ((K
    (SF.mk (37 : Nat) (ST.node (SV.c (SC.ptr (1441 : Nat) (0 : Nat))) (ST.node (SV.tup []) (ST.node (SV.c (SC.ptr (1441 : Nat) (0 : Nat))) (ST.node (SV.c (SC.ptr (7 : Nat) (0 : Nat)))
    (ST.node (SV.c (SC.int true IntKind.i64 (0 : Int) Bd.any)) (ST.node (SV.tup []) ST.nil ST.nil) ST.nil) (ST.node (SV.tup []) ST.nil ST.nil)) (ST.node (SV.c (SC.int true IntKind.i64
    (0 : Int) (Bd.w (0 : Int) (7 : Int) (segG_bd._proof_4 (Int.ofNat (0 : Nat)))))) (ST.node (SV.tup []) (ST.node (SV.tup []) ST.nil ST.nil) ST.nil) (ST.node (SV.tup []) ST.nil
    ST.nil))) (ST.node (SV.c (SC.ptr (1441 : Nat) (0 : Nat))) (ST.node (SV.c (SC.ptr (1441 : Nat) (0 : Nat))) (ST.node (SV.c (SC.ptr (1441 : Nat) (3 : Nat))) (ST.node (SV.tup []) ST.nil
    ST.nil) ST.nil) (ST.node (SV.tup []) ST.nil ST.nil)) (ST.node (SV.tup [(false, [SC.int true IntKind.u64 (65537 : Int) Bd.any]), (false, [SC.int true IntKind.i64 (0 : Int) Bd.any])])
    (ST.node (SV.tup []) ST.nil ST.nil) (ST.node (SV.tup []) ST.nil ST.nil)))) (ST.node (SV.tup [(false, [SC.int true IntKind.u64 (65537 : Int) Bd.any]), (false, [SC.int true
    IntKind.i64 (0 : Int) Bd.any])]) (ST.node (SV.c (SC.ptr (1441 : Nat) (0 : Nat))) (ST.node (SV.c (SC.ptr (1441 : Nat) (0 : Nat))) (ST.node (SV.c (SC.ptr (1441 : Nat) (0 : Nat)))
    (ST.node (SV.tup []) ST.nil ST.nil) ST.nil) (ST.node (SV.tup []) ST.nil ST.nil)) (ST.node (SV.agg [SC.int true IntKind.u64 (0 : Int), SC.int false IntKind.i64 (1 : Int) (Bd.w (1 :
    Int) (8 : Int) (fixed_bd._proof_2 (Int.ofNat (0 : Nat))))]) (ST.node (SV.tup []) (ST.node (SV.tup []) ST.nil ST.nil) ST.nil) (ST.node (SV.tup []) ST.nil ST.nil))) (ST.node (SV.c
    (SC.ptr (1441 : Nat) (1 : Nat))) (ST.node (SV.c (SC.ptr (1441 : Nat) (5 : Nat))) (ST.node (SV.c (SC.ptr (1441 : Nat) (3 : Nat))) (ST.node (SV.tup []) ST.nil ST.nil) ST.nil) (ST.node
    (SV.tup []) ST.nil ST.nil)) (ST.node (SV.c (SC.int true IntKind.u64 (65537 : Int) Bd.any)) (ST.node (SV.tup []) ST.nil ST.nil) (ST.node (SV.tup []) ST.nil ST.nil))))) []) (Mem.mk
    [((7 : Nat), SO.ext (HO.obj [] (PA.mk (99 : Nat) (21 : Nat) (21 : Nat) (0 : Nat) (2 : Nat) [(0 : Nat), (65537 : Nat), (131074 : Nat), (0 : Nat), (0 : Nat), (0 : Nat), (0 : Nat), (0
    : Nat), (0 : Nat)] (2 : Nat) [(1 : Nat), (2 : Nat)] [] [((1 : Nat), (65537 : Nat), [(7 : Nat), (0 : Nat), (0 : Nat), (0 : Nat), (0 : Nat), (0 : Nat), (0 : Nat)]), ((2 : Nat),
    (131074 : Nat), [(7 : Nat), (0 : Nat), (0 : Nat), (0 : Nat), (0 : Nat), (0 : Nat), (0 : Nat), (0 : Nat), (0 : Nat), (0 : Nat), (0 : Nat), (0 : Nat), (0 : Nat), (0 : Nat)])] (Tly.mk
    ((1 : Nat) + (1 : Nat)) (0 : Nat) ((3 : Nat) + (1 : Nat)) (0 : Nat) ((4 : Nat) + (1 : Nat)) (0 : Nat))))), ((19 : Nat), SO.cells [SC.raw Value.nilFunc, SC.ptr (7 : Nat) (0 : Nat),
    SC.int true IntKind.u64 (7 : Int), SC.int true IntKind.u64 (65537 : Int) Bd.any, SC.int true IntKind.i64 (0 : Int), SC.int true IntKind.i64 (0 : Int) (Bd.w (0 : Int) (7 : Int)
    (segG_bd._proof_4 (Int.ofNat (0 : Nat)))), SC.int true IntKind.u64 (0 : Int), SC.boo true true, SC.int true IntKind.i64 (0 : Int)] (207 : Nat)), ((578 : Nat), SO.cells [SC.int true
    IntKind.u64 (65537 : Int) Bd.any, SC.int true IntKind.i64 (0 : Int)] (44 : Nat)), ((670 : Nat), SO.cells [SC.raw Value.nilFunc, SC.ptr (7 : Nat) (0 : Nat), SC.int true IntKind.u64
    (7 : Int), SC.int true IntKind.u64 (131074 : Int) Bd.any, SC.int true IntKind.i64 (1 : Int) Bd.any, SC.int true IntKind.i64 (1 : Int) (Bd.w (0 : Int) (7 : Int) (segG_bd._proof_4
    (Int.ofNat ((0 : Nat) + (1 : Nat))))), SC.int true IntKind.u64 (0 : Int), SC.boo true true, SC.int true IntKind.i64 (0 : Int)] (207 : Nat)), ((1349 : Nat), SO.cells [SC.int true
    IntKind.u64 (131074 : Int) Bd.any, SC.int true IntKind.i64 (1 : Int) Bd.any] (44 : Nat)), ((1441 : Nat), SO.cells [SC.fn (Fn.func (184 : Nat)) [SC.ptr (1441 : Nat) (0 : Nat)] [],
    SC.ptr (7 : Nat) (0 : Nat), SC.int true IntKind.u64 (7 : Int), SC.int true IntKind.u64 (65537 : Int) Bd.any, SC.int true IntKind.i64 (0 : Int), SC.int true IntKind.i64 (0 : Int)
    (Bd.w (0 : Int) (7 : Int) (segG_bd._proof_4 (Int.ofNat (0 : Nat)))), SC.int true IntKind.u64 (0 : Int), SC.boo true false, SC.int true IntKind.i64 (0 : Int)] (207 : Nat))] (1522 :
    Nat)) Scr.nil ∧ True) ∧ True) ∧ True) ∧ True) ∧ True) ∧ True) ∧ True) ∧ True) ∧ True) ∧ True) ∧ True) ∧ True) ∧ True) ∧ True) ∧ True) ∧ (∀ (K : KO XP), (((K (SF.mk (37 : Nat)
    (ST.node (SV.c (SC.ptr (670 : Nat) (0 : Nat))) (ST.node (SV.tup []) (ST.node (SV.c (SC.ptr (670 : Nat) (0 : Nat))) (ST.node (SV.c (SC.ptr (7 : Nat) (0 : Nat))) (ST.node (SV.c
    (SC.int true IntKind.i64 (0 : Int) Bd.any)) (ST.node (SV.tup []) ST.nil ST.nil) ST.nil) (ST.node (SV.tup []) ST.nil ST.nil)) (ST.node (SV.c (SC.int true IntKind.i64 (1 : Int) (Bd.w
    (0 : Int) (7 : Int) (segG_bd._proof_4 (Int.ofNat ((0 : Nat) + (1 : Nat))))))) (ST.node (SV.tup []) (ST.node (SV.tup []) ST.nil ST.nil) ST.nil) (ST.node (SV.tup []) ST.nil ST.nil)))
    (ST.node (SV.c (SC.ptr (670 : Nat) (0 : Nat))) (ST.node (SV.c (SC.ptr (670 : Nat) (0 : Nat))) (ST.node (SV.c (SC.ptr (670 : Nat) (3 : Nat))) (ST.node (SV.tup []) ST.nil ST.nil)
    ST.nil) (ST.node (SV.tup []) ST.nil ST.nil)) (ST.node (SV.tup [(false, [SC.int true IntKind.u64 (0 : Int) Bd.any]), (false, [SC.int true IntKind.i64 (0 : Int) Bd.any])]) (ST.node
    (SV.tup []) ST.nil ST.nil) (ST.node (SV.tup []) ST.nil ST.nil)))) (ST.node (SV.tup [(false, [SC.int true IntKind.u64 (0 : Int) Bd.any]), (false, [SC.int true IntKind.i64 (0 : Int)
    Bd.any])]) (ST.node (SV.c (SC.ptr (670 : Nat) (0 : Nat))) (ST.node (SV.c (SC.ptr (670 : Nat) (0 : Nat))) (ST.node (SV.c (SC.ptr (670 : Nat) (0 : Nat))) (ST.node (SV.tup []) ST.nil
    ST.nil) ST.nil) (ST.node (SV.tup []) ST.nil ST.nil)) (ST.node (SV.agg [SC.int true IntKind.u64 (0 : Int), SC.int false IntKind.i64 (2 : Int) (Bd.w (1 : Int) (8 : Int)
    (fixed_bd._proof_2 (Int.ofNat ((0 : Nat) + (1 : Nat)))))]) (ST.node (SV.tup []) (ST.node (SV.tup []) ST.nil ST.nil) ST.nil) (ST.node (SV.tup []) ST.nil ST.nil))) (ST.node (SV.c
    (SC.ptr (670 : Nat) (1 : Nat))) (ST.node (SV.c (SC.ptr (670 : Nat) (5 : Nat))) (ST.node (SV.c (SC.ptr (670 : Nat) (3 : Nat))) (ST.node (SV.tup []) ST.nil ST.nil) ST.nil) (ST.node
    (SV.tup []) ST.nil ST.nil)) (ST.node (SV.c (SC.int true IntKind.u64 (0 : Int) Bd.any)) (ST.node (SV.tup []) ST.nil ST.nil) (ST.node (SV.tup []) ST.nil ST.nil))))) []) (Mem.mk [((7 :
    Nat), SO.ext (HO.obj [] (PA.mk (99 : Nat) (7 : Nat) (7 : Nat) (0 : Nat) (1 : Nat) [(0 : Nat), (65537 : Nat), (0 : Nat), (0 : Nat), (0 : Nat), (0 : Nat), (0 : Nat), (0 : Nat), (0 :
    Nat)] (1 : Nat) [(1 : Nat)] [] [((1 : Nat), (65537 : Nat), [(7 : Nat), (0 : Nat), (0 : Nat), (0 : Nat), (0 : Nat), (0 : Nat), (0 : Nat)])] (Tly.mk ((0 : Nat) + (1 : Nat)) (0 : Nat)
    ((2 : Nat) + (1 : Nat)) (0 : Nat) ((2 : Nat) + (1 : Nat)) (0 : Nat))))), ((19 : Nat), SO.cells [SC.raw Value.nilFunc, SC.ptr (7 : Nat) (0 : Nat), SC.int true IntKind.u64 (7 : Int),
    SC.int true IntKind.u64 (65537 : Int) Bd.any, SC.int true IntKind.i64 (0 : Int), SC.int true IntKind.i64 (0 : Int) (Bd.w (0 : Int) (7 : Int) (segG_bd._proof_4 (Int.ofNat (0 :
    Nat)))), SC.int true IntKind.u64 (0 : Int), SC.boo true true, SC.int true IntKind.i64 (0 : Int)] (207 : Nat)), ((578 : Nat), SO.cells [SC.int true IntKind.u64 (65537 : Int) Bd.any,
    SC.int true IntKind.i64 (0 : Int)] (44 : Nat)), ((670 : Nat), SO.cells [SC.fn (Fn.func (184 : Nat)) [SC.ptr (670 : Nat) (0 : Nat)] [], SC.ptr (7 : Nat) (0 : Nat), SC.int true
    IntKind.u64 (7 : Int), SC.int true IntKind.u64 (0 : Int) Bd.any, SC.int true IntKind.i64 (1 : Int) Bd.any, SC.int true IntKind.i64 (1 : Int) (Bd.w (0 : Int) (7 : Int)
    (segG_bd._proof_4 (Int.ofNat ((0 : Nat) + (1 : Nat))))), SC.int true IntKind.u64 (0 : Int), SC.boo true false, SC.int true IntKind.i64 (0 : Int)] (207 : Nat))] (903 : Nat)) Scr.nil
    ∧ True) ∧ True) ∧ True) ∧ True → (((K (SF.mk (37 : Nat) (ST.node (SV.c (SC.ptr (670 : Nat) (0 : Nat))) (ST.node (SV.tup []) (ST.node (SV.c (SC.ptr (670 : Nat) (0 : Nat))) (ST.node
    (SV.c (SC.ptr (7 : Nat) (0 : Nat))) (ST.node (SV.c (SC.int true IntKind.i64 (0 : Int) Bd.any)) (ST.node (SV.tup []) ST.nil ST.nil) ST.nil) (ST.node (SV.tup []) ST.nil ST.nil))
    (ST.node (SV.c (SC.int true IntKind.i64 (1 : Int) (Bd.w (0 : Int) (7 : Int) (segG_bd._proof_4 (Int.ofNat ((0 : Nat) + (1 : Nat))))))) (ST.node (SV.tup []) (ST.node (SV.tup [])
    ST.nil ST.nil) ST.nil) (ST.node (SV.tup []) ST.nil ST.nil))) (ST.node (SV.c (SC.ptr (670 : Nat) (0 : Nat))) (ST.node (SV.c (SC.ptr (670 : Nat) (0 : Nat))) (ST.node (SV.c (SC.ptr
    (670 : Nat) (3 : Nat))) (ST.node (SV.tup []) ST.nil ST.nil) ST.nil) (ST.node (SV.tup []) ST.nil ST.nil)) (ST.node (SV.tup [(false, [SC.int true IntKind.u64 (0 : Int) Bd.any]),
    (false, [SC.int true IntKind.i64 (0 : Int) Bd.any])]) (ST.node (SV.tup []) ST.nil ST.nil) (ST.node (SV.tup []) ST.nil ST.nil)))) (ST.node (SV.tup [(false, [SC.int true IntKind.u64
    (0 : Int) Bd.any]), (false, [SC.int true IntKind.i64 (0 : Int) Bd.any])]) (ST.node (SV.c (SC.ptr (670 : Nat) (0 : Nat))) (ST.node (SV.c (SC.ptr (670 : Nat) (0 : Nat))) (ST.node
    (SV.c (SC.ptr (670 : Nat) (0 : Nat))) (ST.node (SV.tup []) ST.nil ST.nil) ST.nil) (ST.node (SV.tup []) ST.nil ST.nil)) (ST.node (SV.agg [SC.int true IntKind.u64 (0 : Int), SC.int
    false IntKind.i64 (2 : Int) (Bd.w (1 : Int) (8 : Int) (fixed_bd._proof_2 (Int.ofNat ((0 : Nat) + (1 : Nat)))))]) (ST.node (SV.tup []) (ST.node (SV.tup []) ST.nil ST.nil) ST.nil)
    (ST.node (SV.tup []) ST.nil ST.nil))) (ST.node (SV.c (SC.ptr (670 : Nat) (1 : Nat))) (ST.node (SV.c (SC.ptr (670 : Nat) (5 : Nat))) (ST.node (SV.c (SC.ptr (670 : Nat) (3 : Nat)))
    (ST.node (SV.tup []) ST.nil ST.nil) ST.nil) (ST.node (SV.tup []) ST.nil ST.nil)) (ST.node (SV.c (SC.int true IntKind.u64 (0 : Int) Bd.any)) (ST.node (SV.tup []) ST.nil ST.nil)
    (ST.node (SV.tup []) ST.nil ST.nil))))) []) (Mem.mk [((7 : Nat), SO.ext (HO.obj [] (PA.mk (99 : Nat) (7 : Nat) (7 : Nat) (0 : Nat) (1 : Nat) [(0 : Nat), (65537 : Nat), (0 : Nat), (0
    : Nat), (0 : Nat), (0 : Nat), (0 : Nat), (0 : Nat), (0 : Nat)] (1 : Nat) [(1 : Nat)] [] [((1 : Nat), (65537 : Nat), [(7 : Nat), (0 : Nat), (0 : Nat), (0 : Nat), (0 : Nat), (0 :
    Nat), (0 : Nat)])] (Tly.mk ((0 : Nat) + (1 : Nat)) (0 : Nat) ((2 : Nat) + (1 : Nat)) (0 : Nat) ((2 : Nat) + (1 : Nat)) (0 : Nat))))), ((19 : Nat), SO.cells [SC.raw Value.nilFunc,
    SC.ptr (7 : Nat) (0 : Nat), SC.int true IntKind.u64 (7 : Int), SC.int true IntKind.u64 (65537 : Int) Bd.any, SC.int true IntKind.i64 (0 : Int), SC.int true IntKind.i64 (0 : Int)
    (Bd.w (0 : Int) (7 : Int) (segG_bd._proof_4 (Int.ofNat (0 : Nat)))), SC.int true IntKind.u64 (0 : Int), SC.boo true true, SC.int true IntKind.i64 (0 : Int)] (207 : Nat)), ((578 :
    Nat), SO.cells [SC.int true IntKind.u64 (65537 : Int) Bd.any, SC.int true IntKind.i64 (0 : Int)] (44 : Nat)), ((670 : Nat), SO.cells [SC.fn (Fn.func (184 : Nat)) [SC.ptr (670 : Nat)
    (0 : Nat)] [], SC.ptr (7 : Nat) (0 : Nat), SC.int true IntKind.u64 (7 : Int), SC.int true IntKind.u64 (0 : Int) Bd.any, SC.int true IntKind.i64 (1 : Int) Bd.any, SC.int true
    IntKind.i64 (1 : Int) (Bd.w (0 : Int) (7 : Int) (segG_bd._proof_4 (Int.ofNat ((0 : Nat) + (1 : Nat))))), SC.int true IntKind.u64 (0 : Int), SC.boo true false, SC.int true
    IntKind.i64 (0 : Int)] (207 : Nat))] (903 : Nat)) Scr.nil ∧ True) ∧ True) ∧ True) ∧ (∀ (K : KO XP), ((K (SF.mk (37 : Nat) (ST.node (SV.c (SC.ptr (670 : Nat) (0 : Nat))) (ST.node
    (SV.tup []) (ST.node (SV.c (SC.ptr (670 : Nat) (0 : Nat))) (ST.node (SV.c (SC.ptr (7 : Nat) (0 : Nat))) (ST.node (SV.c (SC.int true IntKind.i64 (0 : Int) Bd.any)) (ST.node (SV.tup
    []) ST.nil ST.nil) ST.nil) (ST.node (SV.tup []) ST.nil ST.nil)) (ST.node (SV.c (SC.int true IntKind.i64 (1 : Int) (Bd.w (0 : Int) (7 : Int) (segG_bd._proof_4 (Int.ofNat ((0 : Nat) +
    (1 : Nat))))))) (ST.node (SV.tup []) (ST.node (SV.tup []) ST.nil ST.nil) ST.nil) (ST.node (SV.tup []) ST.nil ST.nil))) (ST.node (SV.c (SC.ptr (670 : Nat) (0 : Nat))) (ST.node (SV.c
    (SC.ptr (670 : Nat) (0 : Nat))) (ST.node (SV.c (SC.ptr (670 : Nat) (3 : Nat))) (ST.node (SV.tup []) ST.nil ST.nil) ST.nil) (ST.node (SV.tup []) ST.nil ST.nil)) (ST.node (SV.tup
    [(false, [SC.int true IntKind.u64 (0 : Int) Bd.any]), (false, [SC.int true IntKind.i64 (0 : Int) Bd.any])]) (ST.node (SV.tup []) ST.nil ST.nil) (ST.node (SV.tup []) ST.nil
    ST.nil)))) (ST.node (SV.tup [(false, [SC.int true IntKind.u64 (0 : Int) Bd.any]), (false, [SC.int true IntKind.i64 (0 : Int) Bd.any])]) (ST.node (SV.c (SC.ptr (670 : Nat) (0 :
    Nat))) (ST.node (SV.c (SC.ptr (670 : Nat) (0 : Nat))) (ST.node (SV.c (SC.ptr (670 : Nat) (0 : Nat))) (ST.node (SV.tup []) ST.nil ST.nil) ST.nil) (ST.node (SV.tup []) ST.nil ST.nil))
    (ST.node (SV.agg [SC.int true IntKind.u64 (0 : Int), SC.int false IntKind.i64 (2 : Int) (Bd.w (1 : Int) (8 : Int) (fixed_bd._proof_2 (Int.ofNat ((0 : Nat) + (1 : Nat)))))]) (ST.node
    (SV.tup []) (ST.node (SV.tup []) ST.nil ST.nil) ST.nil) (ST.node (SV.tup []) ST.nil ST.nil))) (ST.node (SV.c (SC.ptr (670 : Nat) (1 : Nat))) (ST.node (SV.c (SC.ptr (670 : Nat) (5 :
    Nat))) (ST.node (SV.c (SC.ptr (670 : Nat) (3 : Nat))) (ST.node (SV.tup []) ST.nil ST.nil) ST.nil) (ST.node (SV.tup []) ST.nil ST.nil)) (ST.node (SV.c (SC.int true IntKind.u64 (0 :
    Int) Bd.any)) (ST.node (SV.tup []) ST.nil ST.nil) (ST.node (SV.tup []) ST.nil ST.nil))))) []) (Mem.mk [((7 : Nat), SO.ext (HO.obj [] (PA.mk (99 : Nat) (7 : Nat) (7 : Nat) (0 : Nat)
    (1 : Nat) [(0 : Nat), (65537 : Nat), (0 : Nat), (0 : Nat), (0 : Nat), (0 : Nat), (0 : Nat), (0 : Nat), (0 : Nat)] (1 : Nat) [(1 : Nat)] [] [((1 : Nat), (65537 : Nat), [(7 : Nat), (0
    : Nat), (0 : Nat), (0 : Nat), (0 : Nat), (0 : Nat), (0 : Nat)])] (Tly.mk ((0 : Nat) + (1 : Nat)) (0 : Nat) ((2 : Nat) + (1 : Nat)) (0 : Nat) ((2 : Nat) + (1 : Nat)) (0 : Nat))))),
    ((19 : Nat), SO.cells [SC.raw Value.nilFunc, SC.ptr (7 : Nat) (0 : Nat), SC.int true IntKind.u64 (7 : Int), SC.int true IntKind.u64 (65537 : Int) Bd.any, SC.int true IntKind.i64 (0
    : Int), SC.int true IntKind.i64 (0 : Int) (Bd.w (0 : Int) (7 : Int) (segG_bd._proof_4 (Int.ofNat (0 : Nat)))), SC.int true IntKind.u64 (0 : Int), SC.boo true true, SC.int true
    IntKind.i64 (0 : Int)] (207 : Nat)), ((578 : Nat), SO.cells [SC.int true IntKind.u64 (65537 : Int) Bd.any, SC.int true IntKind.i64 (0 : Int)] (44 : Nat)), ((670 : Nat), SO.cells
    [SC.fn (Fn.func (184 : Nat)) [SC.ptr (670 : Nat) (0 : Nat)] [], SC.ptr (7 : Nat) (0 : Nat), SC.int true IntKind.u64 (7 : Int), SC.int true IntKind.u64 (0 : Int) Bd.any, SC.int true
    IntKind.i64 (1 : Int) Bd.any, SC.int true IntKind.i64 (1 : Int) (Bd.w (0 : Int) (7 : Int) (segG_bd._proof_4 (Int.ofNat ((0 : Nat) + (1 : Nat))))), SC.int true IntKind.u64 (0 : Int),
    SC.boo true false, SC.int true IntKind.i64 (0 : Int)] (207 : Nat))] (903 : Nat)) Scr.nil ∧ True) ∧ True) ∧ True → ((K (SF.mk (37 : Nat) (ST.node (SV.c (SC.ptr (670 : Nat) (0 :
    Nat))) (ST.node (SV.tup []) (ST.node (SV.c (SC.ptr (670 : Nat) (0 : Nat))) (ST.node (SV.c (SC.ptr (7 : Nat) (0 : Nat))) (ST.node (SV.c (SC.int true IntKind.i64 (0 : Int) Bd.any))
    (ST.node (SV.tup []) ST.nil ST.nil) ST.nil) (ST.node (SV.tup []) ST.nil ST.nil)) (ST.node (SV.c (SC.int true IntKind.i64 (1 : Int) (Bd.w (0 : Int) (7 : Int) (segG_bd._proof_4
    (Int.ofNat ((0 : Nat) + (1 : Nat))))))) (ST.node (SV.tup []) (ST.node (SV.tup []) ST.nil ST.nil) ST.nil) (ST.node (SV.tup []) ST.nil ST.nil))) (ST.node (SV.c (SC.ptr (670 : Nat) (0
    : Nat))) (ST.node (SV.c (SC.ptr (670 : Nat) (0 : Nat))) (ST.node (SV.c (SC.ptr (670 : Nat) (3 : Nat))) (ST.node (SV.tup []) ST.nil ST.nil) ST.nil) (ST.node (SV.tup []) ST.nil
    ST.nil)) (ST.node (SV.tup [(false, [SC.int true IntKind.u64 (0 : Int) Bd.any]), (false, [SC.int true IntKind.i64 (0 : Int) Bd.any])]) (ST.node (SV.tup []) ST.nil ST.nil) (ST.node
    (SV.tup []) ST.nil ST.nil)))) (ST.node (SV.tup [(false, [SC.int true IntKind.u64 (0 : Int) Bd.any]), (false, [SC.int true IntKind.i64 (0 : Int) Bd.any])]) (ST.node (SV.c (SC.ptr
    (670 : Nat) (0 : Nat))) (ST.node (SV.c (SC.ptr (670 : Nat) (0 : Nat))) (ST.node (SV.c (SC.ptr (670 : Nat) (0 : Nat))) (ST.node (SV.tup []) ST.nil ST.nil) ST.nil) (ST.node (SV.tup
    []) ST.nil ST.nil)) (ST.node (SV.agg [SC.int true IntKind.u64 (0 : Int), SC.int false IntKind.i64 (2 : Int) (Bd.w (1 : Int) (8 : Int) (fixed_bd._proof_2 (Int.ofNat ((0 : Nat) + (1 :
    Nat)))))]) (ST.node (SV.tup []) (ST.node (SV.tup []) ST.nil ST.nil) ST.nil) (ST.node (SV.tup []) ST.nil ST.nil))) (ST.node (SV.c (SC.ptr (670 : Nat) (1 : Nat))) (ST.node (SV.c
    (SC.ptr (670 : Nat) (5 : Nat))) (ST.node (SV.c (SC.ptr (670 : Nat) (3 : Nat))) (ST.node (SV.tup []) ST.nil ST.nil) ST.nil) (ST.node (SV.tup []) ST.nil ST.nil)) (ST.node (SV.c
    (SC.int true IntKind.u64 (0 : Int) Bd.any)) (ST.node (SV.tup []) ST.nil ST.nil) (ST.node (SV.tup []) ST.nil ST.nil))))) []) (Mem.mk [((7 : Nat), SO.ext (HO.obj [] (PA.mk (99 : Nat)
    (7 : Nat) (7 : Nat) (0 : Nat) (1 : Nat) [(0 : Nat), (65537 : Nat), (0 : Nat), (0 : Nat), (0 : Nat), (0 : Nat), (0 : Nat), (0 : Nat), (0 : Nat)] (1 : Nat) [(1 : Nat)] [] [((1 : Nat),
    (65537 : Nat), [(7 : Nat), (0 : Nat), (0 : Nat), (0 : Nat), (0 : Nat), (0 : Nat), (0 : Nat)])] (Tly.mk ((0 : Nat) + (1 : Nat)) (0 : Nat) ((2 : Nat) + (1 : Nat)) (0 : Nat) ((2 : Nat)
    + (1 : Nat)) (0 : Nat))))), ((19 : Nat), SO.cells [SC.raw Value.nilFunc, SC.ptr (7 : Nat) (0 : Nat), SC.int true IntKind.u64 (7 : Int), SC.int true IntKind.u64 (65537 : Int) Bd.any,
    SC.int true IntKind.i64 (0 : Int), SC.int true IntKind.i64 (0 : Int) (Bd.w (0 : Int) (7 : Int) (segG_bd._proof_4 (Int.ofNat (0 : Nat)))), SC.int true IntKind.u64 (0 : Int), SC.boo
    true true, SC.int true IntKind.i64 (0 : Int)] (207 : Nat)), ((578 : Nat), SO.cells [SC.int true IntKind.u64 (65537 : Int) Bd.any, SC.int true IntKind.i64 (0 : Int)] (44 : Nat)),
    ((670 : Nat), SO.cells [SC.fn (Fn.func (184 : Nat)) [SC.ptr (670 : Nat) (0 : Nat)] [], SC.ptr (7 : Nat) (0 : Nat), SC.int true IntKind.u64 (7 : Int), SC.int true IntKind.u64 (0 :
    Int) Bd.any, SC.int true IntKind.i64 (1 : Int) Bd.any, SC.int true IntKind.i64 (1 : Int) (Bd.w (0 : Int) (7 : Int) (segG_bd._proof_4 (Int.ofNat ((0 : Nat) + (1 : Nat))))), SC.int
    true IntKind.u64 (0 : Int), SC.boo true false, SC.int true IntKind.i64 (0 : Int)] (207 : Nat))] (903 : Nat)) Scr.nil ∧ True) ∧ True) ∧ True) ∧ True) ∧ True) ∧ True) ∧ True) ∧ True)
    ∧ True) ∧ True) ∧ (∀ (K : KO XP), (((K (SF.mk (37 : Nat) (ST.node (SV.c (SC.ptr (670 : Nat) (0 : Nat))) (ST.node (SV.tup []) (ST.node (SV.c (SC.ptr (670 : Nat) (0 : Nat))) (ST.node
    (SV.c (SC.ptr (7 : Nat) (0 : Nat))) (ST.node (SV.c (SC.int true IntKind.i64 (0 : Int) Bd.any)) (ST.node (SV.tup []) ST.nil ST.nil) ST.nil) (ST.node (SV.tup []) ST.nil ST.nil))
    (ST.node (SV.c (SC.int true IntKind.i64 (0 : Int) (Bd.w (0 : Int) (7 : Int) (segG_bd._proof_4 (Int.ofNat (0 : Nat)))))) (ST.node (SV.tup []) (ST.node (SV.tup []) ST.nil ST.nil)
    ST.nil) (ST.node (SV.tup []) ST.nil ST.nil))) (ST.node (SV.c (SC.ptr (670 : Nat) (0 : Nat))) (ST.node (SV.c (SC.ptr (670 : Nat) (0 : Nat))) (ST.node (SV.c (SC.ptr (670 : Nat) (3 :
    Nat))) (ST.node (SV.tup []) ST.nil ST.nil) ST.nil) (ST.node (SV.tup []) ST.nil ST.nil)) (ST.node (SV.tup [(false, [SC.int true IntKind.u64 (65537 : Int) Bd.any]), (false, [SC.int
    true IntKind.i64 (0 : Int) Bd.any])]) (ST.node (SV.tup []) ST.nil ST.nil) (ST.node (SV.tup []) ST.nil ST.nil)))) (ST.node (SV.tup [(false, [SC.int true IntKind.u64 (65537 : Int)
    Bd.any]), (false, [SC.int true IntKind.i64 (0 : Int) Bd.any])]) (ST.node (SV.c (SC.ptr (670 : Nat) (0 : Nat))) (ST.node (SV.c (SC.ptr (670 : Nat) (0 : Nat))) (ST.node (SV.c (SC.ptr
    (670 : Nat) (0 : Nat))) (ST.node (SV.tup []) ST.nil ST.nil) ST.nil) (ST.node (SV.tup []) ST.nil ST.nil)) (ST.node (SV.agg [SC.int true IntKind.u64 (0 : Int), SC.int false
    IntKind.i64 (1 : Int) (Bd.w (1 : Int) (8 : Int) (fixed_bd._proof_2 (Int.ofNat (0 : Nat))))]) (ST.node (SV.tup []) (ST.node (SV.tup []) ST.nil ST.nil) ST.nil) (ST.node (SV.tup [])
    ST.nil ST.nil))) (ST.node (SV.c (SC.ptr (670 : Nat) (1 : Nat))) (ST.node (SV.c (SC.ptr (670 : Nat) (5 : Nat))) (ST.node (SV.c (SC.ptr (670 : Nat) (3 : Nat))) (ST.node (SV.tup [])
    ST.nil ST.nil) ST.nil) (ST.node (SV.tup []) ST.nil ST.nil)) (ST.node (SV.c (SC.int true IntKind.u64 (65537 : Int) Bd.any)) (ST.node (SV.tup []) ST.nil ST.nil) (ST.node (SV.tup [])
    ST.nil ST.nil))))) []) (Mem.mk [((7 : Nat), SO.ext (HO.obj [] (PA.mk (99 : Nat) (7 : Nat) (7 : Nat) (0 : Nat) (1 : Nat) [(0 : Nat), (65537 : Nat), (0 : Nat), (0 : Nat), (0 : Nat),
    (0 : Nat), (0 : Nat), (0 : Nat), (0 : Nat)] (1 : Nat) [(1 : Nat)] [] [((1 : Nat), (65537 : Nat), [(7 : Nat), (0 : Nat), (0 : Nat), (0 : Nat), (0 : Nat), (0 : Nat), (0 : Nat)])]
    (Tly.mk ((0 : Nat) + (1 : Nat)) (0 : Nat) ((1 : Nat) + (1 : Nat)) (0 : Nat) ((1 : Nat) + (1 : Nat)) (0 : Nat))))), ((19 : Nat), SO.cells [SC.raw Value.nilFunc, SC.ptr (7 : Nat) (0 :
    Nat), SC.int true IntKind.u64 (7 : Int), SC.int true IntKind.u64 (65537 : Int) Bd.any, SC.int true IntKind.i64 (0 : Int), SC.int true IntKind.i64 (0 : Int) (Bd.w (0 : Int) (7 : Int)
    (segG_bd._proof_4 (Int.ofNat (0 : Nat)))), SC.int true IntKind.u64 (0 : Int), SC.boo true true, SC.int true IntKind.i64 (0 : Int)] (207 : Nat)), ((578 : Nat), SO.cells [SC.int true
    IntKind.u64 (65537 : Int) Bd.any, SC.int true IntKind.i64 (0 : Int)] (44 : Nat)), ((670 : Nat), SO.cells [SC.fn (Fn.func (184 : Nat)) [SC.ptr (670 : Nat) (0 : Nat)] [], SC.ptr (7 :
    Nat) (0 : Nat), SC.int true IntKind.u64 (7 : Int), SC.int true IntKind.u64 (65537 : Int) Bd.any, SC.int true IntKind.i64 (0 : Int), SC.int true IntKind.i64 (0 : Int) (Bd.w (0 : Int)
    (7 : Int) (segG_bd._proof_4 (Int.ofNat (0 : Nat)))), SC.int true IntKind.u64 (0 : Int), SC.boo true false, SC.int true IntKind.i64 (0 : Int)] (207 : Nat))] (751 : Nat)) Scr.nil ∧
    True) ∧ True) ∧ True) ∧ True → (((K (SF.mk (37 : Nat) (ST.node (SV.c (SC.ptr (670 : Nat) (0 : Nat))) (ST.node (SV.tup []) (ST.node (SV.c (SC.ptr (670 : Nat) (0 : Nat))) (ST.node
    (SV.c (SC.ptr (7 : Nat) (0 : Nat))) (ST.node (SV.c (SC.int true IntKind.i64 (0 : Int) Bd.any)) (ST.node (SV.tup []) ST.nil ST.nil) ST.nil) (ST.node (SV.tup []) ST.nil ST.nil))
    (ST.node (SV.c (SC.int true IntKind.i64 (0 : Int) (Bd.w (0 : Int) (7 : Int) (segG_bd._proof_4 (Int.ofNat (0 : Nat)))))) (ST.node (SV.tup []) (ST.node (SV.tup []) ST.nil ST.nil)
    ST.nil) (ST.node (SV.tup []) ST.nil ST.nil))) (ST.node (SV.c (SC.ptr (670 : Nat) (0 : Nat))) (ST.node (SV.c (SC.ptr (670 : Nat) (0 : Nat))) (ST.node (SV.c (SC.ptr (670 : Nat) (3 :
    Nat))) (ST.node (SV.tup []) ST.nil ST.nil) ST.nil) (ST.node (SV.tup []) ST.nil ST.nil)) (ST.node (SV.tup [(false, [SC.int true IntKind.u64 (65537 : Int) Bd.any]), (false, [SC.int
    true IntKind.i64 (0 : Int) Bd.any])]) (ST.node (SV.tup []) ST.nil ST.nil) (ST.node (SV.tup []) ST.nil ST.nil)))) (ST.node (SV.tup [(false, [SC.int true IntKind.u64 (65537 : Int)
    Bd.any]), (false, [SC.int true IntKind.i64 (0 : Int) Bd.any])]) (ST.node (SV.c (SC.ptr (670 : Nat) (0 : Nat))) (ST.node (SV.c (SC.ptr (670 : Nat) (0 : Nat))) (ST.node (SV.c (SC.ptr
    (670 : Nat) (0 : Nat))) (ST.node (SV.tup []) ST.nil ST.nil) ST.nil) (ST.node (SV.tup []) ST.nil ST.nil)) (ST.node (SV.agg [SC.int true IntKind.u64 (0 : Int), SC.int false
    IntKind.i64 (1 : Int) (Bd.w (1 : Int) (8 : Int) (fixed_bd._proof_2 (Int.ofNat (0 : Nat))))]) (ST.node (SV.tup []) (ST.node (SV.tup []) ST.nil ST.nil) ST.nil) (ST.node (SV.tup [])
    ST.nil ST.nil))) (ST.node (SV.c (SC.ptr (670 : Nat) (1 : Nat))) (ST.node (SV.c (SC.ptr (670 : Nat) (5 : Nat))) (ST.node (SV.c (SC.ptr (670 : Nat) (3 : Nat))) (ST.node (SV.tup [])
    ST.nil ST.nil) ST.nil) (ST.node (SV.tup []) ST.nil ST.nil)) (ST.node (SV.c (SC.int true IntKind.u64 (65537 : Int) Bd.any)) (ST.node (SV.tup []) ST.nil ST.nil) (ST.node (SV.tup [])
    ST.nil ST.nil))))) []) (Mem.mk [((7 : Nat), SO.ext (HO.obj [] (PA.mk (99 : Nat) (7 : Nat) (7 : Nat) (0 : Nat) (1 : Nat) [(0 : Nat), (65537 : Nat), (0 : Nat), (0 : Nat), (0 : Nat),
    (0 : Nat), (0 : Nat), (0 : Nat), (0 : Nat)] (1 : Nat) [(1 : Nat)] [] [((1 : Nat), (65537 : Nat), [(7 : Nat), (0 : Nat), (0 : Nat), (0 : Nat), (0 : Nat), (0 : Nat), (0 : Nat)])]
    (Tly.mk ((0 : Nat) + (1 : Nat)) (0 : Nat) ((1 : Nat) + (1 : Nat)) (0 : Nat) ((1 : Nat) + (1 : Nat)) (0 : Nat))))), ((19 : Nat), SO.cells [SC.raw Value.nilFunc, SC.ptr (7 : Nat) (0 :
    Nat), SC.int true IntKind.u64 (7 : Int), SC.int true IntKind.u64 (65537 : Int) Bd.any, SC.int true IntKind.i64 (0 : Int), SC.int true IntKind.i64 (0 : Int) (Bd.w (0 : Int) (7 : Int)
    (segG_bd._proof_4 (Int.ofNat (0 : Nat)))), SC.int true IntKind.u64 (0 : Int), SC.boo true true, SC.int true IntKind.i64 (0 : Int)] (207 : Nat)), ((578 : Nat), SO.cells [SC.int true
    IntKind.u64 (65537 : Int) Bd.any, SC.int true IntKind.i64 (0 : Int)] (44 : Nat)), ((670 : Nat), SO.cells [SC.fn (Fn.func (184 : Nat)) [SC.ptr (670 : Nat) (0 : Nat)] [], SC.ptr (7 :
    Nat) (0 : Nat), SC.int true IntKind.u64 (7 : Int), SC.int true IntKind.u64 (65537 : Int) Bd.any, SC.int true IntKind.i64 (0 : Int), SC.int true IntKind.i64 (0 : Int) (Bd.w (0 : Int)
    (7 : Int) (segG_bd._proof_4 (Int.ofNat (0 : Nat)))), SC.int true IntKind.u64 (0 : Int), SC.boo true false, SC.int true IntKind.i64 (0 : Int)] (207 : Nat))] (751 : Nat)) Scr.nil ∧
    True) ∧ True) ∧ True) ∧ (∀ (K : KO XP), ((K (SF.mk (37 : Nat) (ST.node (SV.c (SC.ptr (670 : Nat) (0 : Nat))) (ST.node (SV.tup []) (ST.node (SV.c (SC.ptr (670 : Nat) (0 : Nat)))
    (ST.node (SV.c (SC.ptr (7 : Nat) (0 : Nat))) (ST.node (SV.c (SC.int true IntKind.i64 (0 : Int) Bd.any)) (ST.node (SV.tup []) ST.nil ST.nil) ST.nil) (ST.node (SV.tup []) ST.nil
    ST.nil)) (ST.node (SV.c (SC.int true IntKind.i64 (0 : Int) (Bd.w (0 : Int) (7 : Int) (segG_bd._proof_4 (Int.ofNat (0 : Nat)))))) (ST.node (SV.tup []) (ST.node (SV.tup []) ST.nil
    ST.nil) ST.nil) (ST.node (SV.tup []) ST.nil ST.nil))) (ST.node (SV.c (SC.ptr (670 : Nat) (0 : Nat))) (ST.node (SV.c (SC.ptr (670 : Nat) (0 : Nat))) (ST.node (SV.c (SC.ptr (670 :
    Nat) (3 : Nat))) (ST.node (SV.tup []) ST.nil ST.nil) ST.nil) (ST.node (SV.tup []) ST.nil ST.nil)) (ST.node (SV.tup [(false, [SC.int true IntKind.u64 (65537 : Int) Bd.any]), (false,
    [SC.int true IntKind.i64 (0 : Int) Bd.any])]) (ST.node (SV.tup []) ST.nil ST.nil) (ST.node (SV.tup []) ST.nil ST.nil)))) (ST.node (SV.tup [(false, [SC.int true IntKind.u64 (65537 :
    Int) Bd.any]), (false, [SC.int true IntKind.i64 (0 : Int) Bd.any])]) (ST.node (SV.c (SC.ptr (670 : Nat) (0 : Nat))) (ST.node (SV.c (SC.ptr (670 : Nat) (0 : Nat))) (ST.node (SV.c
    (SC.ptr (670 : Nat) (0 : Nat))) (ST.node (SV.tup []) ST.nil ST.nil) ST.nil) (ST.node (SV.tup []) ST.nil ST.nil)) (ST.node (SV.agg [SC.int true IntKind.u64 (0 : Int), SC.int false
    IntKind.i64 (1 : Int) (Bd.w (1 : Int) (8 : Int) (fixed_bd._proof_2 (Int.ofNat (0 : Nat))))]) (ST.node (SV.tup []) (ST.node (SV.tup []) ST.nil ST.nil) ST.nil) (ST.node (SV.tup [])
    ST.nil ST.nil))) (ST.node (SV.c (SC.ptr (670 : Nat) (1 : Nat))) (ST.node (SV.c (SC.ptr (670 : Nat) (5 : Nat))) (ST.node (SV.c (SC.ptr (670 : Nat) (3 : Nat))) (ST.node (SV.tup [])
    ST.nil ST.nil) ST.nil) (ST.node (SV.tup []) ST.nil ST.nil)) (ST.node (SV.c (SC.int true IntKind.u64 (65537 : Int) Bd.any)) (ST.node (SV.tup []) ST.nil ST.nil) (ST.node (SV.tup [])
    ST.nil ST.nil))))) []) (Mem.mk [((7 : Nat), SO.ext (HO.obj [] (PA.mk (99 : Nat) (7 : Nat) (7 : Nat) (0 : Nat) (1 : Nat) [(0 : Nat), (65537 : Nat), (0 : Nat), (0 : Nat), (0 : Nat),
    (0 : Nat), (0 : Nat), (0 : Nat), (0 : Nat)] (1 : Nat) [(1 : Nat)] [] [((1 : Nat), (65537 : Nat), [(7 : Nat), (0 : Nat), (0 : Nat), (0 : Nat), (0 : Nat), (0 : Nat), (0 : Nat)])]
    (Tly.mk ((0 : Nat) + (1 : Nat)) (0 : Nat) ((1 : Nat) + (1 : Nat)) (0 : Nat) ((1 : Nat) + (1 : Nat)) (0 : Nat))))), ((19 : Nat), SO.cells [SC.raw Value.nilFunc, SC.ptr (7 : Nat) (0 :
    Nat), SC.int true IntKind.u64 (7 : Int), SC.int true IntKind.u64 (65537 : Int) Bd.any, SC.int true IntKind.i64 (0 : Int), SC.int true IntKind.i64 (0 : Int) (Bd.w (0 : Int) (7 : Int)
    (segG_bd._proof_4 (Int.ofNat (0 : Nat)))), SC.int true IntKind.u64 (0 : Int), SC.boo true true, SC.int true IntKind.i64 (0 : Int)] (207 : Nat)), ((578 : Nat), SO.cells [SC.int true
    IntKind.u64 (65537 : Int) Bd.any, SC.int true IntKind.i64 (0 : Int)] (44 : Nat)), ((670 : Nat), SO.cells [SC.fn (Fn.func (184 : Nat)) [SC.ptr (670 : Nat) (0 : Nat)] [], SC.ptr (7 :
    Nat) (0 : Nat), SC.int true IntKind.u64 (7 : Int), SC.int true IntKind.u64 (65537 : Int) Bd.any, SC.int true IntKind.i64 (0 : Int), SC.int true IntKind.i64 (0 : Int) (Bd.w (0 : Int)
    (7 : Int) (segG_bd._proof_4 (Int.ofNat (0 : Nat)))), SC.int true IntKind.u64 (0 : Int), SC.boo true false, SC.int true IntKind.i64 (0 : Int)] (207 : Nat))] (751 : Nat)) Scr.nil ∧
    True) ∧ True) ∧ True → ((K (SF.mk (37 : Nat) (ST.node (SV.c (SC.ptr (670 : Nat) (0 : Nat))) (ST.node (SV.tup []) (ST.node (SV.c (SC.ptr (670 : Nat) (0 : Nat))) (ST.node (SV.c
    (SC.ptr (7 : Nat) (0 : Nat))) (ST.node (SV.c (SC.int true IntKind.i64 (0 : Int) Bd.any)) (ST.node (SV.tup []) ST.nil ST.nil) ST.nil) (ST.node (SV.tup []) ST.nil ST.nil)) (ST.node
    (SV.c (SC.int true IntKind.i64 (0 : Int) (Bd.w (0 : Int) (7 : Int) (segG_bd._proof_4 (Int.ofNat (0 : Nat)))))) (ST.node (SV.tup []) (ST.node (SV.tup []) ST.nil ST.nil) ST.nil)
    (ST.node (SV.tup []) ST.nil ST.nil))) (ST.node (SV.c (SC.ptr (670 : Nat) (0 : Nat))) (ST.node (SV.c (SC.ptr (670 : Nat) (0 : Nat))) (ST.node (SV.c (SC.ptr (670 : Nat) (3 : Nat)))
    (ST.node (SV.tup []) ST.nil ST.nil) ST.nil) (ST.node (SV.tup []) ST.nil ST.nil)) (ST.node (SV.tup [(false, [SC.int true IntKind.u64 (65537 : Int) Bd.any]), (false, [SC.int true
    IntKind.i64 (0 : Int) Bd.any])]) (ST.node (SV.tup []) ST.nil ST.nil) (ST.node (SV.tup []) ST.nil ST.nil)))) (ST.node (SV.tup [(false, [SC.int true IntKind.u64 (65537 : Int)
    Bd.any]), (false, [SC.int true IntKind.i64 (0 : Int) Bd.any])]) (ST.node (SV.c (SC.ptr (670 : Nat) (0 : Nat))) (ST.node (SV.c (SC.ptr (670 : Nat) (0 : Nat))) (ST.node (SV.c (SC.ptr
    (670 : Nat) (0 : Nat))) (ST.node (SV.tup []) ST.nil ST.nil) ST.nil) (ST.node (SV.tup []) ST.nil ST.nil)) (ST.node (SV.agg [SC.int true IntKind.u64 (0 : Int), SC.int false
    IntKind.i64 (1 : Int) (Bd.w (1 : Int) (8 : Int) (fixed_bd._proof_2 (Int.ofNat (0 : Nat))))]) (ST.node (SV.tup []) (ST.node (SV.tup []) ST.nil ST.nil) ST.nil) (ST.node (SV.tup [])
    ST.nil ST.nil))) (ST.node (SV.c (SC.ptr (670 : Nat) (1 : Nat))) (ST.node (SV.c (SC.ptr (670 : Nat) (5 : Nat))) (ST.node (SV.c (SC.ptr (670 : Nat) (3 : Nat))) (ST.node (SV.tup [])
    ST.nil ST.nil) ST.nil) (ST.node (SV.tup []) ST.nil ST.nil)) (ST.node (SV.c (SC.int true IntKind.u64 (65537 : Int) Bd.any)) (ST.node (SV.tup []) ST.nil ST.nil) (ST.node (SV.tup [])
    ST.nil ST.nil))))) []) (Mem.mk [((7 : Nat), SO.ext (HO.obj [] (PA.mk (99 : Nat) (7 : Nat) (7 : Nat) (0 : Nat) (1 : Nat) [(0 : Nat), (65537 : Nat), (0 : Nat), (0 : Nat), (0 : Nat),
    (0 : Nat), (0 : Nat), (0 : Nat), (0 : Nat)] (1 : Nat) [(1 : Nat)] [] [((1 : Nat), (65537 : Nat), [(7 : Nat), (0 : Nat), (0 : Nat), (0 : Nat), (0 : Nat), (0 : Nat), (0 : Nat)])]
    (Tly.mk ((0 : Nat) + (1 : Nat)) (0 : Nat) ((1 : Nat) + (1 : Nat)) (0 : Nat) ((1 : Nat) + (1 : Nat)) (0 : Nat))))), ((19 : Nat), SO.cells [SC.raw Value.nilFunc, SC.ptr (7 : Nat) (0 :
    Nat), SC.int true IntKind.u64 (7 : Int), SC.int true IntKind.u64 (65537 : Int) Bd.any, SC.int true IntKind.i64 (0 : Int), SC.int true IntKind.i64 (0 : Int) (Bd.w (0 : Int) (7 : Int)
    (segG_bd._proof_4 (Int.ofNat (0 : Nat)))), SC.int true IntKind.u64 (0 : Int), SC.boo true true, SC.int true IntKind.i64 (0 : Int)] (207 : Nat)), ((578 : Nat), SO.cells [SC.int true
    IntKind.u64 (65537 : Int) Bd.any, SC.int true IntKind.i64 (0 : Int)] (44 : Nat)), ((670 : Nat), SO.cells [SC.fn (Fn.func (184 : Nat)) [SC.ptr (670 : Nat) (0 : Nat)] [], SC.ptr (7 :
    Nat) (0 : Nat), SC.int true IntKind.u64 (7 : Int), SC.int true IntKind.u64 (65537 : Int) Bd.any, SC.int true IntKind.i64 (0 : Int), SC.int true IntKind.i64 (0 : Int) (Bd.w (0 : Int)
    (7 : Int) (segG_bd._proof_4 (Int.ofNat (0 : Nat)))), SC.int true IntKind.u64 (0 : Int), SC.boo true false, SC.int true IntKind.i64 (0 : Int)] (207 : Nat))] (751 : Nat)) Scr.nil ∧
    True) ∧ True) ∧ True) ∧ True) ∧ True) ∧ True) ∧ True) ∧ True) ∧ True) ∧ True) ∧ True) ∧ True) ∧ True) ∧ True) ∧ True) ∧ (∀ (K : KO XP), (((K (SF.mk (37 : Nat) (ST.node (SV.c (SC.ptr
    (19 : Nat) (0 : Nat))) (ST.node (SV.tup []) (ST.node (SV.c (SC.ptr (19 : Nat) (0 : Nat))) (ST.node (SV.c (SC.ptr (7 : Nat) (0 : Nat))) (ST.node (SV.c (SC.int true IntKind.i64 (0 :
    Int) Bd.any)) (ST.node (SV.tup []) ST.nil ST.nil) ST.nil) (ST.node (SV.tup []) ST.nil ST.nil)) (ST.node (SV.c (SC.int true IntKind.i64 (0 : Int) (Bd.w (0 : Int) (7 : Int)
    (segG_bd._proof_4 (Int.ofNat (0 : Nat)))))) (ST.node (SV.tup []) (ST.node (SV.tup []) ST.nil ST.nil) ST.nil) (ST.node (SV.tup []) ST.nil ST.nil))) (ST.node (SV.c (SC.ptr (19 : Nat)
    (0 : Nat))) (ST.node (SV.c (SC.ptr (19 : Nat) (0 : Nat))) (ST.node (SV.c (SC.ptr (19 : Nat) (3 : Nat))) (ST.node (SV.tup []) ST.nil ST.nil) ST.nil) (ST.node (SV.tup []) ST.nil
    ST.nil)) (ST.node (SV.tup [(false, [SC.int true IntKind.u64 (0 : Int) Bd.any]), (false, [SC.int true IntKind.i64 (0 : Int) Bd.any])]) (ST.node (SV.tup []) ST.nil ST.nil) (ST.node
    (SV.tup []) ST.nil ST.nil)))) (ST.node (SV.tup [(false, [SC.int true IntKind.u64 (0 : Int) Bd.any]), (false, [SC.int true IntKind.i64 (0 : Int) Bd.any])]) (ST.node (SV.c (SC.ptr (19
    : Nat) (0 : Nat))) (ST.node (SV.c (SC.ptr (19 : Nat) (0 : Nat))) (ST.node (SV.c (SC.ptr (19 : Nat) (0 : Nat))) (ST.node (SV.tup []) ST.nil ST.nil) ST.nil) (ST.node (SV.tup [])
    ST.nil ST.nil)) (ST.node (SV.agg [SC.int true IntKind.u64 (0 : Int), SC.int false IntKind.i64 (1 : Int) (Bd.w (1 : Int) (8 : Int) (fixed_bd._proof_2 (Int.ofNat (0 : Nat))))])
    (ST.node (SV.tup []) (ST.node (SV.tup []) ST.nil ST.nil) ST.nil) (ST.node (SV.tup []) ST.nil ST.nil))) (ST.node (SV.c (SC.ptr (19 : Nat) (1 : Nat))) (ST.node (SV.c (SC.ptr (19 :
    Nat) (5 : Nat))) (ST.node (SV.c (SC.ptr (19 : Nat) (3 : Nat))) (ST.node (SV.tup []) ST.nil ST.nil) ST.nil) (ST.node (SV.tup []) ST.nil ST.nil)) (ST.node (SV.c (SC.int true
    IntKind.u64 (0 : Int) Bd.any)) (ST.node (SV.tup []) ST.nil ST.nil) (ST.node (SV.tup []) ST.nil ST.nil))))) []) (Mem.mk [((7 : Nat), SO.ext (HO.obj [] (PA.mk (99 : Nat) (0 : Nat) (0
    : Nat) (0 : Nat) (0 : Nat) [(0 : Nat), (0 : Nat), (0 : Nat), (0 : Nat), (0 : Nat), (0 : Nat), (0 : Nat), (0 : Nat), (0 : Nat)] (0 : Nat) [] [] [] (Tly.mk (0 : Nat) (0 : Nat) ((0 :
    Nat) + (1 : Nat)) (0 : Nat) (0 : Nat) (0 : Nat))))), ((19 : Nat), SO.cells [SC.fn (Fn.func (184 : Nat)) [SC.ptr (19 : Nat) (0 : Nat)] [], SC.ptr (7 : Nat) (0 : Nat), SC.int true
    IntKind.u64 (7 : Int), SC.int true IntKind.u64 (0 : Int) Bd.any, SC.int true IntKind.i64 (0 : Int), SC.int true IntKind.i64 (0 : Int) (Bd.w (0 : Int) (7 : Int) (segG_bd._proof_4
    (Int.ofNat (0 : Nat)))), SC.int true IntKind.u64 (0 : Int), SC.boo true false, SC.int true IntKind.i64 (0 : Int)] (207 : Nat))] (100 : Nat)) Scr.nil ∧ True) ∧ True) ∧ True) ∧ True →
    (((K (SF.mk (37 : Nat) (ST.node (SV.c (SC.ptr (19 : Nat) (0 : Nat))) (ST.node (SV.tup []) (ST.node (SV.c (SC.ptr (19 : Nat) (0 : Nat))) (ST.node (SV.c (SC.ptr (7 : Nat) (0 : Nat)))
    (ST.node (SV.c (SC.int true IntKind.i64 (0 : Int) Bd.any)) (ST.node (SV.tup []) ST.nil ST.nil) ST.nil) (ST.node (SV.tup []) ST.nil ST.nil)) (ST.node (SV.c (SC.int true IntKind.i64
    (0 : Int) (Bd.w (0 : Int) (7 : Int) (segG_bd._proof_4 (Int.ofNat (0 : Nat)))))) (ST.node (SV.tup []) (ST.node (SV.tup []) ST.nil ST.nil) ST.nil) (ST.node (SV.tup []) ST.nil
    ST.nil))) (ST.node (SV.c (SC.ptr (19 : Nat) (0 : Nat))) (ST.node (SV.c (SC.ptr (19 : Nat) (0 : Nat))) (ST.node (SV.c (SC.ptr (19 : Nat) (3 : Nat))) (ST.node (SV.tup []) ST.nil
    ST.nil) ST.nil) (ST.node (SV.tup []) ST.nil ST.nil)) (ST.node (SV.tup [(false, [SC.int true IntKind.u64 (0 : Int) Bd.any]), (false, [SC.int true IntKind.i64 (0 : Int) Bd.any])])
    (ST.node (SV.tup []) ST.nil ST.nil) (ST.node (SV.tup []) ST.nil ST.nil)))) (ST.node (SV.tup [(false, [SC.int true IntKind.u64 (0 : Int) Bd.any]), (false, [SC.int true IntKind.i64 (0
    : Int) Bd.any])]) (ST.node (SV.c (SC.ptr (19 : Nat) (0 : Nat))) (ST.node (SV.c (SC.ptr (19 : Nat) (0 : Nat))) (ST.node (SV.c (SC.ptr (19 : Nat) (0 : Nat))) (ST.node (SV.tup [])
    ST.nil ST.nil) ST.nil) (ST.node (SV.tup []) ST.nil ST.nil)) (ST.node (SV.agg [SC.int true IntKind.u64 (0 : Int), SC.int false IntKind.i64 (1 : Int) (Bd.w (1 : Int) (8 : Int)
    (fixed_bd._proof_2 (Int.ofNat (0 : Nat))))]) (ST.node (SV.tup []) (ST.node (SV.tup []) ST.nil ST.nil) ST.nil) (ST.node (SV.tup []) ST.nil ST.nil))) (ST.node (SV.c (SC.ptr (19 : Nat)
    (1 : Nat))) (ST.node (SV.c (SC.ptr (19 : Nat) (5 : Nat))) (ST.node (SV.c (SC.ptr (19 : Nat) (3 : Nat))) (ST.node (SV.tup []) ST.nil ST.nil) ST.nil) (ST.node (SV.tup []) ST.nil
    ST.nil)) (ST.node (SV.c (SC.int true IntKind.u64 (0 : Int) Bd.any)) (ST.node (SV.tup []) ST.nil ST.nil) (ST.node (SV.tup []) ST.nil ST.nil))))) []) (Mem.mk [((7 : Nat), SO.ext
    (HO.obj [] (PA.mk (99 : Nat) (0 : Nat) (0 : Nat) (0 : Nat) (0 : Nat) [(0 : Nat), (0 : Nat), (0 : Nat), (0 : Nat), (0 : Nat), (0 : Nat), (0 : Nat), (0 : Nat), (0 : Nat)] (0 : Nat) []
    [] [] (Tly.mk (0 : Nat) (0 : Nat) ((0 : Nat) + (1 : Nat)) (0 : Nat) (0 : Nat) (0 : Nat))))), ((19 : Nat), SO.cells [SC.fn (Fn.func (184 : Nat)) [SC.ptr (19 : Nat) (0 : Nat)] [],
    SC.ptr (7 : Nat) (0 : Nat), SC.int true IntKind.u64 (7 : Int), SC.int true IntKind.u64 (0 : Int) Bd.any, SC.int true IntKind.i64 (0 : Int), SC.int true IntKind.i64 (0 : Int) (Bd.w
    (0 : Int) (7 : Int) (segG_bd._proof_4 (Int.ofNat (0 : Nat)))), SC.int true IntKind.u64 (0 : Int), SC.boo true false, SC.int true IntKind.i64 (0 : Int)] (207 : Nat))] (100 : Nat))
    Scr.nil ∧ True) ∧ True) ∧ True) ∧ (∀ (K : KO XP), ((K (SF.mk (37 : Nat) (ST.node (SV.c (SC.ptr (19 : Nat) (0 : Nat))) (ST.node (SV.tup []) (ST.node (SV.c (SC.ptr (19 : Nat) (0 :
    Nat))) (ST.node (SV.c (SC.ptr (7 : Nat) (0 : Nat))) (ST.node (SV.c (SC.int true IntKind.i64 (0 : Int) Bd.any)) (ST.node (SV.tup []) ST.nil ST.nil) ST.nil) (ST.node (SV.tup [])
    ST.nil ST.nil)) (ST.node (SV.c (SC.int true IntKind.i64 (0 : Int) (Bd.w (0 : Int) (7 : Int) (segG_bd._proof_4 (Int.ofNat (0 : Nat)))))) (ST.node (SV.tup []) (ST.node (SV.tup [])
    ST.nil ST.nil) ST.nil) (ST.node (SV.tup []) ST.nil ST.nil))) (ST.node (SV.c (SC.ptr (19 : Nat) (0 : Nat))) (ST.node (SV.c (SC.ptr (19 : Nat) (0 : Nat))) (ST.node (SV.c (SC.ptr (19 :
    Nat) (3 : Nat))) (ST.node (SV.tup []) ST.nil ST.nil) ST.nil) (ST.node (SV.tup []) ST.nil ST.nil)) (ST.node (SV.tup [(false, [SC.int true IntKind.u64 (0 : Int) Bd.any]), (false,
    [SC.int true IntKind.i64 (0 : Int) Bd.any])]) (ST.node (SV.tup []) ST.nil ST.nil) (ST.node (SV.tup []) ST.nil ST.nil)))) (ST.node (SV.tup [(false, [SC.int true IntKind.u64 (0 : Int)
    Bd.any]), (false, [SC.int true IntKind.i64 (0 : Int) Bd.any])]) (ST.node (SV.c (SC.ptr (19 : Nat) (0 : Nat))) (ST.node (SV.c (SC.ptr (19 : Nat) (0 : Nat))) (ST.node (SV.c (SC.ptr
    (19 : Nat) (0 : Nat))) (ST.node (SV.tup []) ST.nil ST.nil) ST.nil) (ST.node (SV.tup []) ST.nil ST.nil)) (ST.node (SV.agg [SC.int true IntKind.u64 (0 : Int), SC.int false IntKind.i64
    (1 : Int) (Bd.w (1 : Int) (8 : Int) (fixed_bd._proof_2 (Int.ofNat (0 : Nat))))]) (ST.node (SV.tup []) (ST.node (SV.tup []) ST.nil ST.nil) ST.nil) (ST.node (SV.tup []) ST.nil
    ST.nil))) (ST.node (SV.c (SC.ptr (19 : Nat) (1 : Nat))) (ST.node (SV.c (SC.ptr (19 : Nat) (5 : Nat))) (ST.node (SV.c (SC.ptr (19 : Nat) (3 : Nat))) (ST.node (SV.tup []) ST.nil
    ST.nil) ST.nil) (ST.node (SV.tup []) ST.nil ST.nil)) (ST.node (SV.c (SC.int true IntKind.u64 (0 : Int) Bd.any)) (ST.node (SV.tup []) ST.nil ST.nil) (ST.node (SV.tup []) ST.nil
    ST.nil))))) []) (Mem.mk [((7 : Nat), SO.ext (HO.obj [] (PA.mk (99 : Nat) (0 : Nat) (0 : Nat) (0 : Nat) (0 : Nat) [(0 : Nat), (0 : Nat), (0 : Nat), (0 : Nat), (0 : Nat), (0 : Nat),
    (0 : Nat), (0 : Nat), (0 : Nat)] (0 : Nat) [] [] [] (Tly.mk (0 : Nat) (0 : Nat) ((0 : Nat) + (1 : Nat)) (0 : Nat) (0 : Nat) (0 : Nat))))), ((19 : Nat), SO.cells [SC.fn (Fn.func (184
    : Nat)) [SC.ptr (19 : Nat) (0 : Nat)] [], SC.ptr (7 : Nat) (0 : Nat), SC.int true IntKind.u64 (7 : Int), SC.int true IntKind.u64 (0 : Int) Bd.any, SC.int true IntKind.i64 (0 : Int),
    SC.int true IntKind.i64 (0 : Int) (Bd.w (0 : Int) (7 : Int) (segG_bd._proof_4 (Int.ofNat (0 : Nat)))), SC.int true IntKind.u64 (0 : Int), SC.boo true false, SC.int true IntKind.i64
    (0 : Int)] (207 : Nat))] (100 : Nat)) Scr.nil ∧ True) ∧ True) ∧ True → ((K (SF.mk (37 : Nat) (ST.node (SV.c (SC.ptr (19 : Nat) (0 : Nat))) (ST.node (SV.tup []) (ST.node (SV.c
    (SC.ptr (19 : Nat) (0 : Nat))) (ST.node (SV.c (SC.ptr (7 : Nat) (0 : Nat))) (ST.node (SV.c (SC.int true IntKind.i64 (0 : Int) Bd.any)) (ST.node (SV.tup []) ST.nil ST.nil) ST.nil)
    (ST.node (SV.tup []) ST.nil ST.nil)) (ST.node (SV.c (SC.int true IntKind.i64 (0 : Int) (Bd.w (0 : Int) (7 : Int) (segG_bd._proof_4 (Int.ofNat (0 : Nat)))))) (ST.node (SV.tup [])
    (ST.node (SV.tup []) ST.nil ST.nil) ST.nil) (ST.node (SV.tup []) ST.nil ST.nil))) (ST.node (SV.c (SC.ptr (19 : Nat) (0 : Nat))) (ST.node (SV.c (SC.ptr (19 : Nat) (0 : Nat)))
    (ST.node (SV.c (SC.ptr (19 : Nat) (3 : Nat))) (ST.node (SV.tup []) ST.nil ST.nil) ST.nil) (ST.node (SV.tup []) ST.nil ST.nil)) (ST.node (SV.tup [(false, [SC.int true IntKind.u64 (0
    : Int) Bd.any]), (false, [SC.int true IntKind.i64 (0 : Int) Bd.any])]) (ST.node (SV.tup []) ST.nil ST.nil) (ST.node (SV.tup []) ST.nil ST.nil)))) (ST.node (SV.tup [(false, [SC.int
    true IntKind.u64 (0 : Int) Bd.any]), (false, [SC.int true IntKind.i64 (0 : Int) Bd.any])]) (ST.node (SV.c (SC.ptr (19 : Nat) (0 : Nat))) (ST.node (SV.c (SC.ptr (19 : Nat) (0 :
    Nat))) (ST.node (SV.c (SC.ptr (19 : Nat) (0 : Nat))) (ST.node (SV.tup []) ST.nil ST.nil) ST.nil) (ST.node (SV.tup []) ST.nil ST.nil)) (ST.node (SV.agg [SC.int true IntKind.u64 (0 :
    Int), SC.int false IntKind.i64 (1 : Int) (Bd.w (1 : Int) (8 : Int) (fixed_bd._proof_2 (Int.ofNat (0 : Nat))))]) (ST.node (SV.tup []) (ST.node (SV.tup []) ST.nil ST.nil) ST.nil)
    (ST.node (SV.tup []) ST.nil ST.nil))) (ST.node (SV.c (SC.ptr (19 : Nat) (1 : Nat))) (ST.node (SV.c (SC.ptr (19 : Nat) (5 : Nat))) (ST.node (SV.c (SC.ptr (19 : Nat) (3 : Nat)))
    (ST.node (SV.tup []) ST.nil ST.nil) ST.nil) (ST.node (SV.tup []) ST.nil ST.nil)) (ST.node (SV.c (SC.int true IntKind.u64 (0 : Int) Bd.any)) (ST.node (SV.tup []) ST.nil ST.nil)
    (ST.node (SV.tup []) ST.nil ST.nil))))) []) (Mem.mk [((7 : Nat), SO.ext (HO.obj [] (PA.mk (99 : Nat) (0 : Nat) (0 : Nat) (0 : Nat) (0 : Nat) [(0 : Nat), (0 : Nat), (0 : Nat), (0 :
    Nat), (0 : Nat), (0 : Nat), (0 : Nat), (0 : Nat), (0 : Nat)] (0 : Nat) [] [] [] (Tly.mk (0 : Nat) (0 : Nat) ((0 : Nat) + (1 : Nat)) (0 : Nat) (0 : Nat) (0 : Nat))))), ((19 : Nat),
    SO.cells [SC.fn (Fn.func (184 : Nat)) [SC.ptr (19 : Nat) (0 : Nat)] [], SC.ptr (7 : Nat) (0 : Nat), SC.int true IntKind.u64 (7 : Int), SC.int true IntKind.u64 (0 : Int) Bd.any,
    SC.int true IntKind.i64 (0 : Int), SC.int true IntKind.i64 (0 : Int) (Bd.w (0 : Int) (7 : Int) (segG_bd._proof_4 (Int.ofNat (0 : Nat)))), SC.int true IntKind.u64 (0 : Int), SC.boo
    true false, SC.int true IntKind.i64 (0 : Int)] (207 : Nat))] (100 : Nat)) Scr.nil ∧ True) ∧ True) ∧ True) ∧ True) ∧ True) := by
  kernel_rfl
theorem first11  : Run (callN Try.prog tblPV (fun _ n => Nat.beq n 999999) 100 20 40 [] ⟨[], 0⟩ .nil (fun v _ _ => retTrue v)) := by
  constructor
  rw [first11_vc]
  repeat' first
    | with_reducible apply And.intro
    | with_reducible exact trivial
    | with_reducible exact Eq.refl _
    | with_reducible exact fun (h : true = false) => Bool.noConfusion h
    | with_reducible exact fun (h : false = true) => Bool.noConfusion h
    | (refine fun (K : KO XP) => ?_; simp only [eq_self, true_and, and_true, imp_self, implies_true]; done)
    | (refine fun (K : KO XP) => ?_; simp only [eq_self, true_and, and_true, imp_self, implies_true]; exact id)
    | (refine fun (K : KO XP) (h : _ ∧ _) => ?_; exact h.1)
    | decide
end Go.Proofs.Ytnfpkadepomjjaa
