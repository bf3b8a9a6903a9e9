/- The statements of layer 13: first answers true, by the executor over arenas that are known. -/
import Derived.Test.YtgiakcepgbpchaaBasePar
import Derived.Test.YtgiakcepgbpchaaBaseC
set_option linter.all false
namespace Go.Proofs.Ytgiakcepgbpchaa
open Go
set_option maxRecDepth 1000000
set_option maxHeartbeats 0
/-- What the executor leaves to be shown, written out. -/
theorem first13_vc  : (callN Try.prog tblPC (fun _ n => Nat.beq n 999999) 100 20 38 [] ⟨[], 0⟩ .nil (fun v _ _ => retTrue v)) = (
    ∀ (cap : Nat) (z : Nat → Int) (ad : Option Addr) (ln cp : Nat), ((((((((((((cap = cap ∧ Value.nilFunc = Value.nilFunc ∧ (cap = cap ∧ Value.nilFunc = Value.nilFunc ∧ (cap = cap ∧
    Value.nilFunc = Value.nilFunc ∧ (cap = cap ∧ Value.nilFunc = Value.nilFunc ∧ (cap = cap ∧ Value.nilFunc = Value.nilFunc ∧ ∀ (cap_1 : Nat) (z_1 : Nat → Int) (ad_1 : Option Addr)
    (ln_1 cp_1 : Nat), ((((((((((True ∧ True ∧ (1 : Nat) ≤ (1000000000 : Nat) ∧ ∀ (cap_2 : Nat), (1 : Nat) ≤ cap_2 → (((0 : Nat) = (0 : Nat) ∧ cap_2 = cap_2 ∧ cap_2 = cap_2 ∧ ((0 : Nat)
    = (0 : Nat) ∧ cap_2 = cap_2 ∧ cap_2 = cap_2 ∧ (((0 : Nat) = (0 : Nat) ∧ cap_2 = cap_2 ∧ cap_2 = cap_2 ∧ ((0 : Nat) = (0 : Nat) ∧ cap_2 = cap_2 ∧ cap_2 = cap_2 ∧ (((((0 : Nat) = (0 :
    Nat) ∧ cap_2 = cap_2 ∧ cap_2 = cap_2 ∧ ((0 : Nat) = (0 : Nat) ∧ cap_2 = cap_2 ∧ cap_2 = cap_2 ∧ (((0 : Nat) = (0 : Nat) ∧ cap_2 = cap_2 ∧ cap_2 = cap_2 ∧ ((0 : Nat) = (0 : Nat) ∧
    cap_2 = cap_2 ∧ cap_2 = cap_2 ∧ (((((0 : Nat) = (0 : Nat) ∧ cap_2 = cap_2 ∧ cap_2 = cap_2 ∧ ((0 : Nat) = (0 : Nat) ∧ cap_2 = cap_2 ∧ cap_2 = cap_2 ∧ (((((0 : Nat) = (0 : Nat) ∧
    cap_2 = cap_2 ∧ cap_2 = cap_2 ∧ ((0 : Nat) = (0 : Nat) ∧ cap_2 = cap_2 ∧ cap_2 = cap_2 ∧ (((((0 : Nat) = (0 : Nat) ∧ cap_2 = cap_2 ∧ cap_2 = cap_2 ∧ ((0 : Nat) = (0 : Nat) ∧ cap_2 =
    cap_2 ∧ cap_2 = cap_2 ∧ (((((0 : Nat) = (0 : Nat) ∧ cap_2 = cap_2 ∧ (cap_2 = cap_2 ∧ True ∧ (2 : Nat) ≤ (1000000000 : Nat) ∧ ∀ (cap_3 : Nat), (2 : Nat) ≤ cap_3 → (0 : Nat) = (0 :
    Nat) ∧ cap_2 = cap_2 ∧ (((0 : Nat) = (0 : Nat) ∧ cap_3 = cap_3 ∧ cap_3 = cap_3 ∧ ((0 : Nat) = (0 : Nat) ∧ cap_3 = cap_3 ∧ cap_3 = cap_3 ∧ (((((0 : Nat) = (0 : Nat) ∧ cap_3 = cap_3 ∧
    cap_3 = cap_3 ∧ ((0 : Nat) = (0 : Nat) ∧ cap_3 = cap_3 ∧ cap_3 = cap_3 ∧ (((((0 : Nat) = (0 : Nat) ∧ cap_3 = cap_3 ∧ cap_3 = cap_3 ∧ ((0 : Nat) = (0 : Nat) ∧ cap_3 = cap_3 ∧ cap_3 =
    cap_3 ∧ (((((0 : Nat) = (0 : Nat) ∧ cap_3 = cap_3 ∧ (cap_3 = cap_3 ∧ True ∧ (3 : Nat) ≤ (1000000000 : Nat) ∧ ∀ (cap : Nat), (3 : Nat) ≤ cap → (0 : Nat) = (0 : Nat) ∧ cap_3 = cap_3 ∧
    (((0 : Nat) = (0 : Nat) ∧ cap = cap ∧ cap = cap ∧ ((0 : Nat) = (0 : Nat) ∧ cap = cap ∧ cap = cap ∧ (True ∧ True ∧ (3 : Nat) ≤ (1000000000 : Nat) ∧ ∀ (cap_4 : Nat), (3 : Nat) ≤ cap_4
    → (cap_1 = cap_1 ∧ Value.nilFunc = Value.nilFunc ∧ (0 : Nat) = (0 : Nat) ∧ cap = cap ∧ cap = cap ∧ cap_4 = cap_4 ∧ true = true) ∧ True) ∧ True) ∧ True) ∧ True) ∧ True) ∧ True) ∧
    True) ∧ True) ∧ True) ∧ True) ∧ True) ∧ (∀ (K : KO XP), (0 : Nat) = (0 : Nat) ∧ cap_3 = cap_3 ∧ cap_3 = cap_3 ∧ ((0 : Nat) = (0 : Nat) ∧ cap_3 = cap_3 ∧ cap_3 = cap_3 ∧ K (SF.mk (86
    : Nat) (ST.node (SV.c (SC.ptr (596 : Nat) (0 : Nat))) (ST.node (SV.tup []) (ST.node (SV.c (SC.boo true true)) (ST.node (SV.tup []) (ST.node (SV.c (SC.ptr (596 : Nat) (4 : Nat)))
    (ST.node (SV.tup []) (ST.node (SV.tup []) ST.nil ST.nil) ST.nil) (ST.node (SV.tup []) (ST.node (SV.tup []) ST.nil ST.nil) ST.nil)) (ST.node (SV.c (SC.ptr (596 : Nat) (0 : Nat)))
    (ST.node (SV.tup []) (ST.node (SV.tup []) ST.nil ST.nil) ST.nil) (ST.node (SV.tup []) ST.nil ST.nil))) (ST.node (SV.c (SC.ptr (596 : Nat) (0 : Nat))) (ST.node (SV.c (SC.ptr (596 :
    Nat) (0 : Nat))) (ST.node (SV.tup []) (ST.node (SV.tup []) ST.nil ST.nil) ST.nil) (ST.node (SV.tup []) (ST.node (SV.tup []) ST.nil ST.nil) ST.nil)) (ST.node (SV.agg [SC.int true
    IntKind.u64 (196611 : Int) (Bd.w (0 : Int) (196611 : Int) (orZero_bd (inC (Int.ofNat ((1 : Nat) + (1 : Nat))) (Int.ofNat ((6 : Nat) + (1 : Nat)))) Bd.of._proof_1)), SC.int true
    IntKind.i64 (27 : Int) (Bd.w (0 : Int) (895 : Int) (counter_bd._proof_4 (Int.ofNat ((1 : Nat) + (1 : Nat))) (Int.ofNat ((6 : Nat) + (1 : Nat)))))]) (ST.node (SV.tup []) (ST.node
    (SV.tup []) ST.nil ST.nil) ST.nil) (ST.node (SV.tup []) ST.nil ST.nil)))) (ST.node (SV.tup []) (ST.node (SV.c (SC.ptr (596 : Nat) (0 : Nat))) (ST.node (SV.c (SC.int true IntKind.u64
    (196611 : Int) Bd.any)) (ST.node (SV.tup []) (ST.node (SV.tup []) ST.nil ST.nil) ST.nil) (ST.node (SV.tup []) (ST.node (SV.tup []) ST.nil ST.nil) ST.nil)) (ST.node (SV.c (SC.int
    true IntKind.i64 (7 : Int) Bd.any)) (ST.node (SV.tup []) (ST.node (SV.tup []) ST.nil ST.nil) ST.nil) (ST.node (SV.tup []) ST.nil ST.nil))) (ST.node (SV.c (SC.int true IntKind.i64 (2
    : Int) Bd.any)) (ST.node (SV.c (SC.int true IntKind.i64 (2 : Int) Bd.any)) (ST.node (SV.tup []) (ST.node (SV.tup []) ST.nil ST.nil) ST.nil) (ST.node (SV.tup []) (ST.node (SV.tup [])
    ST.nil ST.nil) ST.nil)) (ST.node (SV.tup []) (ST.node (SV.tup []) (ST.node (SV.tup []) ST.nil ST.nil) ST.nil) (ST.node (SV.tup []) ST.nil ST.nil))))) (ST.node (SV.c (SC.ptr (1694 :
    Nat) (0 : Nat))) (ST.node (SV.tup []) (ST.node (SV.tup [(true, [SC.int true IntKind.u64 (196611 : Int) (Bd.w (0 : Int) (196611 : Int) (orZero_bd (inC (Int.ofNat ((1 : Nat) + (1 :
    Nat))) (Int.ofNat ((6 : Nat) + (1 : Nat)))) Bd.of._proof_1)), SC.int true IntKind.i64 (27 : Int) (Bd.w (0 : Int) (895 : Int) (counter_bd._proof_4 (Int.ofNat ((1 : Nat) + (1 : Nat)))
    (Int.ofNat ((6 : Nat) + (1 : Nat)))))]), (false, [SC.boo true true])]) (ST.node (SV.c (SC.ptr (596 : Nat) (6 : Nat))) (ST.node (SV.tup []) (ST.node (SV.tup []) ST.nil ST.nil)
    ST.nil) (ST.node (SV.tup []) (ST.node (SV.tup []) ST.nil ST.nil) ST.nil)) (ST.node (SV.c (SC.ptr (596 : Nat) (3 : Nat))) (ST.node (SV.tup []) (ST.node (SV.tup []) ST.nil ST.nil)
    ST.nil) (ST.node (SV.tup []) ST.nil ST.nil))) (ST.node (SV.c (SC.ptr (596 : Nat) (2 : Nat))) (ST.node (SV.c (SC.ptr (596 : Nat) (2 : Nat))) (ST.node (SV.tup []) (ST.node (SV.tup [])
    ST.nil ST.nil) ST.nil) (ST.node (SV.tup []) (ST.node (SV.tup []) ST.nil ST.nil) ST.nil)) (ST.node (SV.c (SC.boo true true)) (ST.node (SV.tup []) (ST.node (SV.tup []) ST.nil ST.nil)
    ST.nil) (ST.node (SV.tup []) ST.nil ST.nil)))) (ST.node (SV.tup []) (ST.node (SV.c (SC.ptr (596 : Nat) (0 : Nat))) (ST.node (SV.c (SC.ptr (596 : Nat) (0 : Nat))) (ST.node (SV.tup
    []) (ST.node (SV.tup []) ST.nil ST.nil) ST.nil) (ST.node (SV.tup []) (ST.node (SV.tup []) ST.nil ST.nil) ST.nil)) (ST.node (SV.tup [(true, [SC.int true IntKind.u64 (196611 : Int)
    (Bd.w (0 : Int) (196611 : Int) (orZero_bd (inC (Int.ofNat ((1 : Nat) + (1 : Nat))) (Int.ofNat ((6 : Nat) + (1 : Nat)))) Bd.of._proof_1)), SC.int true IntKind.i64 (27 : Int) (Bd.w (0
    : Int) (895 : Int) (counter_bd._proof_4 (Int.ofNat ((1 : Nat) + (1 : Nat))) (Int.ofNat ((6 : Nat) + (1 : Nat)))))]), (false, [SC.boo true true])]) (ST.node (SV.tup []) (ST.node
    (SV.tup []) ST.nil ST.nil) ST.nil) (ST.node (SV.tup []) ST.nil ST.nil))) (ST.node (SV.c (SC.ptr (596 : Nat) (0 : Nat))) (ST.node (SV.c (SC.ptr (596 : Nat) (0 : Nat))) (ST.node
    (SV.tup []) (ST.node (SV.tup []) ST.nil ST.nil) ST.nil) (ST.node (SV.tup []) ST.nil ST.nil)) (ST.node (SV.tup []) (ST.node (SV.tup []) (ST.node (SV.tup []) ST.nil ST.nil) ST.nil)
    (ST.node (SV.tup []) ST.nil ST.nil)))))) []) (Mem.mk [((6 : Nat), SO.cells [SC.int false IntKind.i64 (z (0 : Nat)), SC.int false IntKind.i64 (z (1 : Nat)), SC.int false IntKind.i64
    (z (2 : Nat)), SC.int false IntKind.i64 (z (3 : Nat)), SC.int false IntKind.u64 (z (4 : Nat)), SC.int false IntKind.u64 (z (5 : Nat)), SC.int false IntKind.u64 (z (6 : Nat)), SC.int
    false IntKind.u64 (z (7 : Nat)), SC.int false IntKind.u64 (z (8 : Nat)), SC.int false IntKind.u64 (z (9 : Nat)), SC.int false IntKind.u64 (z (10 : Nat)), SC.int false IntKind.u64 (z
    (11 : Nat)), SC.int false IntKind.u64 (z (12 : Nat)), SC.sliv ad false ln cp, SC.int false IntKind.i64 (z (14 : Nat)), SC.int false IntKind.i64 (z (15 : Nat)), SC.int false
    IntKind.i64 (z (16 : Nat)), SC.int false IntKind.i64 (z (17 : Nat)), SC.int false IntKind.i64 (z (18 : Nat)), SC.int false IntKind.i64 (z (19 : Nat))] (31 : Nat)), ((10 : Nat),
    SO.ext (HO.obj [] (PA.mk (60000 : Nat) (7 : Nat) (7 : Nat) (0 : Nat) (1 : Nat) [(0 : Nat), (65537 : Nat), (0 : Nat), (0 : Nat), (0 : Nat), (0 : Nat), (0 : Nat), (0 : Nat), (0 :
    Nat)] (1 : Nat) [(1 : Nat)] [] [((1 : Nat), (65537 : Nat), [(0 : Nat), (0 : Nat), (0 : Nat), (0 : Nat), (0 : Nat), (0 : Nat), (0 : Nat)])] (Tly.mk (1 : Nat) (0 : Nat) (3 : Nat) (1 :
    Nat) (0 : Nat) (0 : Nat))))), ((11 : Nat), SO.row (OfNat.ofNat (25 : Nat)) (1 : Nat) (1 : Nat) cap [SC.int true IntKind.u64 (65537 : Int) Bd.any]), ((18 : Nat), SO.cells [SC.raw
    Value.nilFunc, SC.ptr (10 : Nat) (0 : Nat), SC.int true IntKind.i64 (1 : Int) Bd.any, SC.int true IntKind.i64 (1 : Int), SC.int true IntKind.u64 (65537 : Int) Bd.any, SC.int true
    IntKind.u64 (0 : Int) Bd.any, SC.int true IntKind.u64 (0 : Int), SC.int true IntKind.u64 (0 : Int), SC.int true IntKind.u64 (0 : Int), SC.int true IntKind.u64 (0 : Int), SC.int true
    IntKind.u64 (0 : Int), SC.int true IntKind.u64 (0 : Int), SC.nls] (170 : Nat)), ((370 : Nat), SO.cells [SC.int false IntKind.i64 (z_1 (0 : Nat)), SC.int false IntKind.i64 (z_1 (1 :
    Nat)), SC.int false IntKind.i64 (z_1 (2 : Nat)), SC.int false IntKind.i64 (z_1 (3 : Nat)), SC.int false IntKind.u64 (z_1 (4 : Nat)), SC.int false IntKind.u64 (z_1 (5 : Nat)), SC.int
    false IntKind.u64 (z_1 (6 : Nat)), SC.int false IntKind.u64 (z_1 (7 : Nat)), SC.int false IntKind.u64 (z_1 (8 : Nat)), SC.int false IntKind.u64 (z_1 (9 : Nat)), SC.int false
    IntKind.u64 (z_1 (10 : Nat)), SC.int false IntKind.u64 (z_1 (11 : Nat)), SC.int false IntKind.u64 (z_1 (12 : Nat)), SC.sliv ad_1 false ln_1 cp_1, SC.int false IntKind.i64 (z_1 (14 :
    Nat)), SC.int false IntKind.i64 (z_1 (15 : Nat)), SC.int false IntKind.i64 (z_1 (16 : Nat)), SC.int false IntKind.i64 (z_1 (17 : Nat)), SC.int false IntKind.i64 (z_1 (18 : Nat)),
    SC.int false IntKind.i64 (z_1 (19 : Nat))] (31 : Nat)), ((374 : Nat), SO.ext (HO.obj [] (PA.mk (60000 : Nat) (49 : Nat) (49 : Nat) (0 : Nat) (3 : Nat) [(0 : Nat), (65537 : Nat),
    (131074 : Nat), (196611 : Nat), (0 : Nat), (0 : Nat), (0 : Nat), (0 : Nat), (0 : Nat)] (3 : Nat) [(1 : Nat), (2 : Nat), (3 : Nat)] [] [((1 : Nat), (65537 : Nat), [(0 : Nat), (0 :
    Nat), (0 : Nat), (0 : Nat), (0 : Nat), (0 : Nat), (1 : Nat)]), ((2 : Nat), (131074 : Nat), [(0 : Nat), (0 : Nat), (0 : Nat), (0 : Nat), (0 : Nat), (0 : Nat), (0 : Nat), (0 : Nat),
    (0 : Nat), (0 : Nat), (0 : Nat), (0 : Nat), (0 : Nat), (0 : Nat)]), ((3 : Nat), (196611 : Nat), [(0 : Nat), (0 : Nat), (0 : Nat), (0 : Nat), (0 : Nat), (0 : Nat), (0 : Nat), (0 :
    Nat), (0 : Nat), (0 : Nat), (0 : Nat), (0 : Nat), (0 : Nat), (0 : Nat), (0 : Nat), (0 : Nat), (0 : Nat), (0 : Nat), (0 : Nat), (0 : Nat), (0 : Nat), (2 : Nat), (1 : Nat), (1 : Nat),
    (0 : Nat), (1 : Nat), (0 : Nat), (1 : Nat)])] (Tly.mk (3 : Nat) (0 : Nat) (11 : Nat) (3 : Nat) (0 : Nat) (7 : Nat))))), ((375 : Nat), SO.row (OfNat.ofNat (25 : Nat)) (1 : Nat) (3 :
    Nat) cap_1 [SC.int true IntKind.u64 (65537 : Int) Bd.any, SC.int true IntKind.u64 (131074 : Int) Bd.any, SC.int true IntKind.u64 (196611 : Int) Bd.any]), ((376 : Nat), SO.cells
    [SC.int true IntKind.i64 (6 : Int), SC.int true IntKind.i64 (0 : Int), SC.int true IntKind.i64 (4 : Int)] (3 : Nat)), ((399 : Nat), SO.ext (HO.old (XO.cnt (374 : Nat) (Cnt.mk
    (196611 : Nat) (6 : Nat) (3 : Nat) (3 : Nat) (1 : Nat))))), ((469 : Nat), SO.ext (HO.old (XO.cnt (374 : Nat) (Cnt.mk (65537 : Nat) (0 : Nat) (1 : Nat) (1 : Nat) (1 : Nat))))), ((539
    : Nat), SO.ext (HO.old (XO.cnt (374 : Nat) (Cnt.mk (196611 : Nat) (4 : Nat) (3 : Nat) (3 : Nat) (1 : Nat))))), ((596 : Nat), SO.cells [SC.fn (Fn.func (143 : Nat)) [SC.ptr (596 :
    Nat) (0 : Nat)] [], SC.ptr (374 : Nat) (0 : Nat), SC.int true IntKind.i64 (2 : Int) Bd.any, SC.int true IntKind.i64 (7 : Int) Bd.any, SC.int true IntKind.u64 (65537 : Int) Bd.any,
    SC.int true IntKind.u64 (131074 : Int) Bd.any, SC.int true IntKind.u64 (196611 : Int) Bd.any, SC.int true IntKind.u64 (0 : Int), SC.int true IntKind.u64 (0 : Int), SC.int true
    IntKind.u64 (0 : Int), SC.int true IntKind.u64 (0 : Int), SC.int true IntKind.u64 (0 : Int), SC.sli (1415 : Nat) (2 : Nat) true (0 : Nat) true (2 : Nat) cap_3] (170 : Nat)), ((1415
    : Nat), SO.row (37 : Nat) (2 : Nat) (2 : Nat) cap_3 [SC.int true IntKind.u64 (65537 : Int) Bd.any, SC.int true IntKind.i64 (0 : Int) (Bd.w (0 : Int) (254 : Int) (slot_bd._proof_3
    (Int.ofNat (0 : Nat)) (Int.ofNat ((0 : Nat) + (1 : Nat))))), SC.int true IntKind.u64 (196611 : Int) Bd.any, SC.int true IntKind.i64 (4 : Int) (Bd.w (0 : Int) (254 : Int)
    (slot_bd._proof_3 (Int.ofNat ((1 : Nat) + (1 : Nat))) (Int.ofNat ((4 : Nat) + (1 : Nat)))))]), ((1694 : Nat), SO.cells [SC.int true IntKind.u64 (196611 : Int) (Bd.w (0 : Int)
    (196611 : Int) (orZero_bd (inC (Int.ofNat ((1 : Nat) + (1 : Nat))) (Int.ofNat ((6 : Nat) + (1 : Nat)))) Bd.of._proof_1)), SC.int true IntKind.i64 (27 : Int) (Bd.w (0 : Int) (895 :
    Int) (counter_bd._proof_4 (Int.ofNat ((1 : Nat) + (1 : Nat))) (Int.ofNat ((6 : Nat) + (1 : Nat)))))] (47 : Nat))] (1697 : Nat)) Scr.nil ∧ True) ∧ True → (0 : Nat) = (0 : Nat) ∧
    cap_3 = cap_3 ∧ cap_3 = cap_3 ∧ ((0 : Nat) = (0 : Nat) ∧ cap_3 = cap_3 ∧ cap_3 = cap_3 ∧ K (SF.mk (86 : Nat) (ST.node (SV.c (SC.ptr (596 : Nat) (0 : Nat))) (ST.node (SV.tup [])
    (ST.node (SV.c (SC.boo true true)) (ST.node (SV.tup []) (ST.node (SV.c (SC.ptr (596 : Nat) (4 : Nat))) (ST.node (SV.tup []) (ST.node (SV.tup []) ST.nil ST.nil) ST.nil) (ST.node
    (SV.tup []) (ST.node (SV.tup []) ST.nil ST.nil) ST.nil)) (ST.node (SV.c (SC.ptr (596 : Nat) (0 : Nat))) (ST.node (SV.tup []) (ST.node (SV.tup []) ST.nil ST.nil) ST.nil) (ST.node
    (SV.tup []) ST.nil ST.nil))) (ST.node (SV.c (SC.ptr (596 : Nat) (0 : Nat))) (ST.node (SV.c (SC.ptr (596 : Nat) (0 : Nat))) (ST.node (SV.tup []) (ST.node (SV.tup []) ST.nil ST.nil)
    ST.nil) (ST.node (SV.tup []) (ST.node (SV.tup []) ST.nil ST.nil) ST.nil)) (ST.node (SV.agg [SC.int true IntKind.u64 (196611 : Int) (Bd.w (0 : Int) (196611 : Int) (orZero_bd (inC
    (Int.ofNat ((1 : Nat) + (1 : Nat))) (Int.ofNat ((6 : Nat) + (1 : Nat)))) Bd.of._proof_1)), SC.int true IntKind.i64 (27 : Int) (Bd.w (0 : Int) (895 : Int) (counter_bd._proof_4
    (Int.ofNat ((1 : Nat) + (1 : Nat))) (Int.ofNat ((6 : Nat) + (1 : Nat)))))]) (ST.node (SV.tup []) (ST.node (SV.tup []) ST.nil ST.nil) ST.nil) (ST.node (SV.tup []) ST.nil ST.nil))))
    (ST.node (SV.tup []) (ST.node (SV.c (SC.ptr (596 : Nat) (0 : Nat))) (ST.node (SV.c (SC.int true IntKind.u64 (196611 : Int) Bd.any)) (ST.node (SV.tup []) (ST.node (SV.tup []) ST.nil
    ST.nil) ST.nil) (ST.node (SV.tup []) (ST.node (SV.tup []) ST.nil ST.nil) ST.nil)) (ST.node (SV.c (SC.int true IntKind.i64 (7 : Int) Bd.any)) (ST.node (SV.tup []) (ST.node (SV.tup
    []) ST.nil ST.nil) ST.nil) (ST.node (SV.tup []) ST.nil ST.nil))) (ST.node (SV.c (SC.int true IntKind.i64 (2 : Int) Bd.any)) (ST.node (SV.c (SC.int true IntKind.i64 (2 : Int)
    Bd.any)) (ST.node (SV.tup []) (ST.node (SV.tup []) ST.nil ST.nil) ST.nil) (ST.node (SV.tup []) (ST.node (SV.tup []) ST.nil ST.nil) ST.nil)) (ST.node (SV.tup []) (ST.node (SV.tup [])
    (ST.node (SV.tup []) ST.nil ST.nil) ST.nil) (ST.node (SV.tup []) ST.nil ST.nil))))) (ST.node (SV.c (SC.ptr (1694 : Nat) (0 : Nat))) (ST.node (SV.tup []) (ST.node (SV.tup [(true,
    [SC.int true IntKind.u64 (196611 : Int) (Bd.w (0 : Int) (196611 : Int) (orZero_bd (inC (Int.ofNat ((1 : Nat) + (1 : Nat))) (Int.ofNat ((6 : Nat) + (1 : Nat)))) Bd.of._proof_1)),
    SC.int true IntKind.i64 (27 : Int) (Bd.w (0 : Int) (895 : Int) (counter_bd._proof_4 (Int.ofNat ((1 : Nat) + (1 : Nat))) (Int.ofNat ((6 : Nat) + (1 : Nat)))))]), (false, [SC.boo true
    true])]) (ST.node (SV.c (SC.ptr (596 : Nat) (6 : Nat))) (ST.node (SV.tup []) (ST.node (SV.tup []) ST.nil ST.nil) ST.nil) (ST.node (SV.tup []) (ST.node (SV.tup []) ST.nil ST.nil)
    ST.nil)) (ST.node (SV.c (SC.ptr (596 : Nat) (3 : Nat))) (ST.node (SV.tup []) (ST.node (SV.tup []) ST.nil ST.nil) ST.nil) (ST.node (SV.tup []) ST.nil ST.nil))) (ST.node (SV.c (SC.ptr
    (596 : Nat) (2 : Nat))) (ST.node (SV.c (SC.ptr (596 : Nat) (2 : Nat))) (ST.node (SV.tup []) (ST.node (SV.tup []) ST.nil ST.nil) ST.nil) (ST.node (SV.tup []) (ST.node (SV.tup [])
    ST.nil ST.nil) ST.nil)) (ST.node (SV.c (SC.boo true true)) (ST.node (SV.tup []) (ST.node (SV.tup []) ST.nil ST.nil) ST.nil) (ST.node (SV.tup []) ST.nil ST.nil)))) (ST.node (SV.tup
    []) (ST.node (SV.c (SC.ptr (596 : Nat) (0 : Nat))) (ST.node (SV.c (SC.ptr (596 : Nat) (0 : Nat))) (ST.node (SV.tup []) (ST.node (SV.tup []) ST.nil ST.nil) ST.nil) (ST.node (SV.tup
    []) (ST.node (SV.tup []) ST.nil ST.nil) ST.nil)) (ST.node (SV.tup [(true, [SC.int true IntKind.u64 (196611 : Int) (Bd.w (0 : Int) (196611 : Int) (orZero_bd (inC (Int.ofNat ((1 :
    Nat) + (1 : Nat))) (Int.ofNat ((6 : Nat) + (1 : Nat)))) Bd.of._proof_1)), SC.int true IntKind.i64 (27 : Int) (Bd.w (0 : Int) (895 : Int) (counter_bd._proof_4 (Int.ofNat ((1 : Nat) +
    (1 : Nat))) (Int.ofNat ((6 : Nat) + (1 : Nat)))))]), (false, [SC.boo true true])]) (ST.node (SV.tup []) (ST.node (SV.tup []) ST.nil ST.nil) ST.nil) (ST.node (SV.tup []) ST.nil
    ST.nil))) (ST.node (SV.c (SC.ptr (596 : Nat) (0 : Nat))) (ST.node (SV.c (SC.ptr (596 : Nat) (0 : Nat))) (ST.node (SV.tup []) (ST.node (SV.tup []) ST.nil ST.nil) ST.nil) (ST.node
    (SV.tup []) ST.nil ST.nil)) (ST.node (SV.tup []) (ST.node (SV.tup []) (ST.node (SV.tup []) ST.nil ST.nil) ST.nil) (ST.node (SV.tup []) ST.nil ST.nil)))))) []) (Mem.mk [((6 : Nat),
    SO.cells [SC.int false IntKind.i64 (z (0 : Nat)), SC.int false IntKind.i64 (z (1 : Nat)), SC.int false IntKind.i64 (z (2 : Nat)), SC.int false IntKind.i64 (z (3 : Nat)), SC.int
    false IntKind.u64 (z (4 : Nat)), SC.int false IntKind.u64 (z (5 : Nat)), SC.int false IntKind.u64 (z (6 : Nat)), SC.int false IntKind.u64 (z (7 : Nat)), SC.int false IntKind.u64 (z
    (8 : Nat)), SC.int false IntKind.u64 (z (9 : Nat)), SC.int false IntKind.u64 (z (10 : Nat)), SC.int false IntKind.u64 (z (11 : Nat)), SC.int false IntKind.u64 (z (12 : Nat)),
    SC.sliv ad false ln cp, SC.int false IntKind.i64 (z (14 : Nat)), SC.int false IntKind.i64 (z (15 : Nat)), SC.int false IntKind.i64 (z (16 : Nat)), SC.int false IntKind.i64 (z (17 :
    Nat)), SC.int false IntKind.i64 (z (18 : Nat)), SC.int false IntKind.i64 (z (19 : Nat))] (31 : Nat)), ((10 : Nat), SO.ext (HO.obj [] (PA.mk (60000 : Nat) (7 : Nat) (7 : Nat) (0 :
    Nat) (1 : Nat) [(0 : Nat), (65537 : Nat), (0 : Nat), (0 : Nat), (0 : Nat), (0 : Nat), (0 : Nat), (0 : Nat), (0 : Nat)] (1 : Nat) [(1 : Nat)] [] [((1 : Nat), (65537 : Nat), [(0 :
    Nat), (0 : Nat), (0 : Nat), (0 : Nat), (0 : Nat), (0 : Nat), (0 : Nat)])] (Tly.mk (1 : Nat) (0 : Nat) (3 : Nat) (1 : Nat) (0 : Nat) (0 : Nat))))), ((11 : Nat), SO.row (OfNat.ofNat
    (25 : Nat)) (1 : Nat) (1 : Nat) cap [SC.int true IntKind.u64 (65537 : Int) Bd.any]), ((18 : Nat), SO.cells [SC.raw Value.nilFunc, SC.ptr (10 : Nat) (0 : Nat), SC.int true
    IntKind.i64 (1 : Int) Bd.any, SC.int true IntKind.i64 (1 : Int), SC.int true IntKind.u64 (65537 : Int) Bd.any, SC.int true IntKind.u64 (0 : Int) Bd.any, SC.int true IntKind.u64 (0 :
    Int), SC.int true IntKind.u64 (0 : Int), SC.int true IntKind.u64 (0 : Int), SC.int true IntKind.u64 (0 : Int), SC.int true IntKind.u64 (0 : Int), SC.int true IntKind.u64 (0 : Int),
    SC.nls] (170 : Nat)), ((370 : Nat), SO.cells [SC.int false IntKind.i64 (z_1 (0 : Nat)), SC.int false IntKind.i64 (z_1 (1 : Nat)), SC.int false IntKind.i64 (z_1 (2 : Nat)), SC.int
    false IntKind.i64 (z_1 (3 : Nat)), SC.int false IntKind.u64 (z_1 (4 : Nat)), SC.int false IntKind.u64 (z_1 (5 : Nat)), SC.int false IntKind.u64 (z_1 (6 : Nat)), SC.int false
    IntKind.u64 (z_1 (7 : Nat)), SC.int false IntKind.u64 (z_1 (8 : Nat)), SC.int false IntKind.u64 (z_1 (9 : Nat)), SC.int false IntKind.u64 (z_1 (10 : Nat)), SC.int false IntKind.u64
    (z_1 (11 : Nat)), SC.int false IntKind.u64 (z_1 (12 : Nat)), SC.sliv ad_1 false ln_1 cp_1, SC.int false IntKind.i64 (z_1 (14 : Nat)), SC.int false IntKind.i64 (z_1 (15 : Nat)),
    SC.int false IntKind.i64 (z_1 (16 : Nat)), SC.int false IntKind.i64 (z_1 (17 : Nat)), SC.int false IntKind.i64 (z_1 (18 : Nat)), SC.int false IntKind.i64 (z_1 (19 : Nat))] (31 :
    Nat)), ((374 : Nat), SO.ext (HO.obj [] (PA.mk (60000 : Nat) (49 : Nat) (49 : Nat) (0 : Nat) (3 : Nat) [(0 : Nat), (65537 : Nat), (131074 : Nat), (196611 : Nat), (0 : Nat), (0 :
    Nat), (0 : Nat), (0 : Nat), (0 : Nat)] (3 : Nat) [(1 : Nat), (2 : Nat), (3 : Nat)] [] [((1 : Nat), (65537 : Nat), [(0 : Nat), (0 : Nat), (0 : Nat), (0 : Nat), (0 : Nat), (0 : Nat),
    (1 : Nat)]), ((2 : Nat), (131074 : Nat), [(0 : Nat), (0 : Nat), (0 : Nat), (0 : Nat), (0 : Nat), (0 : Nat), (0 : Nat), (0 : Nat), (0 : Nat), (0 : Nat), (0 : Nat), (0 : Nat), (0 :
    Nat), (0 : Nat)]), ((3 : Nat), (196611 : Nat), [(0 : Nat), (0 : Nat), (0 : Nat), (0 : Nat), (0 : Nat), (0 : Nat), (0 : Nat), (0 : Nat), (0 : Nat), (0 : Nat), (0 : Nat), (0 : Nat),
    (0 : Nat), (0 : Nat), (0 : Nat), (0 : Nat), (0 : Nat), (0 : Nat), (0 : Nat), (0 : Nat), (0 : Nat), (2 : Nat), (1 : Nat), (1 : Nat), (0 : Nat), (1 : Nat), (0 : Nat), (1 : Nat)])]
    (Tly.mk (3 : Nat) (0 : Nat) (11 : Nat) (3 : Nat) (0 : Nat) (7 : Nat))))), ((375 : Nat), SO.row (OfNat.ofNat (25 : Nat)) (1 : Nat) (3 : Nat) cap_1 [SC.int true IntKind.u64 (65537 :
    Int) Bd.any, SC.int true IntKind.u64 (131074 : Int) Bd.any, SC.int true IntKind.u64 (196611 : Int) Bd.any]), ((376 : Nat), SO.cells [SC.int true IntKind.i64 (6 : Int), SC.int true
    IntKind.i64 (0 : Int), SC.int true IntKind.i64 (4 : Int)] (3 : Nat)), ((399 : Nat), SO.ext (HO.old (XO.cnt (374 : Nat) (Cnt.mk (196611 : Nat) (6 : Nat) (3 : Nat) (3 : Nat) (1 :
    Nat))))), ((469 : Nat), SO.ext (HO.old (XO.cnt (374 : Nat) (Cnt.mk (65537 : Nat) (0 : Nat) (1 : Nat) (1 : Nat) (1 : Nat))))), ((539 : Nat), SO.ext (HO.old (XO.cnt (374 : Nat)
    (Cnt.mk (196611 : Nat) (4 : Nat) (3 : Nat) (3 : Nat) (1 : Nat))))), ((596 : Nat), SO.cells [SC.fn (Fn.func (143 : Nat)) [SC.ptr (596 : Nat) (0 : Nat)] [], SC.ptr (374 : Nat) (0 :
    Nat), SC.int true IntKind.i64 (2 : Int) Bd.any, SC.int true IntKind.i64 (7 : Int) Bd.any, SC.int true IntKind.u64 (65537 : Int) Bd.any, SC.int true IntKind.u64 (131074 : Int)
    Bd.any, SC.int true IntKind.u64 (196611 : Int) Bd.any, SC.int true IntKind.u64 (0 : Int), SC.int true IntKind.u64 (0 : Int), SC.int true IntKind.u64 (0 : Int), SC.int true
    IntKind.u64 (0 : Int), SC.int true IntKind.u64 (0 : Int), SC.sli (1415 : Nat) (2 : Nat) true (0 : Nat) true (2 : Nat) cap_3] (170 : Nat)), ((1415 : Nat), SO.row (37 : Nat) (2 : Nat)
    (2 : Nat) cap_3 [SC.int true IntKind.u64 (65537 : Int) Bd.any, SC.int true IntKind.i64 (0 : Int) (Bd.w (0 : Int) (254 : Int) (slot_bd._proof_3 (Int.ofNat (0 : Nat)) (Int.ofNat ((0 :
    Nat) + (1 : Nat))))), SC.int true IntKind.u64 (196611 : Int) Bd.any, SC.int true IntKind.i64 (4 : Int) (Bd.w (0 : Int) (254 : Int) (slot_bd._proof_3 (Int.ofNat ((1 : Nat) + (1 :
    Nat))) (Int.ofNat ((4 : Nat) + (1 : Nat)))))]), ((1694 : Nat), SO.cells [SC.int true IntKind.u64 (196611 : Int) (Bd.w (0 : Int) (196611 : Int) (orZero_bd (inC (Int.ofNat ((1 : Nat)
    + (1 : Nat))) (Int.ofNat ((6 : Nat) + (1 : Nat)))) Bd.of._proof_1)), SC.int true IntKind.i64 (27 : Int) (Bd.w (0 : Int) (895 : Int) (counter_bd._proof_4 (Int.ofNat ((1 : Nat) + (1 :
    Nat))) (Int.ofNat ((6 : Nat) + (1 : Nat)))))] (47 : Nat))] (1697 : Nat)) Scr.nil ∧ True) ∧ True) ∧ True) ∧ True) ∧ True) ∧ True) ∧ True) ∧ (∀ (K : KO XP), (0 : Nat) = (0 : Nat) ∧
    cap_3 = cap_3 ∧ cap_3 = cap_3 ∧ ((0 : Nat) = (0 : Nat) ∧ cap_3 = cap_3 ∧ cap_3 = cap_3 ∧ K (SF.mk (86 : Nat) (ST.node (SV.c (SC.ptr (596 : Nat) (0 : Nat))) (ST.node (SV.tup [])
    (ST.node (SV.c (SC.boo true true)) (ST.node (SV.tup []) (ST.node (SV.c (SC.ptr (596 : Nat) (4 : Nat))) (ST.node (SV.tup []) (ST.node (SV.tup []) ST.nil ST.nil) ST.nil) (ST.node
    (SV.tup []) (ST.node (SV.tup []) ST.nil ST.nil) ST.nil)) (ST.node (SV.c (SC.ptr (596 : Nat) (0 : Nat))) (ST.node (SV.tup []) (ST.node (SV.tup []) ST.nil ST.nil) ST.nil) (ST.node
    (SV.tup []) ST.nil ST.nil))) (ST.node (SV.c (SC.ptr (596 : Nat) (0 : Nat))) (ST.node (SV.c (SC.ptr (596 : Nat) (0 : Nat))) (ST.node (SV.tup []) (ST.node (SV.tup []) ST.nil ST.nil)
    ST.nil) (ST.node (SV.tup []) (ST.node (SV.tup []) ST.nil ST.nil) ST.nil)) (ST.node (SV.agg [SC.int true IntKind.u64 (196611 : Int) (Bd.w (0 : Int) (196611 : Int) (orZero_bd (inC
    (Int.ofNat ((1 : Nat) + (1 : Nat))) (Int.ofNat ((5 : Nat) + (1 : Nat)))) Bd.of._proof_1)), SC.int true IntKind.i64 (26 : Int) (Bd.w (0 : Int) (895 : Int) (counter_bd._proof_4
    (Int.ofNat ((1 : Nat) + (1 : Nat))) (Int.ofNat ((5 : Nat) + (1 : Nat)))))]) (ST.node (SV.tup []) (ST.node (SV.tup []) ST.nil ST.nil) ST.nil) (ST.node (SV.tup []) ST.nil ST.nil))))
    (ST.node (SV.tup []) (ST.node (SV.c (SC.ptr (596 : Nat) (0 : Nat))) (ST.node (SV.c (SC.int true IntKind.u64 (196611 : Int) Bd.any)) (ST.node (SV.tup []) (ST.node (SV.tup []) ST.nil
    ST.nil) ST.nil) (ST.node (SV.tup []) (ST.node (SV.tup []) ST.nil ST.nil) ST.nil)) (ST.node (SV.c (SC.int true IntKind.i64 (6 : Int) Bd.any)) (ST.node (SV.tup []) (ST.node (SV.tup
    []) ST.nil ST.nil) ST.nil) (ST.node (SV.tup []) ST.nil ST.nil))) (ST.node (SV.c (SC.int true IntKind.i64 (2 : Int) Bd.any)) (ST.node (SV.c (SC.int true IntKind.i64 (2 : Int)
    Bd.any)) (ST.node (SV.tup []) (ST.node (SV.tup []) ST.nil ST.nil) ST.nil) (ST.node (SV.tup []) (ST.node (SV.tup []) ST.nil ST.nil) ST.nil)) (ST.node (SV.tup []) (ST.node (SV.tup [])
    (ST.node (SV.tup []) ST.nil ST.nil) ST.nil) (ST.node (SV.tup []) ST.nil ST.nil))))) (ST.node (SV.c (SC.ptr (1593 : Nat) (0 : Nat))) (ST.node (SV.tup []) (ST.node (SV.tup [(true,
    [SC.int true IntKind.u64 (196611 : Int) (Bd.w (0 : Int) (196611 : Int) (orZero_bd (inC (Int.ofNat ((1 : Nat) + (1 : Nat))) (Int.ofNat ((5 : Nat) + (1 : Nat)))) Bd.of._proof_1)),
    SC.int true IntKind.i64 (26 : Int) (Bd.w (0 : Int) (895 : Int) (counter_bd._proof_4 (Int.ofNat ((1 : Nat) + (1 : Nat))) (Int.ofNat ((5 : Nat) + (1 : Nat)))))]), (false, [SC.boo true
    true])]) (ST.node (SV.c (SC.ptr (596 : Nat) (6 : Nat))) (ST.node (SV.tup []) (ST.node (SV.tup []) ST.nil ST.nil) ST.nil) (ST.node (SV.tup []) (ST.node (SV.tup []) ST.nil ST.nil)
    ST.nil)) (ST.node (SV.c (SC.ptr (596 : Nat) (3 : Nat))) (ST.node (SV.tup []) (ST.node (SV.tup []) ST.nil ST.nil) ST.nil) (ST.node (SV.tup []) ST.nil ST.nil))) (ST.node (SV.c (SC.ptr
    (596 : Nat) (2 : Nat))) (ST.node (SV.c (SC.ptr (596 : Nat) (2 : Nat))) (ST.node (SV.tup []) (ST.node (SV.tup []) ST.nil ST.nil) ST.nil) (ST.node (SV.tup []) (ST.node (SV.tup [])
    ST.nil ST.nil) ST.nil)) (ST.node (SV.c (SC.boo true true)) (ST.node (SV.tup []) (ST.node (SV.tup []) ST.nil ST.nil) ST.nil) (ST.node (SV.tup []) ST.nil ST.nil)))) (ST.node (SV.tup
    []) (ST.node (SV.c (SC.ptr (596 : Nat) (0 : Nat))) (ST.node (SV.c (SC.ptr (596 : Nat) (0 : Nat))) (ST.node (SV.tup []) (ST.node (SV.tup []) ST.nil ST.nil) ST.nil) (ST.node (SV.tup
    []) (ST.node (SV.tup []) ST.nil ST.nil) ST.nil)) (ST.node (SV.tup [(true, [SC.int true IntKind.u64 (196611 : Int) (Bd.w (0 : Int) (196611 : Int) (orZero_bd (inC (Int.ofNat ((1 :
    Nat) + (1 : Nat))) (Int.ofNat ((5 : Nat) + (1 : Nat)))) Bd.of._proof_1)), SC.int true IntKind.i64 (26 : Int) (Bd.w (0 : Int) (895 : Int) (counter_bd._proof_4 (Int.ofNat ((1 : Nat) +
    (1 : Nat))) (Int.ofNat ((5 : Nat) + (1 : Nat)))))]), (false, [SC.boo true true])]) (ST.node (SV.tup []) (ST.node (SV.tup []) ST.nil ST.nil) ST.nil) (ST.node (SV.tup []) ST.nil
    ST.nil))) (ST.node (SV.c (SC.ptr (596 : Nat) (0 : Nat))) (ST.node (SV.c (SC.ptr (596 : Nat) (0 : Nat))) (ST.node (SV.tup []) (ST.node (SV.tup []) ST.nil ST.nil) ST.nil) (ST.node
    (SV.tup []) ST.nil ST.nil)) (ST.node (SV.tup []) (ST.node (SV.tup []) (ST.node (SV.tup []) ST.nil ST.nil) ST.nil) (ST.node (SV.tup []) ST.nil ST.nil)))))) []) (Mem.mk [((6 : Nat),
    SO.cells [SC.int false IntKind.i64 (z (0 : Nat)), SC.int false IntKind.i64 (z (1 : Nat)), SC.int false IntKind.i64 (z (2 : Nat)), SC.int false IntKind.i64 (z (3 : Nat)), SC.int
    false IntKind.u64 (z (4 : Nat)), SC.int false IntKind.u64 (z (5 : Nat)), SC.int false IntKind.u64 (z (6 : Nat)), SC.int false IntKind.u64 (z (7 : Nat)), SC.int false IntKind.u64 (z
    (8 : Nat)), SC.int false IntKind.u64 (z (9 : Nat)), SC.int false IntKind.u64 (z (10 : Nat)), SC.int false IntKind.u64 (z (11 : Nat)), SC.int false IntKind.u64 (z (12 : Nat)),
    SC.sliv ad false ln cp, SC.int false IntKind.i64 (z (14 : Nat)), SC.int false IntKind.i64 (z (15 : Nat)), SC.int false IntKind.i64 (z (16 : Nat)), SC.int false IntKind.i64 (z (17 :
    Nat)), SC.int false IntKind.i64 (z (18 : Nat)), SC.int false IntKind.i64 (z (19 : Nat))] (31 : Nat)), ((10 : Nat), SO.ext (HO.obj [] (PA.mk (60000 : Nat) (7 : Nat) (7 : Nat) (0 :
    Nat) (1 : Nat) [(0 : Nat), (65537 : Nat), (0 : Nat), (0 : Nat), (0 : Nat), (0 : Nat), (0 : Nat), (0 : Nat), (0 : Nat)] (1 : Nat) [(1 : Nat)] [] [((1 : Nat), (65537 : Nat), [(0 :
    Nat), (0 : Nat), (0 : Nat), (0 : Nat), (0 : Nat), (0 : Nat), (0 : Nat)])] (Tly.mk (1 : Nat) (0 : Nat) (3 : Nat) (1 : Nat) (0 : Nat) (0 : Nat))))), ((11 : Nat), SO.row (OfNat.ofNat
    (25 : Nat)) (1 : Nat) (1 : Nat) cap [SC.int true IntKind.u64 (65537 : Int) Bd.any]), ((18 : Nat), SO.cells [SC.raw Value.nilFunc, SC.ptr (10 : Nat) (0 : Nat), SC.int true
    IntKind.i64 (1 : Int) Bd.any, SC.int true IntKind.i64 (1 : Int), SC.int true IntKind.u64 (65537 : Int) Bd.any, SC.int true IntKind.u64 (0 : Int) Bd.any, SC.int true IntKind.u64 (0 :
    Int), SC.int true IntKind.u64 (0 : Int), SC.int true IntKind.u64 (0 : Int), SC.int true IntKind.u64 (0 : Int), SC.int true IntKind.u64 (0 : Int), SC.int true IntKind.u64 (0 : Int),
    SC.nls] (170 : Nat)), ((370 : Nat), SO.cells [SC.int false IntKind.i64 (z_1 (0 : Nat)), SC.int false IntKind.i64 (z_1 (1 : Nat)), SC.int false IntKind.i64 (z_1 (2 : Nat)), SC.int
    false IntKind.i64 (z_1 (3 : Nat)), SC.int false IntKind.u64 (z_1 (4 : Nat)), SC.int false IntKind.u64 (z_1 (5 : Nat)), SC.int false IntKind.u64 (z_1 (6 : Nat)), SC.int false
    IntKind.u64 (z_1 (7 : Nat)), SC.int false IntKind.u64 (z_1 (8 : Nat)), SC.int false IntKind.u64 (z_1 (9 : Nat)), SC.int false IntKind.u64 (z_1 (10 : Nat)), SC.int false IntKind.u64
    (z_1 (11 : Nat)), SC.int false IntKind.u64 (z_1 (12 : Nat)), SC.sliv ad_1 false ln_1 cp_1, SC.int false IntKind.i64 (z_1 (14 : Nat)), SC.int false IntKind.i64 (z_1 (15 : Nat)),
    SC.int false IntKind.i64 (z_1 (16 : Nat)), SC.int false IntKind.i64 (z_1 (17 : Nat)), SC.int false IntKind.i64 (z_1 (18 : Nat)), SC.int false IntKind.i64 (z_1 (19 : Nat))] (31 :
    Nat)), ((374 : Nat), SO.ext (HO.obj [] (PA.mk (60000 : Nat) (49 : Nat) (49 : Nat) (0 : Nat) (3 : Nat) [(0 : Nat), (65537 : Nat), (131074 : Nat), (196611 : Nat), (0 : Nat), (0 :
    Nat), (0 : Nat), (0 : Nat), (0 : Nat)] (3 : Nat) [(1 : Nat), (2 : Nat), (3 : Nat)] [] [((1 : Nat), (65537 : Nat), [(0 : Nat), (0 : Nat), (0 : Nat), (0 : Nat), (0 : Nat), (0 : Nat),
    (1 : Nat)]), ((2 : Nat), (131074 : Nat), [(0 : Nat), (0 : Nat), (0 : Nat), (0 : Nat), (0 : Nat), (0 : Nat), (0 : Nat), (0 : Nat), (0 : Nat), (0 : Nat), (0 : Nat), (0 : Nat), (0 :
    Nat), (0 : Nat)]), ((3 : Nat), (196611 : Nat), [(0 : Nat), (0 : Nat), (0 : Nat), (0 : Nat), (0 : Nat), (0 : Nat), (0 : Nat), (0 : Nat), (0 : Nat), (0 : Nat), (0 : Nat), (0 : Nat),
    (0 : Nat), (0 : Nat), (0 : Nat), (0 : Nat), (0 : Nat), (0 : Nat), (0 : Nat), (0 : Nat), (0 : Nat), (2 : Nat), (1 : Nat), (1 : Nat), (0 : Nat), (1 : Nat), (0 : Nat), (1 : Nat)])]
    (Tly.mk (3 : Nat) (0 : Nat) (10 : Nat) (3 : Nat) (0 : Nat) (7 : Nat))))), ((375 : Nat), SO.row (OfNat.ofNat (25 : Nat)) (1 : Nat) (3 : Nat) cap_1 [SC.int true IntKind.u64 (65537 :
    Int) Bd.any, SC.int true IntKind.u64 (131074 : Int) Bd.any, SC.int true IntKind.u64 (196611 : Int) Bd.any]), ((376 : Nat), SO.cells [SC.int true IntKind.i64 (6 : Int), SC.int true
    IntKind.i64 (0 : Int), SC.int true IntKind.i64 (4 : Int)] (3 : Nat)), ((399 : Nat), SO.ext (HO.old (XO.cnt (374 : Nat) (Cnt.mk (196611 : Nat) (6 : Nat) (3 : Nat) (3 : Nat) (1 :
    Nat))))), ((469 : Nat), SO.ext (HO.old (XO.cnt (374 : Nat) (Cnt.mk (65537 : Nat) (0 : Nat) (1 : Nat) (1 : Nat) (1 : Nat))))), ((539 : Nat), SO.ext (HO.old (XO.cnt (374 : Nat)
    (Cnt.mk (196611 : Nat) (4 : Nat) (3 : Nat) (3 : Nat) (1 : Nat))))), ((596 : Nat), SO.cells [SC.fn (Fn.func (143 : Nat)) [SC.ptr (596 : Nat) (0 : Nat)] [], SC.ptr (374 : Nat) (0 :
    Nat), SC.int true IntKind.i64 (2 : Int) Bd.any, SC.int true IntKind.i64 (6 : Int) Bd.any, SC.int true IntKind.u64 (65537 : Int) Bd.any, SC.int true IntKind.u64 (131074 : Int)
    Bd.any, SC.int true IntKind.u64 (196611 : Int) Bd.any, SC.int true IntKind.u64 (0 : Int), SC.int true IntKind.u64 (0 : Int), SC.int true IntKind.u64 (0 : Int), SC.int true
    IntKind.u64 (0 : Int), SC.int true IntKind.u64 (0 : Int), SC.sli (1415 : Nat) (2 : Nat) true (0 : Nat) true (2 : Nat) cap_3] (170 : Nat)), ((1415 : Nat), SO.row (37 : Nat) (2 : Nat)
    (2 : Nat) cap_3 [SC.int true IntKind.u64 (65537 : Int) Bd.any, SC.int true IntKind.i64 (0 : Int) (Bd.w (0 : Int) (254 : Int) (slot_bd._proof_3 (Int.ofNat (0 : Nat)) (Int.ofNat ((0 :
    Nat) + (1 : Nat))))), SC.int true IntKind.u64 (196611 : Int) Bd.any, SC.int true IntKind.i64 (4 : Int) (Bd.w (0 : Int) (254 : Int) (slot_bd._proof_3 (Int.ofNat ((1 : Nat) + (1 :
    Nat))) (Int.ofNat ((4 : Nat) + (1 : Nat)))))]), ((1593 : Nat), SO.cells [SC.int true IntKind.u64 (196611 : Int) (Bd.w (0 : Int) (196611 : Int) (orZero_bd (inC (Int.ofNat ((1 : Nat)
    + (1 : Nat))) (Int.ofNat ((5 : Nat) + (1 : Nat)))) Bd.of._proof_1)), SC.int true IntKind.i64 (26 : Int) (Bd.w (0 : Int) (895 : Int) (counter_bd._proof_4 (Int.ofNat ((1 : Nat) + (1 :
    Nat))) (Int.ofNat ((5 : Nat) + (1 : Nat)))))] (47 : Nat))] (1596 : Nat)) Scr.nil ∧ True) ∧ True → (0 : Nat) = (0 : Nat) ∧ cap_3 = cap_3 ∧ cap_3 = cap_3 ∧ ((0 : Nat) = (0 : Nat) ∧
    cap_3 = cap_3 ∧ cap_3 = cap_3 ∧ K (SF.mk (86 : Nat) (ST.node (SV.c (SC.ptr (596 : Nat) (0 : Nat))) (ST.node (SV.tup []) (ST.node (SV.c (SC.boo true true)) (ST.node (SV.tup [])
    (ST.node (SV.c (SC.ptr (596 : Nat) (4 : Nat))) (ST.node (SV.tup []) (ST.node (SV.tup []) ST.nil ST.nil) ST.nil) (ST.node (SV.tup []) (ST.node (SV.tup []) ST.nil ST.nil) ST.nil))
    (ST.node (SV.c (SC.ptr (596 : Nat) (0 : Nat))) (ST.node (SV.tup []) (ST.node (SV.tup []) ST.nil ST.nil) ST.nil) (ST.node (SV.tup []) ST.nil ST.nil))) (ST.node (SV.c (SC.ptr (596 :
    Nat) (0 : Nat))) (ST.node (SV.c (SC.ptr (596 : Nat) (0 : Nat))) (ST.node (SV.tup []) (ST.node (SV.tup []) ST.nil ST.nil) ST.nil) (ST.node (SV.tup []) (ST.node (SV.tup []) ST.nil
    ST.nil) ST.nil)) (ST.node (SV.agg [SC.int true IntKind.u64 (196611 : Int) (Bd.w (0 : Int) (196611 : Int) (orZero_bd (inC (Int.ofNat ((1 : Nat) + (1 : Nat))) (Int.ofNat ((5 : Nat) +
    (1 : Nat)))) Bd.of._proof_1)), SC.int true IntKind.i64 (26 : Int) (Bd.w (0 : Int) (895 : Int) (counter_bd._proof_4 (Int.ofNat ((1 : Nat) + (1 : Nat))) (Int.ofNat ((5 : Nat) + (1 :
    Nat)))))]) (ST.node (SV.tup []) (ST.node (SV.tup []) ST.nil ST.nil) ST.nil) (ST.node (SV.tup []) ST.nil ST.nil)))) (ST.node (SV.tup []) (ST.node (SV.c (SC.ptr (596 : Nat) (0 :
    Nat))) (ST.node (SV.c (SC.int true IntKind.u64 (196611 : Int) Bd.any)) (ST.node (SV.tup []) (ST.node (SV.tup []) ST.nil ST.nil) ST.nil) (ST.node (SV.tup []) (ST.node (SV.tup [])
    ST.nil ST.nil) ST.nil)) (ST.node (SV.c (SC.int true IntKind.i64 (6 : Int) Bd.any)) (ST.node (SV.tup []) (ST.node (SV.tup []) ST.nil ST.nil) ST.nil) (ST.node (SV.tup []) ST.nil
    ST.nil))) (ST.node (SV.c (SC.int true IntKind.i64 (2 : Int) Bd.any)) (ST.node (SV.c (SC.int true IntKind.i64 (2 : Int) Bd.any)) (ST.node (SV.tup []) (ST.node (SV.tup []) ST.nil
    ST.nil) ST.nil) (ST.node (SV.tup []) (ST.node (SV.tup []) ST.nil ST.nil) ST.nil)) (ST.node (SV.tup []) (ST.node (SV.tup []) (ST.node (SV.tup []) ST.nil ST.nil) ST.nil) (ST.node
    (SV.tup []) ST.nil ST.nil))))) (ST.node (SV.c (SC.ptr (1593 : Nat) (0 : Nat))) (ST.node (SV.tup []) (ST.node (SV.tup [(true, [SC.int true IntKind.u64 (196611 : Int) (Bd.w (0 : Int)
    (196611 : Int) (orZero_bd (inC (Int.ofNat ((1 : Nat) + (1 : Nat))) (Int.ofNat ((5 : Nat) + (1 : Nat)))) Bd.of._proof_1)), SC.int true IntKind.i64 (26 : Int) (Bd.w (0 : Int) (895 :
    Int) (counter_bd._proof_4 (Int.ofNat ((1 : Nat) + (1 : Nat))) (Int.ofNat ((5 : Nat) + (1 : Nat)))))]), (false, [SC.boo true true])]) (ST.node (SV.c (SC.ptr (596 : Nat) (6 : Nat)))
    (ST.node (SV.tup []) (ST.node (SV.tup []) ST.nil ST.nil) ST.nil) (ST.node (SV.tup []) (ST.node (SV.tup []) ST.nil ST.nil) ST.nil)) (ST.node (SV.c (SC.ptr (596 : Nat) (3 : Nat)))
    (ST.node (SV.tup []) (ST.node (SV.tup []) ST.nil ST.nil) ST.nil) (ST.node (SV.tup []) ST.nil ST.nil))) (ST.node (SV.c (SC.ptr (596 : Nat) (2 : Nat))) (ST.node (SV.c (SC.ptr (596 :
    Nat) (2 : Nat))) (ST.node (SV.tup []) (ST.node (SV.tup []) ST.nil ST.nil) ST.nil) (ST.node (SV.tup []) (ST.node (SV.tup []) ST.nil ST.nil) ST.nil)) (ST.node (SV.c (SC.boo true
    true)) (ST.node (SV.tup []) (ST.node (SV.tup []) ST.nil ST.nil) ST.nil) (ST.node (SV.tup []) ST.nil ST.nil)))) (ST.node (SV.tup []) (ST.node (SV.c (SC.ptr (596 : Nat) (0 : Nat)))
    (ST.node (SV.c (SC.ptr (596 : Nat) (0 : Nat))) (ST.node (SV.tup []) (ST.node (SV.tup []) ST.nil ST.nil) ST.nil) (ST.node (SV.tup []) (ST.node (SV.tup []) ST.nil ST.nil) ST.nil))
    (ST.node (SV.tup [(true, [SC.int true IntKind.u64 (196611 : Int) (Bd.w (0 : Int) (196611 : Int) (orZero_bd (inC (Int.ofNat ((1 : Nat) + (1 : Nat))) (Int.ofNat ((5 : Nat) + (1 :
    Nat)))) Bd.of._proof_1)), SC.int true IntKind.i64 (26 : Int) (Bd.w (0 : Int) (895 : Int) (counter_bd._proof_4 (Int.ofNat ((1 : Nat) + (1 : Nat))) (Int.ofNat ((5 : Nat) + (1 :
    Nat)))))]), (false, [SC.boo true true])]) (ST.node (SV.tup []) (ST.node (SV.tup []) ST.nil ST.nil) ST.nil) (ST.node (SV.tup []) ST.nil ST.nil))) (ST.node (SV.c (SC.ptr (596 : Nat)
    (0 : Nat))) (ST.node (SV.c (SC.ptr (596 : Nat) (0 : Nat))) (ST.node (SV.tup []) (ST.node (SV.tup []) ST.nil ST.nil) ST.nil) (ST.node (SV.tup []) ST.nil ST.nil)) (ST.node (SV.tup [])
    (ST.node (SV.tup []) (ST.node (SV.tup []) ST.nil ST.nil) ST.nil) (ST.node (SV.tup []) ST.nil ST.nil)))))) []) (Mem.mk [((6 : Nat), SO.cells [SC.int false IntKind.i64 (z (0 : Nat)),
    SC.int false IntKind.i64 (z (1 : Nat)), SC.int false IntKind.i64 (z (2 : Nat)), SC.int false IntKind.i64 (z (3 : Nat)), SC.int false IntKind.u64 (z (4 : Nat)), SC.int false
    IntKind.u64 (z (5 : Nat)), SC.int false IntKind.u64 (z (6 : Nat)), SC.int false IntKind.u64 (z (7 : Nat)), SC.int false IntKind.u64 (z (8 : Nat)), SC.int false IntKind.u64 (z (9 :
    Nat)), SC.int false IntKind.u64 (z (10 : Nat)), SC.int false IntKind.u64 (z (11 : Nat)), SC.int false IntKind.u64 (z (12 : Nat)), SC.sliv ad false ln cp, SC.int false IntKind.i64 (z
    (14 : Nat)), SC.int false IntKind.i64 (z (15 : Nat)), SC.int false IntKind.i64 (z (16 : Nat)), SC.int false IntKind.i64 (z (17 : Nat)), SC.int false IntKind.i64 (z (18 : Nat)),
    SC.int false IntKind.i64 (z (19 : Nat))] (31 : Nat)), ((10 : Nat), SO.ext (HO.obj [] (PA.mk (60000 : Nat) (7 : Nat) (7 : Nat) (0 : Nat) (1 : Nat) [(0 : Nat), (65537 : Nat), (0 :
    Nat), (0 : Nat), (0 : Nat), (0 : Nat), (0 : Nat), (0 : Nat), (0 : Nat)] (1 : Nat) [(1 : Nat)] [] [((1 : Nat), (65537 : Nat), [(0 : Nat), (0 : Nat), (0 : Nat), (0 : Nat), (0 : Nat),
    (0 : Nat), (0 : Nat)])] (Tly.mk (1 : Nat) (0 : Nat) (3 : Nat) (1 : Nat) (0 : Nat) (0 : Nat))))), ((11 : Nat), SO.row (OfNat.ofNat (25 : Nat)) (1 : Nat) (1 : Nat) cap [SC.int true
    IntKind.u64 (65537 : Int) Bd.any]), ((18 : Nat), SO.cells [SC.raw Value.nilFunc, SC.ptr (10 : Nat) (0 : Nat), SC.int true IntKind.i64 (1 : Int) Bd.any, SC.int true IntKind.i64 (1 :
    Int), SC.int true IntKind.u64 (65537 : Int) Bd.any, SC.int true IntKind.u64 (0 : Int) Bd.any, SC.int true IntKind.u64 (0 : Int), SC.int true IntKind.u64 (0 : Int), SC.int true
    IntKind.u64 (0 : Int), SC.int true IntKind.u64 (0 : Int), SC.int true IntKind.u64 (0 : Int), SC.int true IntKind.u64 (0 : Int), SC.nls] (170 : Nat)), ((370 : Nat), SO.cells [SC.int
    false IntKind.i64 (z_1 (0 : Nat)), SC.int false IntKind.i64 (z_1 (1 : Nat)), SC.int false IntKind.i64 (z_1 (2 : Nat)), SC.int false IntKind.i64 (z_1 (3 : Nat)), SC.int false
    IntKind.u64 (z_1 (4 : Nat)), SC.int false IntKind.u64 (z_1 (5 : Nat)), SC.int false IntKind.u64 (z_1 (6 : Nat)), SC.int false IntKind.u64 (z_1 (7 : Nat)), SC.int false IntKind.u64
    (z_1 (8 : Nat)), SC.int false IntKind.u64 (z_1 (9 : Nat)), SC.int false IntKind.u64 (z_1 (10 : Nat)), SC.int false IntKind.u64 (z_1 (11 : Nat)), SC.int false IntKind.u64 (z_1 (12 :
    Nat)), SC.sliv ad_1 false ln_1 cp_1, SC.int false IntKind.i64 (z_1 (14 : Nat)), SC.int false IntKind.i64 (z_1 (15 : Nat)), SC.int false IntKind.i64 (z_1 (16 : Nat)), SC.int false
    IntKind.i64 (z_1 (17 : Nat)), SC.int false IntKind.i64 (z_1 (18 : Nat)), SC.int false IntKind.i64 (z_1 (19 : Nat))] (31 : Nat)), ((374 : Nat), SO.ext (HO.obj [] (PA.mk (60000 : Nat)
    (49 : Nat) (49 : Nat) (0 : Nat) (3 : Nat) [(0 : Nat), (65537 : Nat), (131074 : Nat), (196611 : Nat), (0 : Nat), (0 : Nat), (0 : Nat), (0 : Nat), (0 : Nat)] (3 : Nat) [(1 : Nat), (2
    : Nat), (3 : Nat)] [] [((1 : Nat), (65537 : Nat), [(0 : Nat), (0 : Nat), (0 : Nat), (0 : Nat), (0 : Nat), (0 : Nat), (1 : Nat)]), ((2 : Nat), (131074 : Nat), [(0 : Nat), (0 : Nat),
    (0 : Nat), (0 : Nat), (0 : Nat), (0 : Nat), (0 : Nat), (0 : Nat), (0 : Nat), (0 : Nat), (0 : Nat), (0 : Nat), (0 : Nat), (0 : Nat)]), ((3 : Nat), (196611 : Nat), [(0 : Nat), (0 :
    Nat), (0 : Nat), (0 : Nat), (0 : Nat), (0 : Nat), (0 : Nat), (0 : Nat), (0 : Nat), (0 : Nat), (0 : Nat), (0 : Nat), (0 : Nat), (0 : Nat), (0 : Nat), (0 : Nat), (0 : Nat), (0 : Nat),
    (0 : Nat), (0 : Nat), (0 : Nat), (2 : Nat), (1 : Nat), (1 : Nat), (0 : Nat), (1 : Nat), (0 : Nat), (1 : Nat)])] (Tly.mk (3 : Nat) (0 : Nat) (10 : Nat) (3 : Nat) (0 : Nat) (7 :
    Nat))))), ((375 : Nat), SO.row (OfNat.ofNat (25 : Nat)) (1 : Nat) (3 : Nat) cap_1 [SC.int true IntKind.u64 (65537 : Int) Bd.any, SC.int true IntKind.u64 (131074 : Int) Bd.any,
    SC.int true IntKind.u64 (196611 : Int) Bd.any]), ((376 : Nat), SO.cells [SC.int true IntKind.i64 (6 : Int), SC.int true IntKind.i64 (0 : Int), SC.int true IntKind.i64 (4 : Int)] (3
    : Nat)), ((399 : Nat), SO.ext (HO.old (XO.cnt (374 : Nat) (Cnt.mk (196611 : Nat) (6 : Nat) (3 : Nat) (3 : Nat) (1 : Nat))))), ((469 : Nat), SO.ext (HO.old (XO.cnt (374 : Nat)
    (Cnt.mk (65537 : Nat) (0 : Nat) (1 : Nat) (1 : Nat) (1 : Nat))))), ((539 : Nat), SO.ext (HO.old (XO.cnt (374 : Nat) (Cnt.mk (196611 : Nat) (4 : Nat) (3 : Nat) (3 : Nat) (1 :
    Nat))))), ((596 : Nat), SO.cells [SC.fn (Fn.func (143 : Nat)) [SC.ptr (596 : Nat) (0 : Nat)] [], SC.ptr (374 : Nat) (0 : Nat), SC.int true IntKind.i64 (2 : Int) Bd.any, SC.int true
    IntKind.i64 (6 : Int) Bd.any, SC.int true IntKind.u64 (65537 : Int) Bd.any, SC.int true IntKind.u64 (131074 : Int) Bd.any, SC.int true IntKind.u64 (196611 : Int) Bd.any, SC.int true
    IntKind.u64 (0 : Int), SC.int true IntKind.u64 (0 : Int), SC.int true IntKind.u64 (0 : Int), SC.int true IntKind.u64 (0 : Int), SC.int true IntKind.u64 (0 : Int), SC.sli (1415 :
    Nat) (2 : Nat) true (0 : Nat) true (2 : Nat) cap_3] (170 : Nat)), ((1415 : Nat), SO.row (37 : Nat) (2 : Nat) (2 : Nat) cap_3 [SC.int true IntKind.u64 (65537 : Int) Bd.any, SC.int
    true IntKind.i64 (0 : Int) (Bd.w (0 : Int) (254 : Int) (slot_bd._proof_3 (Int.ofNat (0 : Nat)) (Int.ofNat ((0 : Nat) + (1 : Nat))))), SC.int true IntKind.u64 (196611 : Int) Bd.any,
    SC.int true IntKind.i64 (4 : Int) (Bd.w (0 : Int) (254 : Int) (slot_bd._proof_3 (Int.ofNat ((1 : Nat) + (1 : Nat))) (Int.ofNat ((4 : Nat) + (1 : Nat)))))]), ((1593 : Nat), SO.cells
    [SC.int true IntKind.u64 (196611 : Int) (Bd.w (0 : Int) (196611 : Int) (orZero_bd (inC (Int.ofNat ((1 : Nat) + (1 : Nat))) (Int.ofNat ((5 : Nat) + (1 : Nat)))) Bd.of._proof_1)),
    SC.int true IntKind.i64 (26 : Int) (Bd.w (0 : Int) (895 : Int) (counter_bd._proof_4 (Int.ofNat ((1 : Nat) + (1 : Nat))) (Int.ofNat ((5 : Nat) + (1 : Nat)))))] (47 : Nat))] (1596 :
    Nat)) Scr.nil ∧ True) ∧ True) ∧ True) ∧ True) ∧ True) ∧ True) ∧ True) ∧ (∀ (K : KO XP), (0 : Nat) = (0 : Nat) ∧ cap_3 = cap_3 ∧ cap_3 = cap_3 ∧ ((0 : Nat) = (0 : Nat) ∧ cap_3 =
    cap_3 ∧ cap_3 = cap_3 ∧ K (SF.mk (86 : Nat) (ST.node (SV.c (SC.ptr (596 : Nat) (0 : Nat))) (ST.node (SV.tup []) (ST.node (SV.c (SC.boo true true)) (ST.node (SV.tup []) (ST.node
    (SV.c (SC.ptr (596 : Nat) (4 : Nat))) (ST.node (SV.tup []) (ST.node (SV.tup []) ST.nil ST.nil) ST.nil) (ST.node (SV.tup []) (ST.node (SV.tup []) ST.nil ST.nil) ST.nil)) (ST.node
    (SV.c (SC.ptr (596 : Nat) (0 : Nat))) (ST.node (SV.tup []) (ST.node (SV.tup []) ST.nil ST.nil) ST.nil) (ST.node (SV.tup []) ST.nil ST.nil))) (ST.node (SV.c (SC.ptr (596 : Nat) (0 :
    Nat))) (ST.node (SV.c (SC.ptr (596 : Nat) (0 : Nat))) (ST.node (SV.tup []) (ST.node (SV.tup []) ST.nil ST.nil) ST.nil) (ST.node (SV.tup []) (ST.node (SV.tup []) ST.nil ST.nil)
    ST.nil)) (ST.node (SV.agg [SC.int true IntKind.u64 (196611 : Int) (Bd.w (0 : Int) (196611 : Int) (orZero_bd (inC (Int.ofNat ((1 : Nat) + (1 : Nat))) (Int.ofNat ((2 : Nat) + (1 :
    Nat)))) Bd.of._proof_1)), SC.int true IntKind.i64 (23 : Int) (Bd.w (0 : Int) (895 : Int) (counter_bd._proof_4 (Int.ofNat ((1 : Nat) + (1 : Nat))) (Int.ofNat ((2 : Nat) + (1 :
    Nat)))))]) (ST.node (SV.tup []) (ST.node (SV.tup []) ST.nil ST.nil) ST.nil) (ST.node (SV.tup []) ST.nil ST.nil)))) (ST.node (SV.tup []) (ST.node (SV.c (SC.ptr (596 : Nat) (0 :
    Nat))) (ST.node (SV.c (SC.int true IntKind.u64 (196611 : Int) Bd.any)) (ST.node (SV.tup []) (ST.node (SV.tup []) ST.nil ST.nil) ST.nil) (ST.node (SV.tup []) (ST.node (SV.tup [])
    ST.nil ST.nil) ST.nil)) (ST.node (SV.c (SC.int true IntKind.i64 (3 : Int) Bd.any)) (ST.node (SV.tup []) (ST.node (SV.tup []) ST.nil ST.nil) ST.nil) (ST.node (SV.tup []) ST.nil
    ST.nil))) (ST.node (SV.c (SC.int true IntKind.i64 (2 : Int) Bd.any)) (ST.node (SV.c (SC.int true IntKind.i64 (2 : Int) Bd.any)) (ST.node (SV.tup []) (ST.node (SV.tup []) ST.nil
    ST.nil) ST.nil) (ST.node (SV.tup []) (ST.node (SV.tup []) ST.nil ST.nil) ST.nil)) (ST.node (SV.tup []) (ST.node (SV.tup []) (ST.node (SV.tup []) ST.nil ST.nil) ST.nil) (ST.node
    (SV.tup []) ST.nil ST.nil))))) (ST.node (SV.c (SC.ptr (1510 : Nat) (0 : Nat))) (ST.node (SV.tup []) (ST.node (SV.tup [(true, [SC.int true IntKind.u64 (196611 : Int) (Bd.w (0 : Int)
    (196611 : Int) (orZero_bd (inC (Int.ofNat ((1 : Nat) + (1 : Nat))) (Int.ofNat ((2 : Nat) + (1 : Nat)))) Bd.of._proof_1)), SC.int true IntKind.i64 (23 : Int) (Bd.w (0 : Int) (895 :
    Int) (counter_bd._proof_4 (Int.ofNat ((1 : Nat) + (1 : Nat))) (Int.ofNat ((2 : Nat) + (1 : Nat)))))]), (false, [SC.boo true true])]) (ST.node (SV.c (SC.ptr (596 : Nat) (6 : Nat)))
    (ST.node (SV.tup []) (ST.node (SV.tup []) ST.nil ST.nil) ST.nil) (ST.node (SV.tup []) (ST.node (SV.tup []) ST.nil ST.nil) ST.nil)) (ST.node (SV.c (SC.ptr (596 : Nat) (3 : Nat)))
    (ST.node (SV.tup []) (ST.node (SV.tup []) ST.nil ST.nil) ST.nil) (ST.node (SV.tup []) ST.nil ST.nil))) (ST.node (SV.c (SC.ptr (596 : Nat) (2 : Nat))) (ST.node (SV.c (SC.ptr (596 :
    Nat) (2 : Nat))) (ST.node (SV.tup []) (ST.node (SV.tup []) ST.nil ST.nil) ST.nil) (ST.node (SV.tup []) (ST.node (SV.tup []) ST.nil ST.nil) ST.nil)) (ST.node (SV.c (SC.boo true
    true)) (ST.node (SV.tup []) (ST.node (SV.tup []) ST.nil ST.nil) ST.nil) (ST.node (SV.tup []) ST.nil ST.nil)))) (ST.node (SV.tup []) (ST.node (SV.c (SC.ptr (596 : Nat) (0 : Nat)))
    (ST.node (SV.c (SC.ptr (596 : Nat) (0 : Nat))) (ST.node (SV.tup []) (ST.node (SV.tup []) ST.nil ST.nil) ST.nil) (ST.node (SV.tup []) (ST.node (SV.tup []) ST.nil ST.nil) ST.nil))
    (ST.node (SV.tup [(true, [SC.int true IntKind.u64 (196611 : Int) (Bd.w (0 : Int) (196611 : Int) (orZero_bd (inC (Int.ofNat ((1 : Nat) + (1 : Nat))) (Int.ofNat ((2 : Nat) + (1 :
    Nat)))) Bd.of._proof_1)), SC.int true IntKind.i64 (23 : Int) (Bd.w (0 : Int) (895 : Int) (counter_bd._proof_4 (Int.ofNat ((1 : Nat) + (1 : Nat))) (Int.ofNat ((2 : Nat) + (1 :
    Nat)))))]), (false, [SC.boo true true])]) (ST.node (SV.tup []) (ST.node (SV.tup []) ST.nil ST.nil) ST.nil) (ST.node (SV.tup []) ST.nil ST.nil))) (ST.node (SV.c (SC.ptr (596 : Nat)
    (0 : Nat))) (ST.node (SV.c (SC.ptr (596 : Nat) (0 : Nat))) (ST.node (SV.tup []) (ST.node (SV.tup []) ST.nil ST.nil) ST.nil) (ST.node (SV.tup []) ST.nil ST.nil)) (ST.node (SV.tup [])
    (ST.node (SV.tup []) (ST.node (SV.tup []) ST.nil ST.nil) ST.nil) (ST.node (SV.tup []) ST.nil ST.nil)))))) []) (Mem.mk [((6 : Nat), SO.cells [SC.int false IntKind.i64 (z (0 : Nat)),
    SC.int false IntKind.i64 (z (1 : Nat)), SC.int false IntKind.i64 (z (2 : Nat)), SC.int false IntKind.i64 (z (3 : Nat)), SC.int false IntKind.u64 (z (4 : Nat)), SC.int false
    IntKind.u64 (z (5 : Nat)), SC.int false IntKind.u64 (z (6 : Nat)), SC.int false IntKind.u64 (z (7 : Nat)), SC.int false IntKind.u64 (z (8 : Nat)), SC.int false IntKind.u64 (z (9 :
    Nat)), SC.int false IntKind.u64 (z (10 : Nat)), SC.int false IntKind.u64 (z (11 : Nat)), SC.int false IntKind.u64 (z (12 : Nat)), SC.sliv ad false ln cp, SC.int false IntKind.i64 (z
    (14 : Nat)), SC.int false IntKind.i64 (z (15 : Nat)), SC.int false IntKind.i64 (z (16 : Nat)), SC.int false IntKind.i64 (z (17 : Nat)), SC.int false IntKind.i64 (z (18 : Nat)),
    SC.int false IntKind.i64 (z (19 : Nat))] (31 : Nat)), ((10 : Nat), SO.ext (HO.obj [] (PA.mk (60000 : Nat) (7 : Nat) (7 : Nat) (0 : Nat) (1 : Nat) [(0 : Nat), (65537 : Nat), (0 :
    Nat), (0 : Nat), (0 : Nat), (0 : Nat), (0 : Nat), (0 : Nat), (0 : Nat)] (1 : Nat) [(1 : Nat)] [] [((1 : Nat), (65537 : Nat), [(0 : Nat), (0 : Nat), (0 : Nat), (0 : Nat), (0 : Nat),
    (0 : Nat), (0 : Nat)])] (Tly.mk (1 : Nat) (0 : Nat) (3 : Nat) (1 : Nat) (0 : Nat) (0 : Nat))))), ((11 : Nat), SO.row (OfNat.ofNat (25 : Nat)) (1 : Nat) (1 : Nat) cap [SC.int true
    IntKind.u64 (65537 : Int) Bd.any]), ((18 : Nat), SO.cells [SC.raw Value.nilFunc, SC.ptr (10 : Nat) (0 : Nat), SC.int true IntKind.i64 (1 : Int) Bd.any, SC.int true IntKind.i64 (1 :
    Int), SC.int true IntKind.u64 (65537 : Int) Bd.any, SC.int true IntKind.u64 (0 : Int) Bd.any, SC.int true IntKind.u64 (0 : Int), SC.int true IntKind.u64 (0 : Int), SC.int true
    IntKind.u64 (0 : Int), SC.int true IntKind.u64 (0 : Int), SC.int true IntKind.u64 (0 : Int), SC.int true IntKind.u64 (0 : Int), SC.nls] (170 : Nat)), ((370 : Nat), SO.cells [SC.int
    false IntKind.i64 (z_1 (0 : Nat)), SC.int false IntKind.i64 (z_1 (1 : Nat)), SC.int false IntKind.i64 (z_1 (2 : Nat)), SC.int false IntKind.i64 (z_1 (3 : Nat)), SC.int false
    IntKind.u64 (z_1 (4 : Nat)), SC.int false IntKind.u64 (z_1 (5 : Nat)), SC.int false IntKind.u64 (z_1 (6 : Nat)), SC.int false IntKind.u64 (z_1 (7 : Nat)), SC.int false IntKind.u64
    (z_1 (8 : Nat)), SC.int false IntKind.u64 (z_1 (9 : Nat)), SC.int false IntKind.u64 (z_1 (10 : Nat)), SC.int false IntKind.u64 (z_1 (11 : Nat)), SC.int false IntKind.u64 (z_1 (12 :
    Nat)), SC.sliv ad_1 false ln_1 cp_1, SC.int false IntKind.i64 (z_1 (14 : Nat)), SC.int false IntKind.i64 (z_1 (15 : Nat)), SC.int false IntKind.i64 (z_1 (16 : Nat)), SC.int false
    IntKind.i64 (z_1 (17 : Nat)), SC.int false IntKind.i64 (z_1 (18 : Nat)), SC.int false IntKind.i64 (z_1 (19 : Nat))] (31 : Nat)), ((374 : Nat), SO.ext (HO.obj [] (PA.mk (60000 : Nat)
    (49 : Nat) (49 : Nat) (0 : Nat) (3 : Nat) [(0 : Nat), (65537 : Nat), (131074 : Nat), (196611 : Nat), (0 : Nat), (0 : Nat), (0 : Nat), (0 : Nat), (0 : Nat)] (3 : Nat) [(1 : Nat), (2
    : Nat), (3 : Nat)] [] [((1 : Nat), (65537 : Nat), [(0 : Nat), (0 : Nat), (0 : Nat), (0 : Nat), (0 : Nat), (0 : Nat), (1 : Nat)]), ((2 : Nat), (131074 : Nat), [(0 : Nat), (0 : Nat),
    (0 : Nat), (0 : Nat), (0 : Nat), (0 : Nat), (0 : Nat), (0 : Nat), (0 : Nat), (0 : Nat), (0 : Nat), (0 : Nat), (0 : Nat), (0 : Nat)]), ((3 : Nat), (196611 : Nat), [(0 : Nat), (0 :
    Nat), (0 : Nat), (0 : Nat), (0 : Nat), (0 : Nat), (0 : Nat), (0 : Nat), (0 : Nat), (0 : Nat), (0 : Nat), (0 : Nat), (0 : Nat), (0 : Nat), (0 : Nat), (0 : Nat), (0 : Nat), (0 : Nat),
    (0 : Nat), (0 : Nat), (0 : Nat), (2 : Nat), (1 : Nat), (1 : Nat), (0 : Nat), (1 : Nat), (0 : Nat), (1 : Nat)])] (Tly.mk (3 : Nat) (0 : Nat) (9 : Nat) (3 : Nat) (0 : Nat) (7 :
    Nat))))), ((375 : Nat), SO.row (OfNat.ofNat (25 : Nat)) (1 : Nat) (3 : Nat) cap_1 [SC.int true IntKind.u64 (65537 : Int) Bd.any, SC.int true IntKind.u64 (131074 : Int) Bd.any,
    SC.int true IntKind.u64 (196611 : Int) Bd.any]), ((376 : Nat), SO.cells [SC.int true IntKind.i64 (6 : Int), SC.int true IntKind.i64 (0 : Int), SC.int true IntKind.i64 (4 : Int)] (3
    : Nat)), ((399 : Nat), SO.ext (HO.old (XO.cnt (374 : Nat) (Cnt.mk (196611 : Nat) (6 : Nat) (3 : Nat) (3 : Nat) (1 : Nat))))), ((469 : Nat), SO.ext (HO.old (XO.cnt (374 : Nat)
    (Cnt.mk (65537 : Nat) (0 : Nat) (1 : Nat) (1 : Nat) (1 : Nat))))), ((539 : Nat), SO.ext (HO.old (XO.cnt (374 : Nat) (Cnt.mk (196611 : Nat) (4 : Nat) (3 : Nat) (3 : Nat) (1 :
    Nat))))), ((596 : Nat), SO.cells [SC.fn (Fn.func (143 : Nat)) [SC.ptr (596 : Nat) (0 : Nat)] [], SC.ptr (374 : Nat) (0 : Nat), SC.int true IntKind.i64 (2 : Int) Bd.any, SC.int true
    IntKind.i64 (3 : Int) Bd.any, SC.int true IntKind.u64 (65537 : Int) Bd.any, SC.int true IntKind.u64 (131074 : Int) Bd.any, SC.int true IntKind.u64 (196611 : Int) Bd.any, SC.int true
    IntKind.u64 (0 : Int), SC.int true IntKind.u64 (0 : Int), SC.int true IntKind.u64 (0 : Int), SC.int true IntKind.u64 (0 : Int), SC.int true IntKind.u64 (0 : Int), SC.sli (1415 :
    Nat) (2 : Nat) true (0 : Nat) true (2 : Nat) cap_3] (170 : Nat)), ((1415 : Nat), SO.row (37 : Nat) (2 : Nat) (2 : Nat) cap_3 [SC.int true IntKind.u64 (65537 : Int) Bd.any, SC.int
    true IntKind.i64 (0 : Int) (Bd.w (0 : Int) (254 : Int) (slot_bd._proof_3 (Int.ofNat (0 : Nat)) (Int.ofNat ((0 : Nat) + (1 : Nat))))), SC.int true IntKind.u64 (196611 : Int) Bd.any,
    SC.int true IntKind.i64 (4 : Int) (Bd.w (0 : Int) (254 : Int) (slot_bd._proof_3 (Int.ofNat ((1 : Nat) + (1 : Nat))) (Int.ofNat ((4 : Nat) + (1 : Nat)))))]), ((1510 : Nat), SO.cells
    [SC.int true IntKind.u64 (196611 : Int) (Bd.w (0 : Int) (196611 : Int) (orZero_bd (inC (Int.ofNat ((1 : Nat) + (1 : Nat))) (Int.ofNat ((2 : Nat) + (1 : Nat)))) Bd.of._proof_1)),
    SC.int true IntKind.i64 (23 : Int) (Bd.w (0 : Int) (895 : Int) (counter_bd._proof_4 (Int.ofNat ((1 : Nat) + (1 : Nat))) (Int.ofNat ((2 : Nat) + (1 : Nat)))))] (47 : Nat))] (1513 :
    Nat)) Scr.nil ∧ True) ∧ True → (0 : Nat) = (0 : Nat) ∧ cap_3 = cap_3 ∧ cap_3 = cap_3 ∧ ((0 : Nat) = (0 : Nat) ∧ cap_3 = cap_3 ∧ cap_3 = cap_3 ∧ K (SF.mk (86 : Nat) (ST.node (SV.c
    (SC.ptr (596 : Nat) (0 : Nat))) (ST.node (SV.tup []) (ST.node (SV.c (SC.boo true true)) (ST.node (SV.tup []) (ST.node (SV.c (SC.ptr (596 : Nat) (4 : Nat))) (ST.node (SV.tup [])
    (ST.node (SV.tup []) ST.nil ST.nil) ST.nil) (ST.node (SV.tup []) (ST.node (SV.tup []) ST.nil ST.nil) ST.nil)) (ST.node (SV.c (SC.ptr (596 : Nat) (0 : Nat))) (ST.node (SV.tup [])
    (ST.node (SV.tup []) ST.nil ST.nil) ST.nil) (ST.node (SV.tup []) ST.nil ST.nil))) (ST.node (SV.c (SC.ptr (596 : Nat) (0 : Nat))) (ST.node (SV.c (SC.ptr (596 : Nat) (0 : Nat)))
    (ST.node (SV.tup []) (ST.node (SV.tup []) ST.nil ST.nil) ST.nil) (ST.node (SV.tup []) (ST.node (SV.tup []) ST.nil ST.nil) ST.nil)) (ST.node (SV.agg [SC.int true IntKind.u64 (196611
    : Int) (Bd.w (0 : Int) (196611 : Int) (orZero_bd (inC (Int.ofNat ((1 : Nat) + (1 : Nat))) (Int.ofNat ((2 : Nat) + (1 : Nat)))) Bd.of._proof_1)), SC.int true IntKind.i64 (23 : Int)
    (Bd.w (0 : Int) (895 : Int) (counter_bd._proof_4 (Int.ofNat ((1 : Nat) + (1 : Nat))) (Int.ofNat ((2 : Nat) + (1 : Nat)))))]) (ST.node (SV.tup []) (ST.node (SV.tup []) ST.nil ST.nil)
    ST.nil) (ST.node (SV.tup []) ST.nil ST.nil)))) (ST.node (SV.tup []) (ST.node (SV.c (SC.ptr (596 : Nat) (0 : Nat))) (ST.node (SV.c (SC.int true IntKind.u64 (196611 : Int) Bd.any))
    (ST.node (SV.tup []) (ST.node (SV.tup []) ST.nil ST.nil) ST.nil) (ST.node (SV.tup []) (ST.node (SV.tup []) ST.nil ST.nil) ST.nil)) (ST.node (SV.c (SC.int true IntKind.i64 (3 : Int)
    Bd.any)) (ST.node (SV.tup []) (ST.node (SV.tup []) ST.nil ST.nil) ST.nil) (ST.node (SV.tup []) ST.nil ST.nil))) (ST.node (SV.c (SC.int true IntKind.i64 (2 : Int) Bd.any)) (ST.node
    (SV.c (SC.int true IntKind.i64 (2 : Int) Bd.any)) (ST.node (SV.tup []) (ST.node (SV.tup []) ST.nil ST.nil) ST.nil) (ST.node (SV.tup []) (ST.node (SV.tup []) ST.nil ST.nil) ST.nil))
    (ST.node (SV.tup []) (ST.node (SV.tup []) (ST.node (SV.tup []) ST.nil ST.nil) ST.nil) (ST.node (SV.tup []) ST.nil ST.nil))))) (ST.node (SV.c (SC.ptr (1510 : Nat) (0 : Nat)))
    (ST.node (SV.tup []) (ST.node (SV.tup [(true, [SC.int true IntKind.u64 (196611 : Int) (Bd.w (0 : Int) (196611 : Int) (orZero_bd (inC (Int.ofNat ((1 : Nat) + (1 : Nat))) (Int.ofNat
    ((2 : Nat) + (1 : Nat)))) Bd.of._proof_1)), SC.int true IntKind.i64 (23 : Int) (Bd.w (0 : Int) (895 : Int) (counter_bd._proof_4 (Int.ofNat ((1 : Nat) + (1 : Nat))) (Int.ofNat ((2 :
    Nat) + (1 : Nat)))))]), (false, [SC.boo true true])]) (ST.node (SV.c (SC.ptr (596 : Nat) (6 : Nat))) (ST.node (SV.tup []) (ST.node (SV.tup []) ST.nil ST.nil) ST.nil) (ST.node
    (SV.tup []) (ST.node (SV.tup []) ST.nil ST.nil) ST.nil)) (ST.node (SV.c (SC.ptr (596 : Nat) (3 : Nat))) (ST.node (SV.tup []) (ST.node (SV.tup []) ST.nil ST.nil) ST.nil) (ST.node
    (SV.tup []) ST.nil ST.nil))) (ST.node (SV.c (SC.ptr (596 : Nat) (2 : Nat))) (ST.node (SV.c (SC.ptr (596 : Nat) (2 : Nat))) (ST.node (SV.tup []) (ST.node (SV.tup []) ST.nil ST.nil)
    ST.nil) (ST.node (SV.tup []) (ST.node (SV.tup []) ST.nil ST.nil) ST.nil)) (ST.node (SV.c (SC.boo true true)) (ST.node (SV.tup []) (ST.node (SV.tup []) ST.nil ST.nil) ST.nil)
    (ST.node (SV.tup []) ST.nil ST.nil)))) (ST.node (SV.tup []) (ST.node (SV.c (SC.ptr (596 : Nat) (0 : Nat))) (ST.node (SV.c (SC.ptr (596 : Nat) (0 : Nat))) (ST.node (SV.tup [])
    (ST.node (SV.tup []) ST.nil ST.nil) ST.nil) (ST.node (SV.tup []) (ST.node (SV.tup []) ST.nil ST.nil) ST.nil)) (ST.node (SV.tup [(true, [SC.int true IntKind.u64 (196611 : Int) (Bd.w
    (0 : Int) (196611 : Int) (orZero_bd (inC (Int.ofNat ((1 : Nat) + (1 : Nat))) (Int.ofNat ((2 : Nat) + (1 : Nat)))) Bd.of._proof_1)), SC.int true IntKind.i64 (23 : Int) (Bd.w (0 :
    Int) (895 : Int) (counter_bd._proof_4 (Int.ofNat ((1 : Nat) + (1 : Nat))) (Int.ofNat ((2 : Nat) + (1 : Nat)))))]), (false, [SC.boo true true])]) (ST.node (SV.tup []) (ST.node
    (SV.tup []) ST.nil ST.nil) ST.nil) (ST.node (SV.tup []) ST.nil ST.nil))) (ST.node (SV.c (SC.ptr (596 : Nat) (0 : Nat))) (ST.node (SV.c (SC.ptr (596 : Nat) (0 : Nat))) (ST.node
    (SV.tup []) (ST.node (SV.tup []) ST.nil ST.nil) ST.nil) (ST.node (SV.tup []) ST.nil ST.nil)) (ST.node (SV.tup []) (ST.node (SV.tup []) (ST.node (SV.tup []) ST.nil ST.nil) ST.nil)
    (ST.node (SV.tup []) ST.nil ST.nil)))))) []) (Mem.mk [((6 : Nat), SO.cells [SC.int false IntKind.i64 (z (0 : Nat)), SC.int false IntKind.i64 (z (1 : Nat)), SC.int false IntKind.i64
    (z (2 : Nat)), SC.int false IntKind.i64 (z (3 : Nat)), SC.int false IntKind.u64 (z (4 : Nat)), SC.int false IntKind.u64 (z (5 : Nat)), SC.int false IntKind.u64 (z (6 : Nat)), SC.int
    false IntKind.u64 (z (7 : Nat)), SC.int false IntKind.u64 (z (8 : Nat)), SC.int false IntKind.u64 (z (9 : Nat)), SC.int false IntKind.u64 (z (10 : Nat)), SC.int false IntKind.u64 (z
    (11 : Nat)), SC.int false IntKind.u64 (z (12 : Nat)), SC.sliv ad false ln cp, SC.int false IntKind.i64 (z (14 : Nat)), SC.int false IntKind.i64 (z (15 : Nat)), SC.int false
    IntKind.i64 (z (16 : Nat)), SC.int false IntKind.i64 (z (17 : Nat)), SC.int false IntKind.i64 (z (18 : Nat)), SC.int false IntKind.i64 (z (19 : Nat))] (31 : Nat)), ((10 : Nat),
    SO.ext (HO.obj [] (PA.mk (60000 : Nat) (7 : Nat) (7 : Nat) (0 : Nat) (1 : Nat) [(0 : Nat), (65537 : Nat), (0 : Nat), (0 : Nat), (0 : Nat), (0 : Nat), (0 : Nat), (0 : Nat), (0 :
    Nat)] (1 : Nat) [(1 : Nat)] [] [((1 : Nat), (65537 : Nat), [(0 : Nat), (0 : Nat), (0 : Nat), (0 : Nat), (0 : Nat), (0 : Nat), (0 : Nat)])] (Tly.mk (1 : Nat) (0 : Nat) (3 : Nat) (1 :
    Nat) (0 : Nat) (0 : Nat))))), ((11 : Nat), SO.row (OfNat.ofNat (25 : Nat)) (1 : Nat) (1 : Nat) cap [SC.int true IntKind.u64 (65537 : Int) Bd.any]), ((18 : Nat), SO.cells [SC.raw
    Value.nilFunc, SC.ptr (10 : Nat) (0 : Nat), SC.int true IntKind.i64 (1 : Int) Bd.any, SC.int true IntKind.i64 (1 : Int), SC.int true IntKind.u64 (65537 : Int) Bd.any, SC.int true
    IntKind.u64 (0 : Int) Bd.any, SC.int true IntKind.u64 (0 : Int), SC.int true IntKind.u64 (0 : Int), SC.int true IntKind.u64 (0 : Int), SC.int true IntKind.u64 (0 : Int), SC.int true
    IntKind.u64 (0 : Int), SC.int true IntKind.u64 (0 : Int), SC.nls] (170 : Nat)), ((370 : Nat), SO.cells [SC.int false IntKind.i64 (z_1 (0 : Nat)), SC.int false IntKind.i64 (z_1 (1 :
    Nat)), SC.int false IntKind.i64 (z_1 (2 : Nat)), SC.int false IntKind.i64 (z_1 (3 : Nat)), SC.int false IntKind.u64 (z_1 (4 : Nat)), SC.int false IntKind.u64 (z_1 (5 : Nat)), SC.int
    false IntKind.u64 (z_1 (6 : Nat)), SC.int false IntKind.u64 (z_1 (7 : Nat)), SC.int false IntKind.u64 (z_1 (8 : Nat)), SC.int false IntKind.u64 (z_1 (9 : Nat)), SC.int false
    IntKind.u64 (z_1 (10 : Nat)), SC.int false IntKind.u64 (z_1 (11 : Nat)), SC.int false IntKind.u64 (z_1 (12 : Nat)), SC.sliv ad_1 false ln_1 cp_1, SC.int false IntKind.i64 (z_1 (14 :
    Nat)), SC.int false IntKind.i64 (z_1 (15 : Nat)), SC.int false IntKind.i64 (z_1 (16 : Nat)), SC.int false IntKind.i64 (z_1 (17 : Nat)), SC.int false IntKind.i64 (z_1 (18 : Nat)),
    SC.int false IntKind.i64 (z_1 (19 : Nat))] (31 : Nat)), ((374 : Nat), SO.ext (HO.obj [] (PA.mk (60000 : Nat) (49 : Nat) (49 : Nat) (0 : Nat) (3 : Nat) [(0 : Nat), (65537 : Nat),
    (131074 : Nat), (196611 : Nat), (0 : Nat), (0 : Nat), (0 : Nat), (0 : Nat), (0 : Nat)] (3 : Nat) [(1 : Nat), (2 : Nat), (3 : Nat)] [] [((1 : Nat), (65537 : Nat), [(0 : Nat), (0 :
    Nat), (0 : Nat), (0 : Nat), (0 : Nat), (0 : Nat), (1 : Nat)]), ((2 : Nat), (131074 : Nat), [(0 : Nat), (0 : Nat), (0 : Nat), (0 : Nat), (0 : Nat), (0 : Nat), (0 : Nat), (0 : Nat),
    (0 : Nat), (0 : Nat), (0 : Nat), (0 : Nat), (0 : Nat), (0 : Nat)]), ((3 : Nat), (196611 : Nat), [(0 : Nat), (0 : Nat), (0 : Nat), (0 : Nat), (0 : Nat), (0 : Nat), (0 : Nat), (0 :
    Nat), (0 : Nat), (0 : Nat), (0 : Nat), (0 : Nat), (0 : Nat), (0 : Nat), (0 : Nat), (0 : Nat), (0 : Nat), (0 : Nat), (0 : Nat), (0 : Nat), (0 : Nat), (2 : Nat), (1 : Nat), (1 : Nat),
    (0 : Nat), (1 : Nat), (0 : Nat), (1 : Nat)])] (Tly.mk (3 : Nat) (0 : Nat) (9 : Nat) (3 : Nat) (0 : Nat) (7 : Nat))))), ((375 : Nat), SO.row (OfNat.ofNat (25 : Nat)) (1 : Nat) (3 :
    Nat) cap_1 [SC.int true IntKind.u64 (65537 : Int) Bd.any, SC.int true IntKind.u64 (131074 : Int) Bd.any, SC.int true IntKind.u64 (196611 : Int) Bd.any]), ((376 : Nat), SO.cells
    [SC.int true IntKind.i64 (6 : Int), SC.int true IntKind.i64 (0 : Int), SC.int true IntKind.i64 (4 : Int)] (3 : Nat)), ((399 : Nat), SO.ext (HO.old (XO.cnt (374 : Nat) (Cnt.mk
    (196611 : Nat) (6 : Nat) (3 : Nat) (3 : Nat) (1 : Nat))))), ((469 : Nat), SO.ext (HO.old (XO.cnt (374 : Nat) (Cnt.mk (65537 : Nat) (0 : Nat) (1 : Nat) (1 : Nat) (1 : Nat))))), ((539
    : Nat), SO.ext (HO.old (XO.cnt (374 : Nat) (Cnt.mk (196611 : Nat) (4 : Nat) (3 : Nat) (3 : Nat) (1 : Nat))))), ((596 : Nat), SO.cells [SC.fn (Fn.func (143 : Nat)) [SC.ptr (596 :
    Nat) (0 : Nat)] [], SC.ptr (374 : Nat) (0 : Nat), SC.int true IntKind.i64 (2 : Int) Bd.any, SC.int true IntKind.i64 (3 : Int) Bd.any, SC.int true IntKind.u64 (65537 : Int) Bd.any,
    SC.int true IntKind.u64 (131074 : Int) Bd.any, SC.int true IntKind.u64 (196611 : Int) Bd.any, SC.int true IntKind.u64 (0 : Int), SC.int true IntKind.u64 (0 : Int), SC.int true
    IntKind.u64 (0 : Int), SC.int true IntKind.u64 (0 : Int), SC.int true IntKind.u64 (0 : Int), SC.sli (1415 : Nat) (2 : Nat) true (0 : Nat) true (2 : Nat) cap_3] (170 : Nat)), ((1415
    : Nat), SO.row (37 : Nat) (2 : Nat) (2 : Nat) cap_3 [SC.int true IntKind.u64 (65537 : Int) Bd.any, SC.int true IntKind.i64 (0 : Int) (Bd.w (0 : Int) (254 : Int) (slot_bd._proof_3
    (Int.ofNat (0 : Nat)) (Int.ofNat ((0 : Nat) + (1 : Nat))))), SC.int true IntKind.u64 (196611 : Int) Bd.any, SC.int true IntKind.i64 (4 : Int) (Bd.w (0 : Int) (254 : Int)
    (slot_bd._proof_3 (Int.ofNat ((1 : Nat) + (1 : Nat))) (Int.ofNat ((4 : Nat) + (1 : Nat)))))]), ((1510 : Nat), SO.cells [SC.int true IntKind.u64 (196611 : Int) (Bd.w (0 : Int)
    (196611 : Int) (orZero_bd (inC (Int.ofNat ((1 : Nat) + (1 : Nat))) (Int.ofNat ((2 : Nat) + (1 : Nat)))) Bd.of._proof_1)), SC.int true IntKind.i64 (23 : Int) (Bd.w (0 : Int) (895 :
    Int) (counter_bd._proof_4 (Int.ofNat ((1 : Nat) + (1 : Nat))) (Int.ofNat ((2 : Nat) + (1 : Nat)))))] (47 : Nat))] (1513 : Nat)) Scr.nil ∧ True) ∧ True) ∧ True) ∧ True) ∧ True) ∧
    True) ∧ True) ∧ True) ∧ True) ∧ True) ∧ (∀ (K : KO XP), (0 : Nat) = (0 : Nat) ∧ cap_2 = cap_2 ∧ cap_2 = cap_2 ∧ ((0 : Nat) = (0 : Nat) ∧ cap_2 = cap_2 ∧ cap_2 = cap_2 ∧ K (SF.mk (86
    : Nat) (ST.node (SV.c (SC.ptr (596 : Nat) (0 : Nat))) (ST.node (SV.tup []) (ST.node (SV.c (SC.boo true true)) (ST.node (SV.tup []) (ST.node (SV.c (SC.ptr (596 : Nat) (4 : Nat)))
    (ST.node (SV.tup []) (ST.node (SV.tup []) ST.nil ST.nil) ST.nil) (ST.node (SV.tup []) (ST.node (SV.tup []) ST.nil ST.nil) ST.nil)) (ST.node (SV.c (SC.ptr (596 : Nat) (0 : Nat)))
    (ST.node (SV.tup []) (ST.node (SV.tup []) ST.nil ST.nil) ST.nil) (ST.node (SV.tup []) ST.nil ST.nil))) (ST.node (SV.c (SC.ptr (596 : Nat) (0 : Nat))) (ST.node (SV.c (SC.ptr (596 :
    Nat) (0 : Nat))) (ST.node (SV.tup []) (ST.node (SV.tup []) ST.nil ST.nil) ST.nil) (ST.node (SV.tup []) (ST.node (SV.tup []) ST.nil ST.nil) ST.nil)) (ST.node (SV.agg [SC.int true
    IntKind.u64 (196611 : Int) (Bd.w (0 : Int) (196611 : Int) (orZero_bd (inC (Int.ofNat ((1 : Nat) + (1 : Nat))) (Int.ofNat ((4 : Nat) + (1 : Nat)))) Bd.of._proof_1)), SC.int true
    IntKind.i64 (25 : Int) (Bd.w (0 : Int) (895 : Int) (counter_bd._proof_4 (Int.ofNat ((1 : Nat) + (1 : Nat))) (Int.ofNat ((4 : Nat) + (1 : Nat)))))]) (ST.node (SV.tup []) (ST.node
    (SV.tup []) ST.nil ST.nil) ST.nil) (ST.node (SV.tup []) ST.nil ST.nil)))) (ST.node (SV.tup []) (ST.node (SV.c (SC.ptr (596 : Nat) (0 : Nat))) (ST.node (SV.c (SC.int true IntKind.u64
    (196611 : Int) Bd.any)) (ST.node (SV.tup []) (ST.node (SV.tup []) ST.nil ST.nil) ST.nil) (ST.node (SV.tup []) (ST.node (SV.tup []) ST.nil ST.nil) ST.nil)) (ST.node (SV.c (SC.int
    true IntKind.i64 (5 : Int) Bd.any)) (ST.node (SV.tup []) (ST.node (SV.tup []) ST.nil ST.nil) ST.nil) (ST.node (SV.tup []) ST.nil ST.nil))) (ST.node (SV.c (SC.int true IntKind.i64 (2
    : Int) Bd.any)) (ST.node (SV.c (SC.int true IntKind.i64 (2 : Int) Bd.any)) (ST.node (SV.tup []) (ST.node (SV.tup []) ST.nil ST.nil) ST.nil) (ST.node (SV.tup []) (ST.node (SV.tup [])
    ST.nil ST.nil) ST.nil)) (ST.node (SV.tup []) (ST.node (SV.tup []) (ST.node (SV.tup []) ST.nil ST.nil) ST.nil) (ST.node (SV.tup []) ST.nil ST.nil))))) (ST.node (SV.c (SC.ptr (1365 :
    Nat) (0 : Nat))) (ST.node (SV.tup []) (ST.node (SV.tup [(true, [SC.int true IntKind.u64 (196611 : Int) (Bd.w (0 : Int) (196611 : Int) (orZero_bd (inC (Int.ofNat ((1 : Nat) + (1 :
    Nat))) (Int.ofNat ((4 : Nat) + (1 : Nat)))) Bd.of._proof_1)), SC.int true IntKind.i64 (25 : Int) (Bd.w (0 : Int) (895 : Int) (counter_bd._proof_4 (Int.ofNat ((1 : Nat) + (1 : Nat)))
    (Int.ofNat ((4 : Nat) + (1 : Nat)))))]), (false, [SC.boo true true])]) (ST.node (SV.c (SC.ptr (596 : Nat) (6 : Nat))) (ST.node (SV.tup []) (ST.node (SV.tup []) ST.nil ST.nil)
    ST.nil) (ST.node (SV.tup []) (ST.node (SV.tup []) ST.nil ST.nil) ST.nil)) (ST.node (SV.c (SC.ptr (596 : Nat) (3 : Nat))) (ST.node (SV.tup []) (ST.node (SV.tup []) ST.nil ST.nil)
    ST.nil) (ST.node (SV.tup []) ST.nil ST.nil))) (ST.node (SV.c (SC.ptr (596 : Nat) (2 : Nat))) (ST.node (SV.c (SC.ptr (596 : Nat) (2 : Nat))) (ST.node (SV.tup []) (ST.node (SV.tup [])
    ST.nil ST.nil) ST.nil) (ST.node (SV.tup []) (ST.node (SV.tup []) ST.nil ST.nil) ST.nil)) (ST.node (SV.c (SC.boo true true)) (ST.node (SV.tup []) (ST.node (SV.tup []) ST.nil ST.nil)
    ST.nil) (ST.node (SV.tup []) ST.nil ST.nil)))) (ST.node (SV.tup []) (ST.node (SV.c (SC.ptr (596 : Nat) (0 : Nat))) (ST.node (SV.c (SC.ptr (596 : Nat) (0 : Nat))) (ST.node (SV.tup
    []) (ST.node (SV.tup []) ST.nil ST.nil) ST.nil) (ST.node (SV.tup []) (ST.node (SV.tup []) ST.nil ST.nil) ST.nil)) (ST.node (SV.tup [(true, [SC.int true IntKind.u64 (196611 : Int)
    (Bd.w (0 : Int) (196611 : Int) (orZero_bd (inC (Int.ofNat ((1 : Nat) + (1 : Nat))) (Int.ofNat ((4 : Nat) + (1 : Nat)))) Bd.of._proof_1)), SC.int true IntKind.i64 (25 : Int) (Bd.w (0
    : Int) (895 : Int) (counter_bd._proof_4 (Int.ofNat ((1 : Nat) + (1 : Nat))) (Int.ofNat ((4 : Nat) + (1 : Nat)))))]), (false, [SC.boo true true])]) (ST.node (SV.tup []) (ST.node
    (SV.tup []) ST.nil ST.nil) ST.nil) (ST.node (SV.tup []) ST.nil ST.nil))) (ST.node (SV.c (SC.ptr (596 : Nat) (0 : Nat))) (ST.node (SV.c (SC.ptr (596 : Nat) (0 : Nat))) (ST.node
    (SV.tup []) (ST.node (SV.tup []) ST.nil ST.nil) ST.nil) (ST.node (SV.tup []) ST.nil ST.nil)) (ST.node (SV.tup []) (ST.node (SV.tup []) (ST.node (SV.tup []) ST.nil ST.nil) ST.nil)
    (ST.node (SV.tup []) ST.nil ST.nil)))))) []) (Mem.mk [((6 : Nat), SO.cells [SC.int false IntKind.i64 (z (0 : Nat)), SC.int false IntKind.i64 (z (1 : Nat)), SC.int false IntKind.i64
    (z (2 : Nat)), SC.int false IntKind.i64 (z (3 : Nat)), SC.int false IntKind.u64 (z (4 : Nat)), SC.int false IntKind.u64 (z (5 : Nat)), SC.int false IntKind.u64 (z (6 : Nat)), SC.int
    false IntKind.u64 (z (7 : Nat)), SC.int false IntKind.u64 (z (8 : Nat)), SC.int false IntKind.u64 (z (9 : Nat)), SC.int false IntKind.u64 (z (10 : Nat)), SC.int false IntKind.u64 (z
    (11 : Nat)), SC.int false IntKind.u64 (z (12 : Nat)), SC.sliv ad false ln cp, SC.int false IntKind.i64 (z (14 : Nat)), SC.int false IntKind.i64 (z (15 : Nat)), SC.int false
    IntKind.i64 (z (16 : Nat)), SC.int false IntKind.i64 (z (17 : Nat)), SC.int false IntKind.i64 (z (18 : Nat)), SC.int false IntKind.i64 (z (19 : Nat))] (31 : Nat)), ((10 : Nat),
    SO.ext (HO.obj [] (PA.mk (60000 : Nat) (7 : Nat) (7 : Nat) (0 : Nat) (1 : Nat) [(0 : Nat), (65537 : Nat), (0 : Nat), (0 : Nat), (0 : Nat), (0 : Nat), (0 : Nat), (0 : Nat), (0 :
    Nat)] (1 : Nat) [(1 : Nat)] [] [((1 : Nat), (65537 : Nat), [(0 : Nat), (0 : Nat), (0 : Nat), (0 : Nat), (0 : Nat), (0 : Nat), (0 : Nat)])] (Tly.mk (1 : Nat) (0 : Nat) (3 : Nat) (1 :
    Nat) (0 : Nat) (0 : Nat))))), ((11 : Nat), SO.row (OfNat.ofNat (25 : Nat)) (1 : Nat) (1 : Nat) cap [SC.int true IntKind.u64 (65537 : Int) Bd.any]), ((18 : Nat), SO.cells [SC.raw
    Value.nilFunc, SC.ptr (10 : Nat) (0 : Nat), SC.int true IntKind.i64 (1 : Int) Bd.any, SC.int true IntKind.i64 (1 : Int), SC.int true IntKind.u64 (65537 : Int) Bd.any, SC.int true
    IntKind.u64 (0 : Int) Bd.any, SC.int true IntKind.u64 (0 : Int), SC.int true IntKind.u64 (0 : Int), SC.int true IntKind.u64 (0 : Int), SC.int true IntKind.u64 (0 : Int), SC.int true
    IntKind.u64 (0 : Int), SC.int true IntKind.u64 (0 : Int), SC.nls] (170 : Nat)), ((370 : Nat), SO.cells [SC.int false IntKind.i64 (z_1 (0 : Nat)), SC.int false IntKind.i64 (z_1 (1 :
    Nat)), SC.int false IntKind.i64 (z_1 (2 : Nat)), SC.int false IntKind.i64 (z_1 (3 : Nat)), SC.int false IntKind.u64 (z_1 (4 : Nat)), SC.int false IntKind.u64 (z_1 (5 : Nat)), SC.int
    false IntKind.u64 (z_1 (6 : Nat)), SC.int false IntKind.u64 (z_1 (7 : Nat)), SC.int false IntKind.u64 (z_1 (8 : Nat)), SC.int false IntKind.u64 (z_1 (9 : Nat)), SC.int false
    IntKind.u64 (z_1 (10 : Nat)), SC.int false IntKind.u64 (z_1 (11 : Nat)), SC.int false IntKind.u64 (z_1 (12 : Nat)), SC.sliv ad_1 false ln_1 cp_1, SC.int false IntKind.i64 (z_1 (14 :
    Nat)), SC.int false IntKind.i64 (z_1 (15 : Nat)), SC.int false IntKind.i64 (z_1 (16 : Nat)), SC.int false IntKind.i64 (z_1 (17 : Nat)), SC.int false IntKind.i64 (z_1 (18 : Nat)),
    SC.int false IntKind.i64 (z_1 (19 : Nat))] (31 : Nat)), ((374 : Nat), SO.ext (HO.obj [] (PA.mk (60000 : Nat) (49 : Nat) (49 : Nat) (0 : Nat) (3 : Nat) [(0 : Nat), (65537 : Nat),
    (131074 : Nat), (196611 : Nat), (0 : Nat), (0 : Nat), (0 : Nat), (0 : Nat), (0 : Nat)] (3 : Nat) [(1 : Nat), (2 : Nat), (3 : Nat)] [] [((1 : Nat), (65537 : Nat), [(0 : Nat), (0 :
    Nat), (0 : Nat), (0 : Nat), (0 : Nat), (0 : Nat), (1 : Nat)]), ((2 : Nat), (131074 : Nat), [(0 : Nat), (0 : Nat), (0 : Nat), (0 : Nat), (0 : Nat), (0 : Nat), (0 : Nat), (0 : Nat),
    (0 : Nat), (0 : Nat), (0 : Nat), (0 : Nat), (0 : Nat), (0 : Nat)]), ((3 : Nat), (196611 : Nat), [(0 : Nat), (0 : Nat), (0 : Nat), (0 : Nat), (0 : Nat), (0 : Nat), (0 : Nat), (0 :
    Nat), (0 : Nat), (0 : Nat), (0 : Nat), (0 : Nat), (0 : Nat), (0 : Nat), (0 : Nat), (0 : Nat), (0 : Nat), (0 : Nat), (0 : Nat), (0 : Nat), (0 : Nat), (2 : Nat), (1 : Nat), (1 : Nat),
    (0 : Nat), (1 : Nat), (0 : Nat), (1 : Nat)])] (Tly.mk (3 : Nat) (0 : Nat) (8 : Nat) (3 : Nat) (0 : Nat) (7 : Nat))))), ((375 : Nat), SO.row (OfNat.ofNat (25 : Nat)) (1 : Nat) (3 :
    Nat) cap_1 [SC.int true IntKind.u64 (65537 : Int) Bd.any, SC.int true IntKind.u64 (131074 : Int) Bd.any, SC.int true IntKind.u64 (196611 : Int) Bd.any]), ((376 : Nat), SO.cells
    [SC.int true IntKind.i64 (6 : Int), SC.int true IntKind.i64 (0 : Int), SC.int true IntKind.i64 (4 : Int)] (3 : Nat)), ((399 : Nat), SO.ext (HO.old (XO.cnt (374 : Nat) (Cnt.mk
    (196611 : Nat) (6 : Nat) (3 : Nat) (3 : Nat) (1 : Nat))))), ((469 : Nat), SO.ext (HO.old (XO.cnt (374 : Nat) (Cnt.mk (65537 : Nat) (0 : Nat) (1 : Nat) (1 : Nat) (1 : Nat))))), ((539
    : Nat), SO.ext (HO.old (XO.cnt (374 : Nat) (Cnt.mk (196611 : Nat) (4 : Nat) (3 : Nat) (3 : Nat) (1 : Nat))))), ((596 : Nat), SO.cells [SC.fn (Fn.func (143 : Nat)) [SC.ptr (596 :
    Nat) (0 : Nat)] [], SC.ptr (374 : Nat) (0 : Nat), SC.int true IntKind.i64 (2 : Int) Bd.any, SC.int true IntKind.i64 (5 : Int) Bd.any, SC.int true IntKind.u64 (65537 : Int) Bd.any,
    SC.int true IntKind.u64 (131074 : Int) Bd.any, SC.int true IntKind.u64 (196611 : Int) Bd.any, SC.int true IntKind.u64 (0 : Int), SC.int true IntKind.u64 (0 : Int), SC.int true
    IntKind.u64 (0 : Int), SC.int true IntKind.u64 (0 : Int), SC.int true IntKind.u64 (0 : Int), SC.sli (765 : Nat) (2 : Nat) true (0 : Nat) true (1 : Nat) cap_2] (170 : Nat)), ((765 :
    Nat), SO.row (37 : Nat) (2 : Nat) (1 : Nat) cap_2 [SC.int true IntKind.u64 (65537 : Int) Bd.any, SC.int true IntKind.i64 (0 : Int) (Bd.w (0 : Int) (254 : Int) (slot_bd._proof_3
    (Int.ofNat (0 : Nat)) (Int.ofNat ((0 : Nat) + (1 : Nat)))))]), ((1365 : Nat), SO.cells [SC.int true IntKind.u64 (196611 : Int) (Bd.w (0 : Int) (196611 : Int) (orZero_bd (inC
    (Int.ofNat ((1 : Nat) + (1 : Nat))) (Int.ofNat ((4 : Nat) + (1 : Nat)))) Bd.of._proof_1)), SC.int true IntKind.i64 (25 : Int) (Bd.w (0 : Int) (895 : Int) (counter_bd._proof_4
    (Int.ofNat ((1 : Nat) + (1 : Nat))) (Int.ofNat ((4 : Nat) + (1 : Nat)))))] (47 : Nat))] (1368 : Nat)) Scr.nil ∧ True) ∧ True → (0 : Nat) = (0 : Nat) ∧ cap_2 = cap_2 ∧ cap_2 = cap_2
    ∧ ((0 : Nat) = (0 : Nat) ∧ cap_2 = cap_2 ∧ cap_2 = cap_2 ∧ K (SF.mk (86 : Nat) (ST.node (SV.c (SC.ptr (596 : Nat) (0 : Nat))) (ST.node (SV.tup []) (ST.node (SV.c (SC.boo true true))
    (ST.node (SV.tup []) (ST.node (SV.c (SC.ptr (596 : Nat) (4 : Nat))) (ST.node (SV.tup []) (ST.node (SV.tup []) ST.nil ST.nil) ST.nil) (ST.node (SV.tup []) (ST.node (SV.tup []) ST.nil
    ST.nil) ST.nil)) (ST.node (SV.c (SC.ptr (596 : Nat) (0 : Nat))) (ST.node (SV.tup []) (ST.node (SV.tup []) ST.nil ST.nil) ST.nil) (ST.node (SV.tup []) ST.nil ST.nil))) (ST.node (SV.c
    (SC.ptr (596 : Nat) (0 : Nat))) (ST.node (SV.c (SC.ptr (596 : Nat) (0 : Nat))) (ST.node (SV.tup []) (ST.node (SV.tup []) ST.nil ST.nil) ST.nil) (ST.node (SV.tup []) (ST.node (SV.tup
    []) ST.nil ST.nil) ST.nil)) (ST.node (SV.agg [SC.int true IntKind.u64 (196611 : Int) (Bd.w (0 : Int) (196611 : Int) (orZero_bd (inC (Int.ofNat ((1 : Nat) + (1 : Nat))) (Int.ofNat
    ((4 : Nat) + (1 : Nat)))) Bd.of._proof_1)), SC.int true IntKind.i64 (25 : Int) (Bd.w (0 : Int) (895 : Int) (counter_bd._proof_4 (Int.ofNat ((1 : Nat) + (1 : Nat))) (Int.ofNat ((4 :
    Nat) + (1 : Nat)))))]) (ST.node (SV.tup []) (ST.node (SV.tup []) ST.nil ST.nil) ST.nil) (ST.node (SV.tup []) ST.nil ST.nil)))) (ST.node (SV.tup []) (ST.node (SV.c (SC.ptr (596 :
    Nat) (0 : Nat))) (ST.node (SV.c (SC.int true IntKind.u64 (196611 : Int) Bd.any)) (ST.node (SV.tup []) (ST.node (SV.tup []) ST.nil ST.nil) ST.nil) (ST.node (SV.tup []) (ST.node
    (SV.tup []) ST.nil ST.nil) ST.nil)) (ST.node (SV.c (SC.int true IntKind.i64 (5 : Int) Bd.any)) (ST.node (SV.tup []) (ST.node (SV.tup []) ST.nil ST.nil) ST.nil) (ST.node (SV.tup [])
    ST.nil ST.nil))) (ST.node (SV.c (SC.int true IntKind.i64 (2 : Int) Bd.any)) (ST.node (SV.c (SC.int true IntKind.i64 (2 : Int) Bd.any)) (ST.node (SV.tup []) (ST.node (SV.tup [])
    ST.nil ST.nil) ST.nil) (ST.node (SV.tup []) (ST.node (SV.tup []) ST.nil ST.nil) ST.nil)) (ST.node (SV.tup []) (ST.node (SV.tup []) (ST.node (SV.tup []) ST.nil ST.nil) ST.nil)
    (ST.node (SV.tup []) ST.nil ST.nil))))) (ST.node (SV.c (SC.ptr (1365 : Nat) (0 : Nat))) (ST.node (SV.tup []) (ST.node (SV.tup [(true, [SC.int true IntKind.u64 (196611 : Int) (Bd.w
    (0 : Int) (196611 : Int) (orZero_bd (inC (Int.ofNat ((1 : Nat) + (1 : Nat))) (Int.ofNat ((4 : Nat) + (1 : Nat)))) Bd.of._proof_1)), SC.int true IntKind.i64 (25 : Int) (Bd.w (0 :
    Int) (895 : Int) (counter_bd._proof_4 (Int.ofNat ((1 : Nat) + (1 : Nat))) (Int.ofNat ((4 : Nat) + (1 : Nat)))))]), (false, [SC.boo true true])]) (ST.node (SV.c (SC.ptr (596 : Nat)
    (6 : Nat))) (ST.node (SV.tup []) (ST.node (SV.tup []) ST.nil ST.nil) ST.nil) (ST.node (SV.tup []) (ST.node (SV.tup []) ST.nil ST.nil) ST.nil)) (ST.node (SV.c (SC.ptr (596 : Nat) (3
    : Nat))) (ST.node (SV.tup []) (ST.node (SV.tup []) ST.nil ST.nil) ST.nil) (ST.node (SV.tup []) ST.nil ST.nil))) (ST.node (SV.c (SC.ptr (596 : Nat) (2 : Nat))) (ST.node (SV.c (SC.ptr
    (596 : Nat) (2 : Nat))) (ST.node (SV.tup []) (ST.node (SV.tup []) ST.nil ST.nil) ST.nil) (ST.node (SV.tup []) (ST.node (SV.tup []) ST.nil ST.nil) ST.nil)) (ST.node (SV.c (SC.boo
    true true)) (ST.node (SV.tup []) (ST.node (SV.tup []) ST.nil ST.nil) ST.nil) (ST.node (SV.tup []) ST.nil ST.nil)))) (ST.node (SV.tup []) (ST.node (SV.c (SC.ptr (596 : Nat) (0 :
    Nat))) (ST.node (SV.c (SC.ptr (596 : Nat) (0 : Nat))) (ST.node (SV.tup []) (ST.node (SV.tup []) ST.nil ST.nil) ST.nil) (ST.node (SV.tup []) (ST.node (SV.tup []) ST.nil ST.nil)
    ST.nil)) (ST.node (SV.tup [(true, [SC.int true IntKind.u64 (196611 : Int) (Bd.w (0 : Int) (196611 : Int) (orZero_bd (inC (Int.ofNat ((1 : Nat) + (1 : Nat))) (Int.ofNat ((4 : Nat) +
    (1 : Nat)))) Bd.of._proof_1)), SC.int true IntKind.i64 (25 : Int) (Bd.w (0 : Int) (895 : Int) (counter_bd._proof_4 (Int.ofNat ((1 : Nat) + (1 : Nat))) (Int.ofNat ((4 : Nat) + (1 :
    Nat)))))]), (false, [SC.boo true true])]) (ST.node (SV.tup []) (ST.node (SV.tup []) ST.nil ST.nil) ST.nil) (ST.node (SV.tup []) ST.nil ST.nil))) (ST.node (SV.c (SC.ptr (596 : Nat)
    (0 : Nat))) (ST.node (SV.c (SC.ptr (596 : Nat) (0 : Nat))) (ST.node (SV.tup []) (ST.node (SV.tup []) ST.nil ST.nil) ST.nil) (ST.node (SV.tup []) ST.nil ST.nil)) (ST.node (SV.tup [])
    (ST.node (SV.tup []) (ST.node (SV.tup []) ST.nil ST.nil) ST.nil) (ST.node (SV.tup []) ST.nil ST.nil)))))) []) (Mem.mk [((6 : Nat), SO.cells [SC.int false IntKind.i64 (z (0 : Nat)),
    SC.int false IntKind.i64 (z (1 : Nat)), SC.int false IntKind.i64 (z (2 : Nat)), SC.int false IntKind.i64 (z (3 : Nat)), SC.int false IntKind.u64 (z (4 : Nat)), SC.int false
    IntKind.u64 (z (5 : Nat)), SC.int false IntKind.u64 (z (6 : Nat)), SC.int false IntKind.u64 (z (7 : Nat)), SC.int false IntKind.u64 (z (8 : Nat)), SC.int false IntKind.u64 (z (9 :
    Nat)), SC.int false IntKind.u64 (z (10 : Nat)), SC.int false IntKind.u64 (z (11 : Nat)), SC.int false IntKind.u64 (z (12 : Nat)), SC.sliv ad false ln cp, SC.int false IntKind.i64 (z
    (14 : Nat)), SC.int false IntKind.i64 (z (15 : Nat)), SC.int false IntKind.i64 (z (16 : Nat)), SC.int false IntKind.i64 (z (17 : Nat)), SC.int false IntKind.i64 (z (18 : Nat)),
    SC.int false IntKind.i64 (z (19 : Nat))] (31 : Nat)), ((10 : Nat), SO.ext (HO.obj [] (PA.mk (60000 : Nat) (7 : Nat) (7 : Nat) (0 : Nat) (1 : Nat) [(0 : Nat), (65537 : Nat), (0 :
    Nat), (0 : Nat), (0 : Nat), (0 : Nat), (0 : Nat), (0 : Nat), (0 : Nat)] (1 : Nat) [(1 : Nat)] [] [((1 : Nat), (65537 : Nat), [(0 : Nat), (0 : Nat), (0 : Nat), (0 : Nat), (0 : Nat),
    (0 : Nat), (0 : Nat)])] (Tly.mk (1 : Nat) (0 : Nat) (3 : Nat) (1 : Nat) (0 : Nat) (0 : Nat))))), ((11 : Nat), SO.row (OfNat.ofNat (25 : Nat)) (1 : Nat) (1 : Nat) cap [SC.int true
    IntKind.u64 (65537 : Int) Bd.any]), ((18 : Nat), SO.cells [SC.raw Value.nilFunc, SC.ptr (10 : Nat) (0 : Nat), SC.int true IntKind.i64 (1 : Int) Bd.any, SC.int true IntKind.i64 (1 :
    Int), SC.int true IntKind.u64 (65537 : Int) Bd.any, SC.int true IntKind.u64 (0 : Int) Bd.any, SC.int true IntKind.u64 (0 : Int), SC.int true IntKind.u64 (0 : Int), SC.int true
    IntKind.u64 (0 : Int), SC.int true IntKind.u64 (0 : Int), SC.int true IntKind.u64 (0 : Int), SC.int true IntKind.u64 (0 : Int), SC.nls] (170 : Nat)), ((370 : Nat), SO.cells [SC.int
    false IntKind.i64 (z_1 (0 : Nat)), SC.int false IntKind.i64 (z_1 (1 : Nat)), SC.int false IntKind.i64 (z_1 (2 : Nat)), SC.int false IntKind.i64 (z_1 (3 : Nat)), SC.int false
    IntKind.u64 (z_1 (4 : Nat)), SC.int false IntKind.u64 (z_1 (5 : Nat)), SC.int false IntKind.u64 (z_1 (6 : Nat)), SC.int false IntKind.u64 (z_1 (7 : Nat)), SC.int false IntKind.u64
    (z_1 (8 : Nat)), SC.int false IntKind.u64 (z_1 (9 : Nat)), SC.int false IntKind.u64 (z_1 (10 : Nat)), SC.int false IntKind.u64 (z_1 (11 : Nat)), SC.int false IntKind.u64 (z_1 (12 :
    Nat)), SC.sliv ad_1 false ln_1 cp_1, SC.int false IntKind.i64 (z_1 (14 : Nat)), SC.int false IntKind.i64 (z_1 (15 : Nat)), SC.int false IntKind.i64 (z_1 (16 : Nat)), SC.int false
    IntKind.i64 (z_1 (17 : Nat)), SC.int false IntKind.i64 (z_1 (18 : Nat)), SC.int false IntKind.i64 (z_1 (19 : Nat))] (31 : Nat)), ((374 : Nat), SO.ext (HO.obj [] (PA.mk (60000 : Nat)
    (49 : Nat) (49 : Nat) (0 : Nat) (3 : Nat) [(0 : Nat), (65537 : Nat), (131074 : Nat), (196611 : Nat), (0 : Nat), (0 : Nat), (0 : Nat), (0 : Nat), (0 : Nat)] (3 : Nat) [(1 : Nat), (2
    : Nat), (3 : Nat)] [] [((1 : Nat), (65537 : Nat), [(0 : Nat), (0 : Nat), (0 : Nat), (0 : Nat), (0 : Nat), (0 : Nat), (1 : Nat)]), ((2 : Nat), (131074 : Nat), [(0 : Nat), (0 : Nat),
    (0 : Nat), (0 : Nat), (0 : Nat), (0 : Nat), (0 : Nat), (0 : Nat), (0 : Nat), (0 : Nat), (0 : Nat), (0 : Nat), (0 : Nat), (0 : Nat)]), ((3 : Nat), (196611 : Nat), [(0 : Nat), (0 :
    Nat), (0 : Nat), (0 : Nat), (0 : Nat), (0 : Nat), (0 : Nat), (0 : Nat), (0 : Nat), (0 : Nat), (0 : Nat), (0 : Nat), (0 : Nat), (0 : Nat), (0 : Nat), (0 : Nat), (0 : Nat), (0 : Nat),
    (0 : Nat), (0 : Nat), (0 : Nat), (2 : Nat), (1 : Nat), (1 : Nat), (0 : Nat), (1 : Nat), (0 : Nat), (1 : Nat)])] (Tly.mk (3 : Nat) (0 : Nat) (8 : Nat) (3 : Nat) (0 : Nat) (7 :
    Nat))))), ((375 : Nat), SO.row (OfNat.ofNat (25 : Nat)) (1 : Nat) (3 : Nat) cap_1 [SC.int true IntKind.u64 (65537 : Int) Bd.any, SC.int true IntKind.u64 (131074 : Int) Bd.any,
    SC.int true IntKind.u64 (196611 : Int) Bd.any]), ((376 : Nat), SO.cells [SC.int true IntKind.i64 (6 : Int), SC.int true IntKind.i64 (0 : Int), SC.int true IntKind.i64 (4 : Int)] (3
    : Nat)), ((399 : Nat), SO.ext (HO.old (XO.cnt (374 : Nat) (Cnt.mk (196611 : Nat) (6 : Nat) (3 : Nat) (3 : Nat) (1 : Nat))))), ((469 : Nat), SO.ext (HO.old (XO.cnt (374 : Nat)
    (Cnt.mk (65537 : Nat) (0 : Nat) (1 : Nat) (1 : Nat) (1 : Nat))))), ((539 : Nat), SO.ext (HO.old (XO.cnt (374 : Nat) (Cnt.mk (196611 : Nat) (4 : Nat) (3 : Nat) (3 : Nat) (1 :
    Nat))))), ((596 : Nat), SO.cells [SC.fn (Fn.func (143 : Nat)) [SC.ptr (596 : Nat) (0 : Nat)] [], SC.ptr (374 : Nat) (0 : Nat), SC.int true IntKind.i64 (2 : Int) Bd.any, SC.int true
    IntKind.i64 (5 : Int) Bd.any, SC.int true IntKind.u64 (65537 : Int) Bd.any, SC.int true IntKind.u64 (131074 : Int) Bd.any, SC.int true IntKind.u64 (196611 : Int) Bd.any, SC.int true
    IntKind.u64 (0 : Int), SC.int true IntKind.u64 (0 : Int), SC.int true IntKind.u64 (0 : Int), SC.int true IntKind.u64 (0 : Int), SC.int true IntKind.u64 (0 : Int), SC.sli (765 : Nat)
    (2 : Nat) true (0 : Nat) true (1 : Nat) cap_2] (170 : Nat)), ((765 : Nat), SO.row (37 : Nat) (2 : Nat) (1 : Nat) cap_2 [SC.int true IntKind.u64 (65537 : Int) Bd.any, SC.int true
    IntKind.i64 (0 : Int) (Bd.w (0 : Int) (254 : Int) (slot_bd._proof_3 (Int.ofNat (0 : Nat)) (Int.ofNat ((0 : Nat) + (1 : Nat)))))]), ((1365 : Nat), SO.cells [SC.int true IntKind.u64
    (196611 : Int) (Bd.w (0 : Int) (196611 : Int) (orZero_bd (inC (Int.ofNat ((1 : Nat) + (1 : Nat))) (Int.ofNat ((4 : Nat) + (1 : Nat)))) Bd.of._proof_1)), SC.int true IntKind.i64 (25
    : Int) (Bd.w (0 : Int) (895 : Int) (counter_bd._proof_4 (Int.ofNat ((1 : Nat) + (1 : Nat))) (Int.ofNat ((4 : Nat) + (1 : Nat)))))] (47 : Nat))] (1368 : Nat)) Scr.nil ∧ True) ∧ True)
    ∧ True) ∧ True) ∧ True) ∧ True) ∧ True) ∧ (∀ (K : KO XP), (0 : Nat) = (0 : Nat) ∧ cap_2 = cap_2 ∧ cap_2 = cap_2 ∧ ((0 : Nat) = (0 : Nat) ∧ cap_2 = cap_2 ∧ cap_2 = cap_2 ∧ K (SF.mk
    (86 : Nat) (ST.node (SV.c (SC.ptr (596 : Nat) (0 : Nat))) (ST.node (SV.tup []) (ST.node (SV.c (SC.boo true true)) (ST.node (SV.tup []) (ST.node (SV.c (SC.ptr (596 : Nat) (4 : Nat)))
    (ST.node (SV.tup []) (ST.node (SV.tup []) ST.nil ST.nil) ST.nil) (ST.node (SV.tup []) (ST.node (SV.tup []) ST.nil ST.nil) ST.nil)) (ST.node (SV.c (SC.ptr (596 : Nat) (0 : Nat)))
    (ST.node (SV.tup []) (ST.node (SV.tup []) ST.nil ST.nil) ST.nil) (ST.node (SV.tup []) ST.nil ST.nil))) (ST.node (SV.c (SC.ptr (596 : Nat) (0 : Nat))) (ST.node (SV.c (SC.ptr (596 :
    Nat) (0 : Nat))) (ST.node (SV.tup []) (ST.node (SV.tup []) ST.nil ST.nil) ST.nil) (ST.node (SV.tup []) (ST.node (SV.tup []) ST.nil ST.nil) ST.nil)) (ST.node (SV.agg [SC.int true
    IntKind.u64 (196611 : Int) (Bd.w (0 : Int) (196611 : Int) (orZero_bd (inC (Int.ofNat ((1 : Nat) + (1 : Nat))) (Int.ofNat ((3 : Nat) + (1 : Nat)))) Bd.of._proof_1)), SC.int true
    IntKind.i64 (24 : Int) (Bd.w (0 : Int) (895 : Int) (counter_bd._proof_4 (Int.ofNat ((1 : Nat) + (1 : Nat))) (Int.ofNat ((3 : Nat) + (1 : Nat)))))]) (ST.node (SV.tup []) (ST.node
    (SV.tup []) ST.nil ST.nil) ST.nil) (ST.node (SV.tup []) ST.nil ST.nil)))) (ST.node (SV.tup []) (ST.node (SV.c (SC.ptr (596 : Nat) (0 : Nat))) (ST.node (SV.c (SC.int true IntKind.u64
    (196611 : Int) Bd.any)) (ST.node (SV.tup []) (ST.node (SV.tup []) ST.nil ST.nil) ST.nil) (ST.node (SV.tup []) (ST.node (SV.tup []) ST.nil ST.nil) ST.nil)) (ST.node (SV.c (SC.int
    true IntKind.i64 (4 : Int) Bd.any)) (ST.node (SV.tup []) (ST.node (SV.tup []) ST.nil ST.nil) ST.nil) (ST.node (SV.tup []) ST.nil ST.nil))) (ST.node (SV.c (SC.int true IntKind.i64 (2
    : Int) Bd.any)) (ST.node (SV.c (SC.int true IntKind.i64 (2 : Int) Bd.any)) (ST.node (SV.tup []) (ST.node (SV.tup []) ST.nil ST.nil) ST.nil) (ST.node (SV.tup []) (ST.node (SV.tup [])
    ST.nil ST.nil) ST.nil)) (ST.node (SV.tup []) (ST.node (SV.tup []) (ST.node (SV.tup []) ST.nil ST.nil) ST.nil) (ST.node (SV.tup []) ST.nil ST.nil))))) (ST.node (SV.c (SC.ptr (1264 :
    Nat) (0 : Nat))) (ST.node (SV.tup []) (ST.node (SV.tup [(true, [SC.int true IntKind.u64 (196611 : Int) (Bd.w (0 : Int) (196611 : Int) (orZero_bd (inC (Int.ofNat ((1 : Nat) + (1 :
    Nat))) (Int.ofNat ((3 : Nat) + (1 : Nat)))) Bd.of._proof_1)), SC.int true IntKind.i64 (24 : Int) (Bd.w (0 : Int) (895 : Int) (counter_bd._proof_4 (Int.ofNat ((1 : Nat) + (1 : Nat)))
    (Int.ofNat ((3 : Nat) + (1 : Nat)))))]), (false, [SC.boo true true])]) (ST.node (SV.c (SC.ptr (596 : Nat) (6 : Nat))) (ST.node (SV.tup []) (ST.node (SV.tup []) ST.nil ST.nil)
    ST.nil) (ST.node (SV.tup []) (ST.node (SV.tup []) ST.nil ST.nil) ST.nil)) (ST.node (SV.c (SC.ptr (596 : Nat) (3 : Nat))) (ST.node (SV.tup []) (ST.node (SV.tup []) ST.nil ST.nil)
    ST.nil) (ST.node (SV.tup []) ST.nil ST.nil))) (ST.node (SV.c (SC.ptr (596 : Nat) (2 : Nat))) (ST.node (SV.c (SC.ptr (596 : Nat) (2 : Nat))) (ST.node (SV.tup []) (ST.node (SV.tup [])
    ST.nil ST.nil) ST.nil) (ST.node (SV.tup []) (ST.node (SV.tup []) ST.nil ST.nil) ST.nil)) (ST.node (SV.c (SC.boo true true)) (ST.node (SV.tup []) (ST.node (SV.tup []) ST.nil ST.nil)
    ST.nil) (ST.node (SV.tup []) ST.nil ST.nil)))) (ST.node (SV.tup []) (ST.node (SV.c (SC.ptr (596 : Nat) (0 : Nat))) (ST.node (SV.c (SC.ptr (596 : Nat) (0 : Nat))) (ST.node (SV.tup
    []) (ST.node (SV.tup []) ST.nil ST.nil) ST.nil) (ST.node (SV.tup []) (ST.node (SV.tup []) ST.nil ST.nil) ST.nil)) (ST.node (SV.tup [(true, [SC.int true IntKind.u64 (196611 : Int)
    (Bd.w (0 : Int) (196611 : Int) (orZero_bd (inC (Int.ofNat ((1 : Nat) + (1 : Nat))) (Int.ofNat ((3 : Nat) + (1 : Nat)))) Bd.of._proof_1)), SC.int true IntKind.i64 (24 : Int) (Bd.w (0
    : Int) (895 : Int) (counter_bd._proof_4 (Int.ofNat ((1 : Nat) + (1 : Nat))) (Int.ofNat ((3 : Nat) + (1 : Nat)))))]), (false, [SC.boo true true])]) (ST.node (SV.tup []) (ST.node
    (SV.tup []) ST.nil ST.nil) ST.nil) (ST.node (SV.tup []) ST.nil ST.nil))) (ST.node (SV.c (SC.ptr (596 : Nat) (0 : Nat))) (ST.node (SV.c (SC.ptr (596 : Nat) (0 : Nat))) (ST.node
    (SV.tup []) (ST.node (SV.tup []) ST.nil ST.nil) ST.nil) (ST.node (SV.tup []) ST.nil ST.nil)) (ST.node (SV.tup []) (ST.node (SV.tup []) (ST.node (SV.tup []) ST.nil ST.nil) ST.nil)
    (ST.node (SV.tup []) ST.nil ST.nil)))))) []) (Mem.mk [((6 : Nat), SO.cells [SC.int false IntKind.i64 (z (0 : Nat)), SC.int false IntKind.i64 (z (1 : Nat)), SC.int false IntKind.i64
    (z (2 : Nat)), SC.int false IntKind.i64 (z (3 : Nat)), SC.int false IntKind.u64 (z (4 : Nat)), SC.int false IntKind.u64 (z (5 : Nat)), SC.int false IntKind.u64 (z (6 : Nat)), SC.int
    false IntKind.u64 (z (7 : Nat)), SC.int false IntKind.u64 (z (8 : Nat)), SC.int false IntKind.u64 (z (9 : Nat)), SC.int false IntKind.u64 (z (10 : Nat)), SC.int false IntKind.u64 (z
    (11 : Nat)), SC.int false IntKind.u64 (z (12 : Nat)), SC.sliv ad false ln cp, SC.int false IntKind.i64 (z (14 : Nat)), SC.int false IntKind.i64 (z (15 : Nat)), SC.int false
    IntKind.i64 (z (16 : Nat)), SC.int false IntKind.i64 (z (17 : Nat)), SC.int false IntKind.i64 (z (18 : Nat)), SC.int false IntKind.i64 (z (19 : Nat))] (31 : Nat)), ((10 : Nat),
    SO.ext (HO.obj [] (PA.mk (60000 : Nat) (7 : Nat) (7 : Nat) (0 : Nat) (1 : Nat) [(0 : Nat), (65537 : Nat), (0 : Nat), (0 : Nat), (0 : Nat), (0 : Nat), (0 : Nat), (0 : Nat), (0 :
    Nat)] (1 : Nat) [(1 : Nat)] [] [((1 : Nat), (65537 : Nat), [(0 : Nat), (0 : Nat), (0 : Nat), (0 : Nat), (0 : Nat), (0 : Nat), (0 : Nat)])] (Tly.mk (1 : Nat) (0 : Nat) (3 : Nat) (1 :
    Nat) (0 : Nat) (0 : Nat))))), ((11 : Nat), SO.row (OfNat.ofNat (25 : Nat)) (1 : Nat) (1 : Nat) cap [SC.int true IntKind.u64 (65537 : Int) Bd.any]), ((18 : Nat), SO.cells [SC.raw
    Value.nilFunc, SC.ptr (10 : Nat) (0 : Nat), SC.int true IntKind.i64 (1 : Int) Bd.any, SC.int true IntKind.i64 (1 : Int), SC.int true IntKind.u64 (65537 : Int) Bd.any, SC.int true
    IntKind.u64 (0 : Int) Bd.any, SC.int true IntKind.u64 (0 : Int), SC.int true IntKind.u64 (0 : Int), SC.int true IntKind.u64 (0 : Int), SC.int true IntKind.u64 (0 : Int), SC.int true
    IntKind.u64 (0 : Int), SC.int true IntKind.u64 (0 : Int), SC.nls] (170 : Nat)), ((370 : Nat), SO.cells [SC.int false IntKind.i64 (z_1 (0 : Nat)), SC.int false IntKind.i64 (z_1 (1 :
    Nat)), SC.int false IntKind.i64 (z_1 (2 : Nat)), SC.int false IntKind.i64 (z_1 (3 : Nat)), SC.int false IntKind.u64 (z_1 (4 : Nat)), SC.int false IntKind.u64 (z_1 (5 : Nat)), SC.int
    false IntKind.u64 (z_1 (6 : Nat)), SC.int false IntKind.u64 (z_1 (7 : Nat)), SC.int false IntKind.u64 (z_1 (8 : Nat)), SC.int false IntKind.u64 (z_1 (9 : Nat)), SC.int false
    IntKind.u64 (z_1 (10 : Nat)), SC.int false IntKind.u64 (z_1 (11 : Nat)), SC.int false IntKind.u64 (z_1 (12 : Nat)), SC.sliv ad_1 false ln_1 cp_1, SC.int false IntKind.i64 (z_1 (14 :
    Nat)), SC.int false IntKind.i64 (z_1 (15 : Nat)), SC.int false IntKind.i64 (z_1 (16 : Nat)), SC.int false IntKind.i64 (z_1 (17 : Nat)), SC.int false IntKind.i64 (z_1 (18 : Nat)),
    SC.int false IntKind.i64 (z_1 (19 : Nat))] (31 : Nat)), ((374 : Nat), SO.ext (HO.obj [] (PA.mk (60000 : Nat) (49 : Nat) (49 : Nat) (0 : Nat) (3 : Nat) [(0 : Nat), (65537 : Nat),
    (131074 : Nat), (196611 : Nat), (0 : Nat), (0 : Nat), (0 : Nat), (0 : Nat), (0 : Nat)] (3 : Nat) [(1 : Nat), (2 : Nat), (3 : Nat)] [] [((1 : Nat), (65537 : Nat), [(0 : Nat), (0 :
    Nat), (0 : Nat), (0 : Nat), (0 : Nat), (0 : Nat), (1 : Nat)]), ((2 : Nat), (131074 : Nat), [(0 : Nat), (0 : Nat), (0 : Nat), (0 : Nat), (0 : Nat), (0 : Nat), (0 : Nat), (0 : Nat),
    (0 : Nat), (0 : Nat), (0 : Nat), (0 : Nat), (0 : Nat), (0 : Nat)]), ((3 : Nat), (196611 : Nat), [(0 : Nat), (0 : Nat), (0 : Nat), (0 : Nat), (0 : Nat), (0 : Nat), (0 : Nat), (0 :
    Nat), (0 : Nat), (0 : Nat), (0 : Nat), (0 : Nat), (0 : Nat), (0 : Nat), (0 : Nat), (0 : Nat), (0 : Nat), (0 : Nat), (0 : Nat), (0 : Nat), (0 : Nat), (2 : Nat), (1 : Nat), (1 : Nat),
    (0 : Nat), (1 : Nat), (0 : Nat), (1 : Nat)])] (Tly.mk (3 : Nat) (0 : Nat) (7 : Nat) (3 : Nat) (0 : Nat) (7 : Nat))))), ((375 : Nat), SO.row (OfNat.ofNat (25 : Nat)) (1 : Nat) (3 :
    Nat) cap_1 [SC.int true IntKind.u64 (65537 : Int) Bd.any, SC.int true IntKind.u64 (131074 : Int) Bd.any, SC.int true IntKind.u64 (196611 : Int) Bd.any]), ((376 : Nat), SO.cells
    [SC.int true IntKind.i64 (6 : Int), SC.int true IntKind.i64 (0 : Int), SC.int true IntKind.i64 (4 : Int)] (3 : Nat)), ((399 : Nat), SO.ext (HO.old (XO.cnt (374 : Nat) (Cnt.mk
    (196611 : Nat) (6 : Nat) (3 : Nat) (3 : Nat) (1 : Nat))))), ((469 : Nat), SO.ext (HO.old (XO.cnt (374 : Nat) (Cnt.mk (65537 : Nat) (0 : Nat) (1 : Nat) (1 : Nat) (1 : Nat))))), ((539
    : Nat), SO.ext (HO.old (XO.cnt (374 : Nat) (Cnt.mk (196611 : Nat) (4 : Nat) (3 : Nat) (3 : Nat) (1 : Nat))))), ((596 : Nat), SO.cells [SC.fn (Fn.func (143 : Nat)) [SC.ptr (596 :
    Nat) (0 : Nat)] [], SC.ptr (374 : Nat) (0 : Nat), SC.int true IntKind.i64 (2 : Int) Bd.any, SC.int true IntKind.i64 (4 : Int) Bd.any, SC.int true IntKind.u64 (65537 : Int) Bd.any,
    SC.int true IntKind.u64 (131074 : Int) Bd.any, SC.int true IntKind.u64 (196611 : Int) Bd.any, SC.int true IntKind.u64 (0 : Int), SC.int true IntKind.u64 (0 : Int), SC.int true
    IntKind.u64 (0 : Int), SC.int true IntKind.u64 (0 : Int), SC.int true IntKind.u64 (0 : Int), SC.sli (765 : Nat) (2 : Nat) true (0 : Nat) true (1 : Nat) cap_2] (170 : Nat)), ((765 :
    Nat), SO.row (37 : Nat) (2 : Nat) (1 : Nat) cap_2 [SC.int true IntKind.u64 (65537 : Int) Bd.any, SC.int true IntKind.i64 (0 : Int) (Bd.w (0 : Int) (254 : Int) (slot_bd._proof_3
    (Int.ofNat (0 : Nat)) (Int.ofNat ((0 : Nat) + (1 : Nat)))))]), ((1264 : Nat), SO.cells [SC.int true IntKind.u64 (196611 : Int) (Bd.w (0 : Int) (196611 : Int) (orZero_bd (inC
    (Int.ofNat ((1 : Nat) + (1 : Nat))) (Int.ofNat ((3 : Nat) + (1 : Nat)))) Bd.of._proof_1)), SC.int true IntKind.i64 (24 : Int) (Bd.w (0 : Int) (895 : Int) (counter_bd._proof_4
    (Int.ofNat ((1 : Nat) + (1 : Nat))) (Int.ofNat ((3 : Nat) + (1 : Nat)))))] (47 : Nat))] (1267 : Nat)) Scr.nil ∧ True) ∧ True → (0 : Nat) = (0 : Nat) ∧ cap_2 = cap_2 ∧ cap_2 = cap_2
    ∧ ((0 : Nat) = (0 : Nat) ∧ cap_2 = cap_2 ∧ cap_2 = cap_2 ∧ K (SF.mk (86 : Nat) (ST.node (SV.c (SC.ptr (596 : Nat) (0 : Nat))) (ST.node (SV.tup []) (ST.node (SV.c (SC.boo true true))
    (ST.node (SV.tup []) (ST.node (SV.c (SC.ptr (596 : Nat) (4 : Nat))) (ST.node (SV.tup []) (ST.node (SV.tup []) ST.nil ST.nil) ST.nil) (ST.node (SV.tup []) (ST.node (SV.tup []) ST.nil
    ST.nil) ST.nil)) (ST.node (SV.c (SC.ptr (596 : Nat) (0 : Nat))) (ST.node (SV.tup []) (ST.node (SV.tup []) ST.nil ST.nil) ST.nil) (ST.node (SV.tup []) ST.nil ST.nil))) (ST.node (SV.c
    (SC.ptr (596 : Nat) (0 : Nat))) (ST.node (SV.c (SC.ptr (596 : Nat) (0 : Nat))) (ST.node (SV.tup []) (ST.node (SV.tup []) ST.nil ST.nil) ST.nil) (ST.node (SV.tup []) (ST.node (SV.tup
    []) ST.nil ST.nil) ST.nil)) (ST.node (SV.agg [SC.int true IntKind.u64 (196611 : Int) (Bd.w (0 : Int) (196611 : Int) (orZero_bd (inC (Int.ofNat ((1 : Nat) + (1 : Nat))) (Int.ofNat
    ((3 : Nat) + (1 : Nat)))) Bd.of._proof_1)), SC.int true IntKind.i64 (24 : Int) (Bd.w (0 : Int) (895 : Int) (counter_bd._proof_4 (Int.ofNat ((1 : Nat) + (1 : Nat))) (Int.ofNat ((3 :
    Nat) + (1 : Nat)))))]) (ST.node (SV.tup []) (ST.node (SV.tup []) ST.nil ST.nil) ST.nil) (ST.node (SV.tup []) ST.nil ST.nil)))) (ST.node (SV.tup []) (ST.node (SV.c (SC.ptr (596 :
    Nat) (0 : Nat))) (ST.node (SV.c (SC.int true IntKind.u64 (196611 : Int) Bd.any)) (ST.node (SV.tup []) (ST.node (SV.tup []) ST.nil ST.nil) ST.nil) (ST.node (SV.tup []) (ST.node
    (SV.tup []) ST.nil ST.nil) ST.nil)) (ST.node (SV.c (SC.int true IntKind.i64 (4 : Int) Bd.any)) (ST.node (SV.tup []) (ST.node (SV.tup []) ST.nil ST.nil) ST.nil) (ST.node (SV.tup [])
    ST.nil ST.nil))) (ST.node (SV.c (SC.int true IntKind.i64 (2 : Int) Bd.any)) (ST.node (SV.c (SC.int true IntKind.i64 (2 : Int) Bd.any)) (ST.node (SV.tup []) (ST.node (SV.tup [])
    ST.nil ST.nil) ST.nil) (ST.node (SV.tup []) (ST.node (SV.tup []) ST.nil ST.nil) ST.nil)) (ST.node (SV.tup []) (ST.node (SV.tup []) (ST.node (SV.tup []) ST.nil ST.nil) ST.nil)
    (ST.node (SV.tup []) ST.nil ST.nil))))) (ST.node (SV.c (SC.ptr (1264 : Nat) (0 : Nat))) (ST.node (SV.tup []) (ST.node (SV.tup [(true, [SC.int true IntKind.u64 (196611 : Int) (Bd.w
    (0 : Int) (196611 : Int) (orZero_bd (inC (Int.ofNat ((1 : Nat) + (1 : Nat))) (Int.ofNat ((3 : Nat) + (1 : Nat)))) Bd.of._proof_1)), SC.int true IntKind.i64 (24 : Int) (Bd.w (0 :
    Int) (895 : Int) (counter_bd._proof_4 (Int.ofNat ((1 : Nat) + (1 : Nat))) (Int.ofNat ((3 : Nat) + (1 : Nat)))))]), (false, [SC.boo true true])]) (ST.node (SV.c (SC.ptr (596 : Nat)
    (6 : Nat))) (ST.node (SV.tup []) (ST.node (SV.tup []) ST.nil ST.nil) ST.nil) (ST.node (SV.tup []) (ST.node (SV.tup []) ST.nil ST.nil) ST.nil)) (ST.node (SV.c (SC.ptr (596 : Nat) (3
    : Nat))) (ST.node (SV.tup []) (ST.node (SV.tup []) ST.nil ST.nil) ST.nil) (ST.node (SV.tup []) ST.nil ST.nil))) (ST.node (SV.c (SC.ptr (596 : Nat) (2 : Nat))) (ST.node (SV.c (SC.ptr
    (596 : Nat) (2 : Nat))) (ST.node (SV.tup []) (ST.node (SV.tup []) ST.nil ST.nil) ST.nil) (ST.node (SV.tup []) (ST.node (SV.tup []) ST.nil ST.nil) ST.nil)) (ST.node (SV.c (SC.boo
    true true)) (ST.node (SV.tup []) (ST.node (SV.tup []) ST.nil ST.nil) ST.nil) (ST.node (SV.tup []) ST.nil ST.nil)))) (ST.node (SV.tup []) (ST.node (SV.c (SC.ptr (596 : Nat) (0 :
    Nat))) (ST.node (SV.c (SC.ptr (596 : Nat) (0 : Nat))) (ST.node (SV.tup []) (ST.node (SV.tup []) ST.nil ST.nil) ST.nil) (ST.node (SV.tup []) (ST.node (SV.tup []) ST.nil ST.nil)
    ST.nil)) (ST.node (SV.tup [(true, [SC.int true IntKind.u64 (196611 : Int) (Bd.w (0 : Int) (196611 : Int) (orZero_bd (inC (Int.ofNat ((1 : Nat) + (1 : Nat))) (Int.ofNat ((3 : Nat) +
    (1 : Nat)))) Bd.of._proof_1)), SC.int true IntKind.i64 (24 : Int) (Bd.w (0 : Int) (895 : Int) (counter_bd._proof_4 (Int.ofNat ((1 : Nat) + (1 : Nat))) (Int.ofNat ((3 : Nat) + (1 :
    Nat)))))]), (false, [SC.boo true true])]) (ST.node (SV.tup []) (ST.node (SV.tup []) ST.nil ST.nil) ST.nil) (ST.node (SV.tup []) ST.nil ST.nil))) (ST.node (SV.c (SC.ptr (596 : Nat)
    (0 : Nat))) (ST.node (SV.c (SC.ptr (596 : Nat) (0 : Nat))) (ST.node (SV.tup []) (ST.node (SV.tup []) ST.nil ST.nil) ST.nil) (ST.node (SV.tup []) ST.nil ST.nil)) (ST.node (SV.tup [])
    (ST.node (SV.tup []) (ST.node (SV.tup []) ST.nil ST.nil) ST.nil) (ST.node (SV.tup []) ST.nil ST.nil)))))) []) (Mem.mk [((6 : Nat), SO.cells [SC.int false IntKind.i64 (z (0 : Nat)),
    SC.int false IntKind.i64 (z (1 : Nat)), SC.int false IntKind.i64 (z (2 : Nat)), SC.int false IntKind.i64 (z (3 : Nat)), SC.int false IntKind.u64 (z (4 : Nat)), SC.int false
    IntKind.u64 (z (5 : Nat)), SC.int false IntKind.u64 (z (6 : Nat)), SC.int false IntKind.u64 (z (7 : Nat)), SC.int false IntKind.u64 (z (8 : Nat)), SC.int false IntKind.u64 (z (9 :
    Nat)), SC.int false IntKind.u64 (z (10 : Nat)), SC.int false IntKind.u64 (z (11 : Nat)), SC.int false IntKind.u64 (z (12 : Nat)), SC.sliv ad false ln cp, SC.int false IntKind.i64 (z
    (14 : Nat)), SC.int false IntKind.i64 (z (15 : Nat)), SC.int false IntKind.i64 (z (16 : Nat)), SC.int false IntKind.i64 (z (17 : Nat)), SC.int false IntKind.i64 (z (18 : Nat)),
    SC.int false IntKind.i64 (z (19 : Nat))] (31 : Nat)), ((10 : Nat), SO.ext (HO.obj [] (PA.mk (60000 : Nat) (7 : Nat) (7 : Nat) (0 : Nat) (1 : Nat) [(0 : Nat), (65537 : Nat), (0 :
    Nat), (0 : Nat), (0 : Nat), (0 : Nat), (0 : Nat), (0 : Nat), (0 : Nat)] (1 : Nat) [(1 : Nat)] [] [((1 : Nat), (65537 : Nat), [(0 : Nat), (0 : Nat), (0 : Nat), (0 : Nat), (0 : Nat),
    (0 : Nat), (0 : Nat)])] (Tly.mk (1 : Nat) (0 : Nat) (3 : Nat) (1 : Nat) (0 : Nat) (0 : Nat))))), ((11 : Nat), SO.row (OfNat.ofNat (25 : Nat)) (1 : Nat) (1 : Nat) cap [SC.int true
    IntKind.u64 (65537 : Int) Bd.any]), ((18 : Nat), SO.cells [SC.raw Value.nilFunc, SC.ptr (10 : Nat) (0 : Nat), SC.int true IntKind.i64 (1 : Int) Bd.any, SC.int true IntKind.i64 (1 :
    Int), SC.int true IntKind.u64 (65537 : Int) Bd.any, SC.int true IntKind.u64 (0 : Int) Bd.any, SC.int true IntKind.u64 (0 : Int), SC.int true IntKind.u64 (0 : Int), SC.int true
    IntKind.u64 (0 : Int), SC.int true IntKind.u64 (0 : Int), SC.int true IntKind.u64 (0 : Int), SC.int true IntKind.u64 (0 : Int), SC.nls] (170 : Nat)), ((370 : Nat), SO.cells [SC.int
    false IntKind.i64 (z_1 (0 : Nat)), SC.int false IntKind.i64 (z_1 (1 : Nat)), SC.int false IntKind.i64 (z_1 (2 : Nat)), SC.int false IntKind.i64 (z_1 (3 : Nat)), SC.int false
    IntKind.u64 (z_1 (4 : Nat)), SC.int false IntKind.u64 (z_1 (5 : Nat)), SC.int false IntKind.u64 (z_1 (6 : Nat)), SC.int false IntKind.u64 (z_1 (7 : Nat)), SC.int false IntKind.u64
    (z_1 (8 : Nat)), SC.int false IntKind.u64 (z_1 (9 : Nat)), SC.int false IntKind.u64 (z_1 (10 : Nat)), SC.int false IntKind.u64 (z_1 (11 : Nat)), SC.int false IntKind.u64 (z_1 (12 :
    Nat)), SC.sliv ad_1 false ln_1 cp_1, SC.int false IntKind.i64 (z_1 (14 : Nat)), SC.int false IntKind.i64 (z_1 (15 : Nat)), SC.int false IntKind.i64 (z_1 (16 : Nat)), SC.int false
    IntKind.i64 (z_1 (17 : Nat)), SC.int false IntKind.i64 (z_1 (18 : Nat)), SC.int false IntKind.i64 (z_1 (19 : Nat))] (31 : Nat)), ((374 : Nat), SO.ext (HO.obj [] (PA.mk (60000 : Nat)
    (49 : Nat) (49 : Nat) (0 : Nat) (3 : Nat) [(0 : Nat), (65537 : Nat), (131074 : Nat), (196611 : Nat), (0 : Nat), (0 : Nat), (0 : Nat), (0 : Nat), (0 : Nat)] (3 : Nat) [(1 : Nat), (2
    : Nat), (3 : Nat)] [] [((1 : Nat), (65537 : Nat), [(0 : Nat), (0 : Nat), (0 : Nat), (0 : Nat), (0 : Nat), (0 : Nat), (1 : Nat)]), ((2 : Nat), (131074 : Nat), [(0 : Nat), (0 : Nat),
    (0 : Nat), (0 : Nat), (0 : Nat), (0 : Nat), (0 : Nat), (0 : Nat), (0 : Nat), (0 : Nat), (0 : Nat), (0 : Nat), (0 : Nat), (0 : Nat)]), ((3 : Nat), (196611 : Nat), [(0 : Nat), (0 :
    Nat), (0 : Nat), (0 : Nat), (0 : Nat), (0 : Nat), (0 : Nat), (0 : Nat), (0 : Nat), (0 : Nat), (0 : Nat), (0 : Nat), (0 : Nat), (0 : Nat), (0 : Nat), (0 : Nat), (0 : Nat), (0 : Nat),
    (0 : Nat), (0 : Nat), (0 : Nat), (2 : Nat), (1 : Nat), (1 : Nat), (0 : Nat), (1 : Nat), (0 : Nat), (1 : Nat)])] (Tly.mk (3 : Nat) (0 : Nat) (7 : Nat) (3 : Nat) (0 : Nat) (7 :
    Nat))))), ((375 : Nat), SO.row (OfNat.ofNat (25 : Nat)) (1 : Nat) (3 : Nat) cap_1 [SC.int true IntKind.u64 (65537 : Int) Bd.any, SC.int true IntKind.u64 (131074 : Int) Bd.any,
    SC.int true IntKind.u64 (196611 : Int) Bd.any]), ((376 : Nat), SO.cells [SC.int true IntKind.i64 (6 : Int), SC.int true IntKind.i64 (0 : Int), SC.int true IntKind.i64 (4 : Int)] (3
    : Nat)), ((399 : Nat), SO.ext (HO.old (XO.cnt (374 : Nat) (Cnt.mk (196611 : Nat) (6 : Nat) (3 : Nat) (3 : Nat) (1 : Nat))))), ((469 : Nat), SO.ext (HO.old (XO.cnt (374 : Nat)
    (Cnt.mk (65537 : Nat) (0 : Nat) (1 : Nat) (1 : Nat) (1 : Nat))))), ((539 : Nat), SO.ext (HO.old (XO.cnt (374 : Nat) (Cnt.mk (196611 : Nat) (4 : Nat) (3 : Nat) (3 : Nat) (1 :
    Nat))))), ((596 : Nat), SO.cells [SC.fn (Fn.func (143 : Nat)) [SC.ptr (596 : Nat) (0 : Nat)] [], SC.ptr (374 : Nat) (0 : Nat), SC.int true IntKind.i64 (2 : Int) Bd.any, SC.int true
    IntKind.i64 (4 : Int) Bd.any, SC.int true IntKind.u64 (65537 : Int) Bd.any, SC.int true IntKind.u64 (131074 : Int) Bd.any, SC.int true IntKind.u64 (196611 : Int) Bd.any, SC.int true
    IntKind.u64 (0 : Int), SC.int true IntKind.u64 (0 : Int), SC.int true IntKind.u64 (0 : Int), SC.int true IntKind.u64 (0 : Int), SC.int true IntKind.u64 (0 : Int), SC.sli (765 : Nat)
    (2 : Nat) true (0 : Nat) true (1 : Nat) cap_2] (170 : Nat)), ((765 : Nat), SO.row (37 : Nat) (2 : Nat) (1 : Nat) cap_2 [SC.int true IntKind.u64 (65537 : Int) Bd.any, SC.int true
    IntKind.i64 (0 : Int) (Bd.w (0 : Int) (254 : Int) (slot_bd._proof_3 (Int.ofNat (0 : Nat)) (Int.ofNat ((0 : Nat) + (1 : Nat)))))]), ((1264 : Nat), SO.cells [SC.int true IntKind.u64
    (196611 : Int) (Bd.w (0 : Int) (196611 : Int) (orZero_bd (inC (Int.ofNat ((1 : Nat) + (1 : Nat))) (Int.ofNat ((3 : Nat) + (1 : Nat)))) Bd.of._proof_1)), SC.int true IntKind.i64 (24
    : Int) (Bd.w (0 : Int) (895 : Int) (counter_bd._proof_4 (Int.ofNat ((1 : Nat) + (1 : Nat))) (Int.ofNat ((3 : Nat) + (1 : Nat)))))] (47 : Nat))] (1267 : Nat)) Scr.nil ∧ True) ∧ True)
    ∧ True) ∧ True) ∧ True) ∧ True) ∧ True) ∧ (∀ (K : KO XP), (0 : Nat) = (0 : Nat) ∧ cap_2 = cap_2 ∧ cap_2 = cap_2 ∧ ((0 : Nat) = (0 : Nat) ∧ cap_2 = cap_2 ∧ cap_2 = cap_2 ∧ K (SF.mk
    (86 : Nat) (ST.node (SV.c (SC.ptr (596 : Nat) (0 : Nat))) (ST.node (SV.tup []) (ST.node (SV.c (SC.boo true true)) (ST.node (SV.tup []) (ST.node (SV.c (SC.ptr (596 : Nat) (4 : Nat)))
    (ST.node (SV.tup []) (ST.node (SV.tup []) ST.nil ST.nil) ST.nil) (ST.node (SV.tup []) (ST.node (SV.tup []) ST.nil ST.nil) ST.nil)) (ST.node (SV.c (SC.ptr (596 : Nat) (0 : Nat)))
    (ST.node (SV.tup []) (ST.node (SV.tup []) ST.nil ST.nil) ST.nil) (ST.node (SV.tup []) ST.nil ST.nil))) (ST.node (SV.c (SC.ptr (596 : Nat) (0 : Nat))) (ST.node (SV.c (SC.ptr (596 :
    Nat) (0 : Nat))) (ST.node (SV.tup []) (ST.node (SV.tup []) ST.nil ST.nil) ST.nil) (ST.node (SV.tup []) (ST.node (SV.tup []) ST.nil ST.nil) ST.nil)) (ST.node (SV.agg [SC.int true
    IntKind.u64 (196611 : Int) (Bd.w (0 : Int) (196611 : Int) (orZero_bd (inC (Int.ofNat ((1 : Nat) + (1 : Nat))) (Int.ofNat ((1 : Nat) + (1 : Nat)))) Bd.of._proof_1)), SC.int true
    IntKind.i64 (22 : Int) (Bd.w (0 : Int) (895 : Int) (counter_bd._proof_4 (Int.ofNat ((1 : Nat) + (1 : Nat))) (Int.ofNat ((1 : Nat) + (1 : Nat)))))]) (ST.node (SV.tup []) (ST.node
    (SV.tup []) ST.nil ST.nil) ST.nil) (ST.node (SV.tup []) ST.nil ST.nil)))) (ST.node (SV.tup []) (ST.node (SV.c (SC.ptr (596 : Nat) (0 : Nat))) (ST.node (SV.c (SC.int true IntKind.u64
    (196611 : Int) Bd.any)) (ST.node (SV.tup []) (ST.node (SV.tup []) ST.nil ST.nil) ST.nil) (ST.node (SV.tup []) (ST.node (SV.tup []) ST.nil ST.nil) ST.nil)) (ST.node (SV.c (SC.int
    true IntKind.i64 (2 : Int) Bd.any)) (ST.node (SV.tup []) (ST.node (SV.tup []) ST.nil ST.nil) ST.nil) (ST.node (SV.tup []) ST.nil ST.nil))) (ST.node (SV.c (SC.int true IntKind.i64 (2
    : Int) Bd.any)) (ST.node (SV.c (SC.int true IntKind.i64 (2 : Int) Bd.any)) (ST.node (SV.tup []) (ST.node (SV.tup []) ST.nil ST.nil) ST.nil) (ST.node (SV.tup []) (ST.node (SV.tup [])
    ST.nil ST.nil) ST.nil)) (ST.node (SV.tup []) (ST.node (SV.tup []) (ST.node (SV.tup []) ST.nil ST.nil) ST.nil) (ST.node (SV.tup []) ST.nil ST.nil))))) (ST.node (SV.c (SC.ptr (1181 :
    Nat) (0 : Nat))) (ST.node (SV.tup []) (ST.node (SV.tup [(true, [SC.int true IntKind.u64 (196611 : Int) (Bd.w (0 : Int) (196611 : Int) (orZero_bd (inC (Int.ofNat ((1 : Nat) + (1 :
    Nat))) (Int.ofNat ((1 : Nat) + (1 : Nat)))) Bd.of._proof_1)), SC.int true IntKind.i64 (22 : Int) (Bd.w (0 : Int) (895 : Int) (counter_bd._proof_4 (Int.ofNat ((1 : Nat) + (1 : Nat)))
    (Int.ofNat ((1 : Nat) + (1 : Nat)))))]), (false, [SC.boo true true])]) (ST.node (SV.c (SC.ptr (596 : Nat) (6 : Nat))) (ST.node (SV.tup []) (ST.node (SV.tup []) ST.nil ST.nil)
    ST.nil) (ST.node (SV.tup []) (ST.node (SV.tup []) ST.nil ST.nil) ST.nil)) (ST.node (SV.c (SC.ptr (596 : Nat) (3 : Nat))) (ST.node (SV.tup []) (ST.node (SV.tup []) ST.nil ST.nil)
    ST.nil) (ST.node (SV.tup []) ST.nil ST.nil))) (ST.node (SV.c (SC.ptr (596 : Nat) (2 : Nat))) (ST.node (SV.c (SC.ptr (596 : Nat) (2 : Nat))) (ST.node (SV.tup []) (ST.node (SV.tup [])
    ST.nil ST.nil) ST.nil) (ST.node (SV.tup []) (ST.node (SV.tup []) ST.nil ST.nil) ST.nil)) (ST.node (SV.c (SC.boo true true)) (ST.node (SV.tup []) (ST.node (SV.tup []) ST.nil ST.nil)
    ST.nil) (ST.node (SV.tup []) ST.nil ST.nil)))) (ST.node (SV.tup []) (ST.node (SV.c (SC.ptr (596 : Nat) (0 : Nat))) (ST.node (SV.c (SC.ptr (596 : Nat) (0 : Nat))) (ST.node (SV.tup
    []) (ST.node (SV.tup []) ST.nil ST.nil) ST.nil) (ST.node (SV.tup []) (ST.node (SV.tup []) ST.nil ST.nil) ST.nil)) (ST.node (SV.tup [(true, [SC.int true IntKind.u64 (196611 : Int)
    (Bd.w (0 : Int) (196611 : Int) (orZero_bd (inC (Int.ofNat ((1 : Nat) + (1 : Nat))) (Int.ofNat ((1 : Nat) + (1 : Nat)))) Bd.of._proof_1)), SC.int true IntKind.i64 (22 : Int) (Bd.w (0
    : Int) (895 : Int) (counter_bd._proof_4 (Int.ofNat ((1 : Nat) + (1 : Nat))) (Int.ofNat ((1 : Nat) + (1 : Nat)))))]), (false, [SC.boo true true])]) (ST.node (SV.tup []) (ST.node
    (SV.tup []) ST.nil ST.nil) ST.nil) (ST.node (SV.tup []) ST.nil ST.nil))) (ST.node (SV.c (SC.ptr (596 : Nat) (0 : Nat))) (ST.node (SV.c (SC.ptr (596 : Nat) (0 : Nat))) (ST.node
    (SV.tup []) (ST.node (SV.tup []) ST.nil ST.nil) ST.nil) (ST.node (SV.tup []) ST.nil ST.nil)) (ST.node (SV.tup []) (ST.node (SV.tup []) (ST.node (SV.tup []) ST.nil ST.nil) ST.nil)
    (ST.node (SV.tup []) ST.nil ST.nil)))))) []) (Mem.mk [((6 : Nat), SO.cells [SC.int false IntKind.i64 (z (0 : Nat)), SC.int false IntKind.i64 (z (1 : Nat)), SC.int false IntKind.i64
    (z (2 : Nat)), SC.int false IntKind.i64 (z (3 : Nat)), SC.int false IntKind.u64 (z (4 : Nat)), SC.int false IntKind.u64 (z (5 : Nat)), SC.int false IntKind.u64 (z (6 : Nat)), SC.int
    false IntKind.u64 (z (7 : Nat)), SC.int false IntKind.u64 (z (8 : Nat)), SC.int false IntKind.u64 (z (9 : Nat)), SC.int false IntKind.u64 (z (10 : Nat)), SC.int false IntKind.u64 (z
    (11 : Nat)), SC.int false IntKind.u64 (z (12 : Nat)), SC.sliv ad false ln cp, SC.int false IntKind.i64 (z (14 : Nat)), SC.int false IntKind.i64 (z (15 : Nat)), SC.int false
    IntKind.i64 (z (16 : Nat)), SC.int false IntKind.i64 (z (17 : Nat)), SC.int false IntKind.i64 (z (18 : Nat)), SC.int false IntKind.i64 (z (19 : Nat))] (31 : Nat)), ((10 : Nat),
    SO.ext (HO.obj [] (PA.mk (60000 : Nat) (7 : Nat) (7 : Nat) (0 : Nat) (1 : Nat) [(0 : Nat), (65537 : Nat), (0 : Nat), (0 : Nat), (0 : Nat), (0 : Nat), (0 : Nat), (0 : Nat), (0 :
    Nat)] (1 : Nat) [(1 : Nat)] [] [((1 : Nat), (65537 : Nat), [(0 : Nat), (0 : Nat), (0 : Nat), (0 : Nat), (0 : Nat), (0 : Nat), (0 : Nat)])] (Tly.mk (1 : Nat) (0 : Nat) (3 : Nat) (1 :
    Nat) (0 : Nat) (0 : Nat))))), ((11 : Nat), SO.row (OfNat.ofNat (25 : Nat)) (1 : Nat) (1 : Nat) cap [SC.int true IntKind.u64 (65537 : Int) Bd.any]), ((18 : Nat), SO.cells [SC.raw
    Value.nilFunc, SC.ptr (10 : Nat) (0 : Nat), SC.int true IntKind.i64 (1 : Int) Bd.any, SC.int true IntKind.i64 (1 : Int), SC.int true IntKind.u64 (65537 : Int) Bd.any, SC.int true
    IntKind.u64 (0 : Int) Bd.any, SC.int true IntKind.u64 (0 : Int), SC.int true IntKind.u64 (0 : Int), SC.int true IntKind.u64 (0 : Int), SC.int true IntKind.u64 (0 : Int), SC.int true
    IntKind.u64 (0 : Int), SC.int true IntKind.u64 (0 : Int), SC.nls] (170 : Nat)), ((370 : Nat), SO.cells [SC.int false IntKind.i64 (z_1 (0 : Nat)), SC.int false IntKind.i64 (z_1 (1 :
    Nat)), SC.int false IntKind.i64 (z_1 (2 : Nat)), SC.int false IntKind.i64 (z_1 (3 : Nat)), SC.int false IntKind.u64 (z_1 (4 : Nat)), SC.int false IntKind.u64 (z_1 (5 : Nat)), SC.int
    false IntKind.u64 (z_1 (6 : Nat)), SC.int false IntKind.u64 (z_1 (7 : Nat)), SC.int false IntKind.u64 (z_1 (8 : Nat)), SC.int false IntKind.u64 (z_1 (9 : Nat)), SC.int false
    IntKind.u64 (z_1 (10 : Nat)), SC.int false IntKind.u64 (z_1 (11 : Nat)), SC.int false IntKind.u64 (z_1 (12 : Nat)), SC.sliv ad_1 false ln_1 cp_1, SC.int false IntKind.i64 (z_1 (14 :
    Nat)), SC.int false IntKind.i64 (z_1 (15 : Nat)), SC.int false IntKind.i64 (z_1 (16 : Nat)), SC.int false IntKind.i64 (z_1 (17 : Nat)), SC.int false IntKind.i64 (z_1 (18 : Nat)),
    SC.int false IntKind.i64 (z_1 (19 : Nat))] (31 : Nat)), ((374 : Nat), SO.ext (HO.obj [] (PA.mk (60000 : Nat) (49 : Nat) (49 : Nat) (0 : Nat) (3 : Nat) [(0 : Nat), (65537 : Nat),
    (131074 : Nat), (196611 : Nat), (0 : Nat), (0 : Nat), (0 : Nat), (0 : Nat), (0 : Nat)] (3 : Nat) [(1 : Nat), (2 : Nat), (3 : Nat)] [] [((1 : Nat), (65537 : Nat), [(0 : Nat), (0 :
    Nat), (0 : Nat), (0 : Nat), (0 : Nat), (0 : Nat), (1 : Nat)]), ((2 : Nat), (131074 : Nat), [(0 : Nat), (0 : Nat), (0 : Nat), (0 : Nat), (0 : Nat), (0 : Nat), (0 : Nat), (0 : Nat),
    (0 : Nat), (0 : Nat), (0 : Nat), (0 : Nat), (0 : Nat), (0 : Nat)]), ((3 : Nat), (196611 : Nat), [(0 : Nat), (0 : Nat), (0 : Nat), (0 : Nat), (0 : Nat), (0 : Nat), (0 : Nat), (0 :
    Nat), (0 : Nat), (0 : Nat), (0 : Nat), (0 : Nat), (0 : Nat), (0 : Nat), (0 : Nat), (0 : Nat), (0 : Nat), (0 : Nat), (0 : Nat), (0 : Nat), (0 : Nat), (2 : Nat), (1 : Nat), (1 : Nat),
    (0 : Nat), (1 : Nat), (0 : Nat), (1 : Nat)])] (Tly.mk (3 : Nat) (0 : Nat) (6 : Nat) (3 : Nat) (0 : Nat) (7 : Nat))))), ((375 : Nat), SO.row (OfNat.ofNat (25 : Nat)) (1 : Nat) (3 :
    Nat) cap_1 [SC.int true IntKind.u64 (65537 : Int) Bd.any, SC.int true IntKind.u64 (131074 : Int) Bd.any, SC.int true IntKind.u64 (196611 : Int) Bd.any]), ((376 : Nat), SO.cells
    [SC.int true IntKind.i64 (6 : Int), SC.int true IntKind.i64 (0 : Int), SC.int true IntKind.i64 (4 : Int)] (3 : Nat)), ((399 : Nat), SO.ext (HO.old (XO.cnt (374 : Nat) (Cnt.mk
    (196611 : Nat) (6 : Nat) (3 : Nat) (3 : Nat) (1 : Nat))))), ((469 : Nat), SO.ext (HO.old (XO.cnt (374 : Nat) (Cnt.mk (65537 : Nat) (0 : Nat) (1 : Nat) (1 : Nat) (1 : Nat))))), ((539
    : Nat), SO.ext (HO.old (XO.cnt (374 : Nat) (Cnt.mk (196611 : Nat) (4 : Nat) (3 : Nat) (3 : Nat) (1 : Nat))))), ((596 : Nat), SO.cells [SC.fn (Fn.func (143 : Nat)) [SC.ptr (596 :
    Nat) (0 : Nat)] [], SC.ptr (374 : Nat) (0 : Nat), SC.int true IntKind.i64 (2 : Int) Bd.any, SC.int true IntKind.i64 (2 : Int) Bd.any, SC.int true IntKind.u64 (65537 : Int) Bd.any,
    SC.int true IntKind.u64 (131074 : Int) Bd.any, SC.int true IntKind.u64 (196611 : Int) Bd.any, SC.int true IntKind.u64 (0 : Int), SC.int true IntKind.u64 (0 : Int), SC.int true
    IntKind.u64 (0 : Int), SC.int true IntKind.u64 (0 : Int), SC.int true IntKind.u64 (0 : Int), SC.sli (765 : Nat) (2 : Nat) true (0 : Nat) true (1 : Nat) cap_2] (170 : Nat)), ((765 :
    Nat), SO.row (37 : Nat) (2 : Nat) (1 : Nat) cap_2 [SC.int true IntKind.u64 (65537 : Int) Bd.any, SC.int true IntKind.i64 (0 : Int) (Bd.w (0 : Int) (254 : Int) (slot_bd._proof_3
    (Int.ofNat (0 : Nat)) (Int.ofNat ((0 : Nat) + (1 : Nat)))))]), ((1181 : Nat), SO.cells [SC.int true IntKind.u64 (196611 : Int) (Bd.w (0 : Int) (196611 : Int) (orZero_bd (inC
    (Int.ofNat ((1 : Nat) + (1 : Nat))) (Int.ofNat ((1 : Nat) + (1 : Nat)))) Bd.of._proof_1)), SC.int true IntKind.i64 (22 : Int) (Bd.w (0 : Int) (895 : Int) (counter_bd._proof_4
    (Int.ofNat ((1 : Nat) + (1 : Nat))) (Int.ofNat ((1 : Nat) + (1 : Nat)))))] (47 : Nat))] (1184 : Nat)) Scr.nil ∧ True) ∧ True → (0 : Nat) = (0 : Nat) ∧ cap_2 = cap_2 ∧ cap_2 = cap_2
    ∧ ((0 : Nat) = (0 : Nat) ∧ cap_2 = cap_2 ∧ cap_2 = cap_2 ∧ K (SF.mk (86 : Nat) (ST.node (SV.c (SC.ptr (596 : Nat) (0 : Nat))) (ST.node (SV.tup []) (ST.node (SV.c (SC.boo true true))
    (ST.node (SV.tup []) (ST.node (SV.c (SC.ptr (596 : Nat) (4 : Nat))) (ST.node (SV.tup []) (ST.node (SV.tup []) ST.nil ST.nil) ST.nil) (ST.node (SV.tup []) (ST.node (SV.tup []) ST.nil
    ST.nil) ST.nil)) (ST.node (SV.c (SC.ptr (596 : Nat) (0 : Nat))) (ST.node (SV.tup []) (ST.node (SV.tup []) ST.nil ST.nil) ST.nil) (ST.node (SV.tup []) ST.nil ST.nil))) (ST.node (SV.c
    (SC.ptr (596 : Nat) (0 : Nat))) (ST.node (SV.c (SC.ptr (596 : Nat) (0 : Nat))) (ST.node (SV.tup []) (ST.node (SV.tup []) ST.nil ST.nil) ST.nil) (ST.node (SV.tup []) (ST.node (SV.tup
    []) ST.nil ST.nil) ST.nil)) (ST.node (SV.agg [SC.int true IntKind.u64 (196611 : Int) (Bd.w (0 : Int) (196611 : Int) (orZero_bd (inC (Int.ofNat ((1 : Nat) + (1 : Nat))) (Int.ofNat
    ((1 : Nat) + (1 : Nat)))) Bd.of._proof_1)), SC.int true IntKind.i64 (22 : Int) (Bd.w (0 : Int) (895 : Int) (counter_bd._proof_4 (Int.ofNat ((1 : Nat) + (1 : Nat))) (Int.ofNat ((1 :
    Nat) + (1 : Nat)))))]) (ST.node (SV.tup []) (ST.node (SV.tup []) ST.nil ST.nil) ST.nil) (ST.node (SV.tup []) ST.nil ST.nil)))) (ST.node (SV.tup []) (ST.node (SV.c (SC.ptr (596 :
    Nat) (0 : Nat))) (ST.node (SV.c (SC.int true IntKind.u64 (196611 : Int) Bd.any)) (ST.node (SV.tup []) (ST.node (SV.tup []) ST.nil ST.nil) ST.nil) (ST.node (SV.tup []) (ST.node
    (SV.tup []) ST.nil ST.nil) ST.nil)) (ST.node (SV.c (SC.int true IntKind.i64 (2 : Int) Bd.any)) (ST.node (SV.tup []) (ST.node (SV.tup []) ST.nil ST.nil) ST.nil) (ST.node (SV.tup [])
    ST.nil ST.nil))) (ST.node (SV.c (SC.int true IntKind.i64 (2 : Int) Bd.any)) (ST.node (SV.c (SC.int true IntKind.i64 (2 : Int) Bd.any)) (ST.node (SV.tup []) (ST.node (SV.tup [])
    ST.nil ST.nil) ST.nil) (ST.node (SV.tup []) (ST.node (SV.tup []) ST.nil ST.nil) ST.nil)) (ST.node (SV.tup []) (ST.node (SV.tup []) (ST.node (SV.tup []) ST.nil ST.nil) ST.nil)
    (ST.node (SV.tup []) ST.nil ST.nil))))) (ST.node (SV.c (SC.ptr (1181 : Nat) (0 : Nat))) (ST.node (SV.tup []) (ST.node (SV.tup [(true, [SC.int true IntKind.u64 (196611 : Int) (Bd.w
    (0 : Int) (196611 : Int) (orZero_bd (inC (Int.ofNat ((1 : Nat) + (1 : Nat))) (Int.ofNat ((1 : Nat) + (1 : Nat)))) Bd.of._proof_1)), SC.int true IntKind.i64 (22 : Int) (Bd.w (0 :
    Int) (895 : Int) (counter_bd._proof_4 (Int.ofNat ((1 : Nat) + (1 : Nat))) (Int.ofNat ((1 : Nat) + (1 : Nat)))))]), (false, [SC.boo true true])]) (ST.node (SV.c (SC.ptr (596 : Nat)
    (6 : Nat))) (ST.node (SV.tup []) (ST.node (SV.tup []) ST.nil ST.nil) ST.nil) (ST.node (SV.tup []) (ST.node (SV.tup []) ST.nil ST.nil) ST.nil)) (ST.node (SV.c (SC.ptr (596 : Nat) (3
    : Nat))) (ST.node (SV.tup []) (ST.node (SV.tup []) ST.nil ST.nil) ST.nil) (ST.node (SV.tup []) ST.nil ST.nil))) (ST.node (SV.c (SC.ptr (596 : Nat) (2 : Nat))) (ST.node (SV.c (SC.ptr
    (596 : Nat) (2 : Nat))) (ST.node (SV.tup []) (ST.node (SV.tup []) ST.nil ST.nil) ST.nil) (ST.node (SV.tup []) (ST.node (SV.tup []) ST.nil ST.nil) ST.nil)) (ST.node (SV.c (SC.boo
    true true)) (ST.node (SV.tup []) (ST.node (SV.tup []) ST.nil ST.nil) ST.nil) (ST.node (SV.tup []) ST.nil ST.nil)))) (ST.node (SV.tup []) (ST.node (SV.c (SC.ptr (596 : Nat) (0 :
    Nat))) (ST.node (SV.c (SC.ptr (596 : Nat) (0 : Nat))) (ST.node (SV.tup []) (ST.node (SV.tup []) ST.nil ST.nil) ST.nil) (ST.node (SV.tup []) (ST.node (SV.tup []) ST.nil ST.nil)
    ST.nil)) (ST.node (SV.tup [(true, [SC.int true IntKind.u64 (196611 : Int) (Bd.w (0 : Int) (196611 : Int) (orZero_bd (inC (Int.ofNat ((1 : Nat) + (1 : Nat))) (Int.ofNat ((1 : Nat) +
    (1 : Nat)))) Bd.of._proof_1)), SC.int true IntKind.i64 (22 : Int) (Bd.w (0 : Int) (895 : Int) (counter_bd._proof_4 (Int.ofNat ((1 : Nat) + (1 : Nat))) (Int.ofNat ((1 : Nat) + (1 :
    Nat)))))]), (false, [SC.boo true true])]) (ST.node (SV.tup []) (ST.node (SV.tup []) ST.nil ST.nil) ST.nil) (ST.node (SV.tup []) ST.nil ST.nil))) (ST.node (SV.c (SC.ptr (596 : Nat)
    (0 : Nat))) (ST.node (SV.c (SC.ptr (596 : Nat) (0 : Nat))) (ST.node (SV.tup []) (ST.node (SV.tup []) ST.nil ST.nil) ST.nil) (ST.node (SV.tup []) ST.nil ST.nil)) (ST.node (SV.tup [])
    (ST.node (SV.tup []) (ST.node (SV.tup []) ST.nil ST.nil) ST.nil) (ST.node (SV.tup []) ST.nil ST.nil)))))) []) (Mem.mk [((6 : Nat), SO.cells [SC.int false IntKind.i64 (z (0 : Nat)),
    SC.int false IntKind.i64 (z (1 : Nat)), SC.int false IntKind.i64 (z (2 : Nat)), SC.int false IntKind.i64 (z (3 : Nat)), SC.int false IntKind.u64 (z (4 : Nat)), SC.int false
    IntKind.u64 (z (5 : Nat)), SC.int false IntKind.u64 (z (6 : Nat)), SC.int false IntKind.u64 (z (7 : Nat)), SC.int false IntKind.u64 (z (8 : Nat)), SC.int false IntKind.u64 (z (9 :
    Nat)), SC.int false IntKind.u64 (z (10 : Nat)), SC.int false IntKind.u64 (z (11 : Nat)), SC.int false IntKind.u64 (z (12 : Nat)), SC.sliv ad false ln cp, SC.int false IntKind.i64 (z
    (14 : Nat)), SC.int false IntKind.i64 (z (15 : Nat)), SC.int false IntKind.i64 (z (16 : Nat)), SC.int false IntKind.i64 (z (17 : Nat)), SC.int false IntKind.i64 (z (18 : Nat)),
    SC.int false IntKind.i64 (z (19 : Nat))] (31 : Nat)), ((10 : Nat), SO.ext (HO.obj [] (PA.mk (60000 : Nat) (7 : Nat) (7 : Nat) (0 : Nat) (1 : Nat) [(0 : Nat), (65537 : Nat), (0 :
    Nat), (0 : Nat), (0 : Nat), (0 : Nat), (0 : Nat), (0 : Nat), (0 : Nat)] (1 : Nat) [(1 : Nat)] [] [((1 : Nat), (65537 : Nat), [(0 : Nat), (0 : Nat), (0 : Nat), (0 : Nat), (0 : Nat),
    (0 : Nat), (0 : Nat)])] (Tly.mk (1 : Nat) (0 : Nat) (3 : Nat) (1 : Nat) (0 : Nat) (0 : Nat))))), ((11 : Nat), SO.row (OfNat.ofNat (25 : Nat)) (1 : Nat) (1 : Nat) cap [SC.int true
    IntKind.u64 (65537 : Int) Bd.any]), ((18 : Nat), SO.cells [SC.raw Value.nilFunc, SC.ptr (10 : Nat) (0 : Nat), SC.int true IntKind.i64 (1 : Int) Bd.any, SC.int true IntKind.i64 (1 :
    Int), SC.int true IntKind.u64 (65537 : Int) Bd.any, SC.int true IntKind.u64 (0 : Int) Bd.any, SC.int true IntKind.u64 (0 : Int), SC.int true IntKind.u64 (0 : Int), SC.int true
    IntKind.u64 (0 : Int), SC.int true IntKind.u64 (0 : Int), SC.int true IntKind.u64 (0 : Int), SC.int true IntKind.u64 (0 : Int), SC.nls] (170 : Nat)), ((370 : Nat), SO.cells [SC.int
    false IntKind.i64 (z_1 (0 : Nat)), SC.int false IntKind.i64 (z_1 (1 : Nat)), SC.int false IntKind.i64 (z_1 (2 : Nat)), SC.int false IntKind.i64 (z_1 (3 : Nat)), SC.int false
    IntKind.u64 (z_1 (4 : Nat)), SC.int false IntKind.u64 (z_1 (5 : Nat)), SC.int false IntKind.u64 (z_1 (6 : Nat)), SC.int false IntKind.u64 (z_1 (7 : Nat)), SC.int false IntKind.u64
    (z_1 (8 : Nat)), SC.int false IntKind.u64 (z_1 (9 : Nat)), SC.int false IntKind.u64 (z_1 (10 : Nat)), SC.int false IntKind.u64 (z_1 (11 : Nat)), SC.int false IntKind.u64 (z_1 (12 :
    Nat)), SC.sliv ad_1 false ln_1 cp_1, SC.int false IntKind.i64 (z_1 (14 : Nat)), SC.int false IntKind.i64 (z_1 (15 : Nat)), SC.int false IntKind.i64 (z_1 (16 : Nat)), SC.int false
    IntKind.i64 (z_1 (17 : Nat)), SC.int false IntKind.i64 (z_1 (18 : Nat)), SC.int false IntKind.i64 (z_1 (19 : Nat))] (31 : Nat)), ((374 : Nat), SO.ext (HO.obj [] (PA.mk (60000 : Nat)
    (49 : Nat) (49 : Nat) (0 : Nat) (3 : Nat) [(0 : Nat), (65537 : Nat), (131074 : Nat), (196611 : Nat), (0 : Nat), (0 : Nat), (0 : Nat), (0 : Nat), (0 : Nat)] (3 : Nat) [(1 : Nat), (2
    : Nat), (3 : Nat)] [] [((1 : Nat), (65537 : Nat), [(0 : Nat), (0 : Nat), (0 : Nat), (0 : Nat), (0 : Nat), (0 : Nat), (1 : Nat)]), ((2 : Nat), (131074 : Nat), [(0 : Nat), (0 : Nat),
    (0 : Nat), (0 : Nat), (0 : Nat), (0 : Nat), (0 : Nat), (0 : Nat), (0 : Nat), (0 : Nat), (0 : Nat), (0 : Nat), (0 : Nat), (0 : Nat)]), ((3 : Nat), (196611 : Nat), [(0 : Nat), (0 :
    Nat), (0 : Nat), (0 : Nat), (0 : Nat), (0 : Nat), (0 : Nat), (0 : Nat), (0 : Nat), (0 : Nat), (0 : Nat), (0 : Nat), (0 : Nat), (0 : Nat), (0 : Nat), (0 : Nat), (0 : Nat), (0 : Nat),
    (0 : Nat), (0 : Nat), (0 : Nat), (2 : Nat), (1 : Nat), (1 : Nat), (0 : Nat), (1 : Nat), (0 : Nat), (1 : Nat)])] (Tly.mk (3 : Nat) (0 : Nat) (6 : Nat) (3 : Nat) (0 : Nat) (7 :
    Nat))))), ((375 : Nat), SO.row (OfNat.ofNat (25 : Nat)) (1 : Nat) (3 : Nat) cap_1 [SC.int true IntKind.u64 (65537 : Int) Bd.any, SC.int true IntKind.u64 (131074 : Int) Bd.any,
    SC.int true IntKind.u64 (196611 : Int) Bd.any]), ((376 : Nat), SO.cells [SC.int true IntKind.i64 (6 : Int), SC.int true IntKind.i64 (0 : Int), SC.int true IntKind.i64 (4 : Int)] (3
    : Nat)), ((399 : Nat), SO.ext (HO.old (XO.cnt (374 : Nat) (Cnt.mk (196611 : Nat) (6 : Nat) (3 : Nat) (3 : Nat) (1 : Nat))))), ((469 : Nat), SO.ext (HO.old (XO.cnt (374 : Nat)
    (Cnt.mk (65537 : Nat) (0 : Nat) (1 : Nat) (1 : Nat) (1 : Nat))))), ((539 : Nat), SO.ext (HO.old (XO.cnt (374 : Nat) (Cnt.mk (196611 : Nat) (4 : Nat) (3 : Nat) (3 : Nat) (1 :
    Nat))))), ((596 : Nat), SO.cells [SC.fn (Fn.func (143 : Nat)) [SC.ptr (596 : Nat) (0 : Nat)] [], SC.ptr (374 : Nat) (0 : Nat), SC.int true IntKind.i64 (2 : Int) Bd.any, SC.int true
    IntKind.i64 (2 : Int) Bd.any, SC.int true IntKind.u64 (65537 : Int) Bd.any, SC.int true IntKind.u64 (131074 : Int) Bd.any, SC.int true IntKind.u64 (196611 : Int) Bd.any, SC.int true
    IntKind.u64 (0 : Int), SC.int true IntKind.u64 (0 : Int), SC.int true IntKind.u64 (0 : Int), SC.int true IntKind.u64 (0 : Int), SC.int true IntKind.u64 (0 : Int), SC.sli (765 : Nat)
    (2 : Nat) true (0 : Nat) true (1 : Nat) cap_2] (170 : Nat)), ((765 : Nat), SO.row (37 : Nat) (2 : Nat) (1 : Nat) cap_2 [SC.int true IntKind.u64 (65537 : Int) Bd.any, SC.int true
    IntKind.i64 (0 : Int) (Bd.w (0 : Int) (254 : Int) (slot_bd._proof_3 (Int.ofNat (0 : Nat)) (Int.ofNat ((0 : Nat) + (1 : Nat)))))]), ((1181 : Nat), SO.cells [SC.int true IntKind.u64
    (196611 : Int) (Bd.w (0 : Int) (196611 : Int) (orZero_bd (inC (Int.ofNat ((1 : Nat) + (1 : Nat))) (Int.ofNat ((1 : Nat) + (1 : Nat)))) Bd.of._proof_1)), SC.int true IntKind.i64 (22
    : Int) (Bd.w (0 : Int) (895 : Int) (counter_bd._proof_4 (Int.ofNat ((1 : Nat) + (1 : Nat))) (Int.ofNat ((1 : Nat) + (1 : Nat)))))] (47 : Nat))] (1184 : Nat)) Scr.nil ∧ True) ∧ True)
    ∧ True) ∧ True) ∧ True) ∧ True) ∧ True) ∧ (∀ (K : KO XP), (0 : Nat) = (0 : Nat) ∧ cap_2 = cap_2 ∧ cap_2 = cap_2 ∧ ((0 : Nat) = (0 : Nat) ∧ cap_2 = cap_2 ∧ cap_2 = cap_2 ∧ K (SF.mk
    (86 : Nat) (ST.node (SV.c (SC.ptr (596 : Nat) (0 : Nat))) (ST.node (SV.tup []) (ST.node (SV.c (SC.boo true true)) (ST.node (SV.tup []) (ST.node (SV.c (SC.ptr (596 : Nat) (4 : Nat)))
    (ST.node (SV.tup []) (ST.node (SV.tup []) ST.nil ST.nil) ST.nil) (ST.node (SV.tup []) (ST.node (SV.tup []) ST.nil ST.nil) ST.nil)) (ST.node (SV.c (SC.ptr (596 : Nat) (0 : Nat)))
    (ST.node (SV.tup []) (ST.node (SV.tup []) ST.nil ST.nil) ST.nil) (ST.node (SV.tup []) ST.nil ST.nil))) (ST.node (SV.c (SC.ptr (596 : Nat) (0 : Nat))) (ST.node (SV.c (SC.ptr (596 :
    Nat) (0 : Nat))) (ST.node (SV.tup []) (ST.node (SV.tup []) ST.nil ST.nil) ST.nil) (ST.node (SV.tup []) (ST.node (SV.tup []) ST.nil ST.nil) ST.nil)) (ST.node (SV.agg [SC.int true
    IntKind.u64 (196611 : Int) (Bd.w (0 : Int) (196611 : Int) (orZero_bd (inC (Int.ofNat ((1 : Nat) + (1 : Nat))) (Int.ofNat ((0 : Nat) + (1 : Nat)))) Bd.of._proof_1)), SC.int true
    IntKind.i64 (21 : Int) (Bd.w (0 : Int) (895 : Int) (counter_bd._proof_4 (Int.ofNat ((1 : Nat) + (1 : Nat))) (Int.ofNat ((0 : Nat) + (1 : Nat)))))]) (ST.node (SV.tup []) (ST.node
    (SV.tup []) ST.nil ST.nil) ST.nil) (ST.node (SV.tup []) ST.nil ST.nil)))) (ST.node (SV.tup []) (ST.node (SV.c (SC.ptr (596 : Nat) (0 : Nat))) (ST.node (SV.c (SC.int true IntKind.u64
    (196611 : Int) Bd.any)) (ST.node (SV.tup []) (ST.node (SV.tup []) ST.nil ST.nil) ST.nil) (ST.node (SV.tup []) (ST.node (SV.tup []) ST.nil ST.nil) ST.nil)) (ST.node (SV.c (SC.int
    true IntKind.i64 (1 : Int))) (ST.node (SV.tup []) (ST.node (SV.tup []) ST.nil ST.nil) ST.nil) (ST.node (SV.tup []) ST.nil ST.nil))) (ST.node (SV.c (SC.int true IntKind.i64 (2 : Int)
    Bd.any)) (ST.node (SV.c (SC.int true IntKind.i64 (2 : Int) Bd.any)) (ST.node (SV.tup []) (ST.node (SV.tup []) ST.nil ST.nil) ST.nil) (ST.node (SV.tup []) (ST.node (SV.tup []) ST.nil
    ST.nil) ST.nil)) (ST.node (SV.tup []) (ST.node (SV.tup []) (ST.node (SV.tup []) ST.nil ST.nil) ST.nil) (ST.node (SV.tup []) ST.nil ST.nil))))) (ST.node (SV.c (SC.ptr (1098 : Nat) (0
    : Nat))) (ST.node (SV.tup []) (ST.node (SV.tup [(true, [SC.int true IntKind.u64 (196611 : Int) (Bd.w (0 : Int) (196611 : Int) (orZero_bd (inC (Int.ofNat ((1 : Nat) + (1 : Nat)))
    (Int.ofNat ((0 : Nat) + (1 : Nat)))) Bd.of._proof_1)), SC.int true IntKind.i64 (21 : Int) (Bd.w (0 : Int) (895 : Int) (counter_bd._proof_4 (Int.ofNat ((1 : Nat) + (1 : Nat)))
    (Int.ofNat ((0 : Nat) + (1 : Nat)))))]), (false, [SC.boo true true])]) (ST.node (SV.c (SC.ptr (596 : Nat) (6 : Nat))) (ST.node (SV.tup []) (ST.node (SV.tup []) ST.nil ST.nil)
    ST.nil) (ST.node (SV.tup []) (ST.node (SV.tup []) ST.nil ST.nil) ST.nil)) (ST.node (SV.c (SC.ptr (596 : Nat) (3 : Nat))) (ST.node (SV.tup []) (ST.node (SV.tup []) ST.nil ST.nil)
    ST.nil) (ST.node (SV.tup []) ST.nil ST.nil))) (ST.node (SV.c (SC.ptr (596 : Nat) (2 : Nat))) (ST.node (SV.c (SC.ptr (596 : Nat) (2 : Nat))) (ST.node (SV.tup []) (ST.node (SV.tup [])
    ST.nil ST.nil) ST.nil) (ST.node (SV.tup []) (ST.node (SV.tup []) ST.nil ST.nil) ST.nil)) (ST.node (SV.c (SC.boo true true)) (ST.node (SV.tup []) (ST.node (SV.tup []) ST.nil ST.nil)
    ST.nil) (ST.node (SV.tup []) ST.nil ST.nil)))) (ST.node (SV.tup []) (ST.node (SV.c (SC.ptr (596 : Nat) (0 : Nat))) (ST.node (SV.c (SC.ptr (596 : Nat) (0 : Nat))) (ST.node (SV.tup
    []) (ST.node (SV.tup []) ST.nil ST.nil) ST.nil) (ST.node (SV.tup []) (ST.node (SV.tup []) ST.nil ST.nil) ST.nil)) (ST.node (SV.tup [(true, [SC.int true IntKind.u64 (196611 : Int)
    (Bd.w (0 : Int) (196611 : Int) (orZero_bd (inC (Int.ofNat ((1 : Nat) + (1 : Nat))) (Int.ofNat ((0 : Nat) + (1 : Nat)))) Bd.of._proof_1)), SC.int true IntKind.i64 (21 : Int) (Bd.w (0
    : Int) (895 : Int) (counter_bd._proof_4 (Int.ofNat ((1 : Nat) + (1 : Nat))) (Int.ofNat ((0 : Nat) + (1 : Nat)))))]), (false, [SC.boo true true])]) (ST.node (SV.tup []) (ST.node
    (SV.tup []) ST.nil ST.nil) ST.nil) (ST.node (SV.tup []) ST.nil ST.nil))) (ST.node (SV.c (SC.ptr (596 : Nat) (0 : Nat))) (ST.node (SV.c (SC.ptr (596 : Nat) (0 : Nat))) (ST.node
    (SV.tup []) (ST.node (SV.tup []) ST.nil ST.nil) ST.nil) (ST.node (SV.tup []) ST.nil ST.nil)) (ST.node (SV.tup []) (ST.node (SV.tup []) (ST.node (SV.tup []) ST.nil ST.nil) ST.nil)
    (ST.node (SV.tup []) ST.nil ST.nil)))))) []) (Mem.mk [((6 : Nat), SO.cells [SC.int false IntKind.i64 (z (0 : Nat)), SC.int false IntKind.i64 (z (1 : Nat)), SC.int false IntKind.i64
    (z (2 : Nat)), SC.int false IntKind.i64 (z (3 : Nat)), SC.int false IntKind.u64 (z (4 : Nat)), SC.int false IntKind.u64 (z (5 : Nat)), SC.int false IntKind.u64 (z (6 : Nat)), SC.int
    false IntKind.u64 (z (7 : Nat)), SC.int false IntKind.u64 (z (8 : Nat)), SC.int false IntKind.u64 (z (9 : Nat)), SC.int false IntKind.u64 (z (10 : Nat)), SC.int false IntKind.u64 (z
    (11 : Nat)), SC.int false IntKind.u64 (z (12 : Nat)), SC.sliv ad false ln cp, SC.int false IntKind.i64 (z (14 : Nat)), SC.int false IntKind.i64 (z (15 : Nat)), SC.int false
    IntKind.i64 (z (16 : Nat)), SC.int false IntKind.i64 (z (17 : Nat)), SC.int false IntKind.i64 (z (18 : Nat)), SC.int false IntKind.i64 (z (19 : Nat))] (31 : Nat)), ((10 : Nat),
    SO.ext (HO.obj [] (PA.mk (60000 : Nat) (7 : Nat) (7 : Nat) (0 : Nat) (1 : Nat) [(0 : Nat), (65537 : Nat), (0 : Nat), (0 : Nat), (0 : Nat), (0 : Nat), (0 : Nat), (0 : Nat), (0 :
    Nat)] (1 : Nat) [(1 : Nat)] [] [((1 : Nat), (65537 : Nat), [(0 : Nat), (0 : Nat), (0 : Nat), (0 : Nat), (0 : Nat), (0 : Nat), (0 : Nat)])] (Tly.mk (1 : Nat) (0 : Nat) (3 : Nat) (1 :
    Nat) (0 : Nat) (0 : Nat))))), ((11 : Nat), SO.row (OfNat.ofNat (25 : Nat)) (1 : Nat) (1 : Nat) cap [SC.int true IntKind.u64 (65537 : Int) Bd.any]), ((18 : Nat), SO.cells [SC.raw
    Value.nilFunc, SC.ptr (10 : Nat) (0 : Nat), SC.int true IntKind.i64 (1 : Int) Bd.any, SC.int true IntKind.i64 (1 : Int), SC.int true IntKind.u64 (65537 : Int) Bd.any, SC.int true
    IntKind.u64 (0 : Int) Bd.any, SC.int true IntKind.u64 (0 : Int), SC.int true IntKind.u64 (0 : Int), SC.int true IntKind.u64 (0 : Int), SC.int true IntKind.u64 (0 : Int), SC.int true
    IntKind.u64 (0 : Int), SC.int true IntKind.u64 (0 : Int), SC.nls] (170 : Nat)), ((370 : Nat), SO.cells [SC.int false IntKind.i64 (z_1 (0 : Nat)), SC.int false IntKind.i64 (z_1 (1 :
    Nat)), SC.int false IntKind.i64 (z_1 (2 : Nat)), SC.int false IntKind.i64 (z_1 (3 : Nat)), SC.int false IntKind.u64 (z_1 (4 : Nat)), SC.int false IntKind.u64 (z_1 (5 : Nat)), SC.int
    false IntKind.u64 (z_1 (6 : Nat)), SC.int false IntKind.u64 (z_1 (7 : Nat)), SC.int false IntKind.u64 (z_1 (8 : Nat)), SC.int false IntKind.u64 (z_1 (9 : Nat)), SC.int false
    IntKind.u64 (z_1 (10 : Nat)), SC.int false IntKind.u64 (z_1 (11 : Nat)), SC.int false IntKind.u64 (z_1 (12 : Nat)), SC.sliv ad_1 false ln_1 cp_1, SC.int false IntKind.i64 (z_1 (14 :
    Nat)), SC.int false IntKind.i64 (z_1 (15 : Nat)), SC.int false IntKind.i64 (z_1 (16 : Nat)), SC.int false IntKind.i64 (z_1 (17 : Nat)), SC.int false IntKind.i64 (z_1 (18 : Nat)),
    SC.int false IntKind.i64 (z_1 (19 : Nat))] (31 : Nat)), ((374 : Nat), SO.ext (HO.obj [] (PA.mk (60000 : Nat) (49 : Nat) (49 : Nat) (0 : Nat) (3 : Nat) [(0 : Nat), (65537 : Nat),
    (131074 : Nat), (196611 : Nat), (0 : Nat), (0 : Nat), (0 : Nat), (0 : Nat), (0 : Nat)] (3 : Nat) [(1 : Nat), (2 : Nat), (3 : Nat)] [] [((1 : Nat), (65537 : Nat), [(0 : Nat), (0 :
    Nat), (0 : Nat), (0 : Nat), (0 : Nat), (0 : Nat), (1 : Nat)]), ((2 : Nat), (131074 : Nat), [(0 : Nat), (0 : Nat), (0 : Nat), (0 : Nat), (0 : Nat), (0 : Nat), (0 : Nat), (0 : Nat),
    (0 : Nat), (0 : Nat), (0 : Nat), (0 : Nat), (0 : Nat), (0 : Nat)]), ((3 : Nat), (196611 : Nat), [(0 : Nat), (0 : Nat), (0 : Nat), (0 : Nat), (0 : Nat), (0 : Nat), (0 : Nat), (0 :
    Nat), (0 : Nat), (0 : Nat), (0 : Nat), (0 : Nat), (0 : Nat), (0 : Nat), (0 : Nat), (0 : Nat), (0 : Nat), (0 : Nat), (0 : Nat), (0 : Nat), (0 : Nat), (2 : Nat), (1 : Nat), (1 : Nat),
    (0 : Nat), (1 : Nat), (0 : Nat), (1 : Nat)])] (Tly.mk (3 : Nat) (0 : Nat) (5 : Nat) (3 : Nat) (0 : Nat) (7 : Nat))))), ((375 : Nat), SO.row (OfNat.ofNat (25 : Nat)) (1 : Nat) (3 :
    Nat) cap_1 [SC.int true IntKind.u64 (65537 : Int) Bd.any, SC.int true IntKind.u64 (131074 : Int) Bd.any, SC.int true IntKind.u64 (196611 : Int) Bd.any]), ((376 : Nat), SO.cells
    [SC.int true IntKind.i64 (6 : Int), SC.int true IntKind.i64 (0 : Int), SC.int true IntKind.i64 (4 : Int)] (3 : Nat)), ((399 : Nat), SO.ext (HO.old (XO.cnt (374 : Nat) (Cnt.mk
    (196611 : Nat) (6 : Nat) (3 : Nat) (3 : Nat) (1 : Nat))))), ((469 : Nat), SO.ext (HO.old (XO.cnt (374 : Nat) (Cnt.mk (65537 : Nat) (0 : Nat) (1 : Nat) (1 : Nat) (1 : Nat))))), ((539
    : Nat), SO.ext (HO.old (XO.cnt (374 : Nat) (Cnt.mk (196611 : Nat) (4 : Nat) (3 : Nat) (3 : Nat) (1 : Nat))))), ((596 : Nat), SO.cells [SC.fn (Fn.func (143 : Nat)) [SC.ptr (596 :
    Nat) (0 : Nat)] [], SC.ptr (374 : Nat) (0 : Nat), SC.int true IntKind.i64 (2 : Int) Bd.any, SC.int true IntKind.i64 (1 : Int), SC.int true IntKind.u64 (65537 : Int) Bd.any, SC.int
    true IntKind.u64 (131074 : Int) Bd.any, SC.int true IntKind.u64 (196611 : Int) Bd.any, SC.int true IntKind.u64 (0 : Int), SC.int true IntKind.u64 (0 : Int), SC.int true IntKind.u64
    (0 : Int), SC.int true IntKind.u64 (0 : Int), SC.int true IntKind.u64 (0 : Int), SC.sli (765 : Nat) (2 : Nat) true (0 : Nat) true (1 : Nat) cap_2] (170 : Nat)), ((765 : Nat), SO.row
    (37 : Nat) (2 : Nat) (1 : Nat) cap_2 [SC.int true IntKind.u64 (65537 : Int) Bd.any, SC.int true IntKind.i64 (0 : Int) (Bd.w (0 : Int) (254 : Int) (slot_bd._proof_3 (Int.ofNat (0 :
    Nat)) (Int.ofNat ((0 : Nat) + (1 : Nat)))))]), ((1098 : Nat), SO.cells [SC.int true IntKind.u64 (196611 : Int) (Bd.w (0 : Int) (196611 : Int) (orZero_bd (inC (Int.ofNat ((1 : Nat) +
    (1 : Nat))) (Int.ofNat ((0 : Nat) + (1 : Nat)))) Bd.of._proof_1)), SC.int true IntKind.i64 (21 : Int) (Bd.w (0 : Int) (895 : Int) (counter_bd._proof_4 (Int.ofNat ((1 : Nat) + (1 :
    Nat))) (Int.ofNat ((0 : Nat) + (1 : Nat)))))] (47 : Nat))] (1101 : Nat)) Scr.nil ∧ True) ∧ True → (0 : Nat) = (0 : Nat) ∧ cap_2 = cap_2 ∧ cap_2 = cap_2 ∧ ((0 : Nat) = (0 : Nat) ∧
    cap_2 = cap_2 ∧ cap_2 = cap_2 ∧ K (SF.mk (86 : Nat) (ST.node (SV.c (SC.ptr (596 : Nat) (0 : Nat))) (ST.node (SV.tup []) (ST.node (SV.c (SC.boo true true)) (ST.node (SV.tup [])
    (ST.node (SV.c (SC.ptr (596 : Nat) (4 : Nat))) (ST.node (SV.tup []) (ST.node (SV.tup []) ST.nil ST.nil) ST.nil) (ST.node (SV.tup []) (ST.node (SV.tup []) ST.nil ST.nil) ST.nil))
    (ST.node (SV.c (SC.ptr (596 : Nat) (0 : Nat))) (ST.node (SV.tup []) (ST.node (SV.tup []) ST.nil ST.nil) ST.nil) (ST.node (SV.tup []) ST.nil ST.nil))) (ST.node (SV.c (SC.ptr (596 :
    Nat) (0 : Nat))) (ST.node (SV.c (SC.ptr (596 : Nat) (0 : Nat))) (ST.node (SV.tup []) (ST.node (SV.tup []) ST.nil ST.nil) ST.nil) (ST.node (SV.tup []) (ST.node (SV.tup []) ST.nil
    ST.nil) ST.nil)) (ST.node (SV.agg [SC.int true IntKind.u64 (196611 : Int) (Bd.w (0 : Int) (196611 : Int) (orZero_bd (inC (Int.ofNat ((1 : Nat) + (1 : Nat))) (Int.ofNat ((0 : Nat) +
    (1 : Nat)))) Bd.of._proof_1)), SC.int true IntKind.i64 (21 : Int) (Bd.w (0 : Int) (895 : Int) (counter_bd._proof_4 (Int.ofNat ((1 : Nat) + (1 : Nat))) (Int.ofNat ((0 : Nat) + (1 :
    Nat)))))]) (ST.node (SV.tup []) (ST.node (SV.tup []) ST.nil ST.nil) ST.nil) (ST.node (SV.tup []) ST.nil ST.nil)))) (ST.node (SV.tup []) (ST.node (SV.c (SC.ptr (596 : Nat) (0 :
    Nat))) (ST.node (SV.c (SC.int true IntKind.u64 (196611 : Int) Bd.any)) (ST.node (SV.tup []) (ST.node (SV.tup []) ST.nil ST.nil) ST.nil) (ST.node (SV.tup []) (ST.node (SV.tup [])
    ST.nil ST.nil) ST.nil)) (ST.node (SV.c (SC.int true IntKind.i64 (1 : Int))) (ST.node (SV.tup []) (ST.node (SV.tup []) ST.nil ST.nil) ST.nil) (ST.node (SV.tup []) ST.nil ST.nil)))
    (ST.node (SV.c (SC.int true IntKind.i64 (2 : Int) Bd.any)) (ST.node (SV.c (SC.int true IntKind.i64 (2 : Int) Bd.any)) (ST.node (SV.tup []) (ST.node (SV.tup []) ST.nil ST.nil)
    ST.nil) (ST.node (SV.tup []) (ST.node (SV.tup []) ST.nil ST.nil) ST.nil)) (ST.node (SV.tup []) (ST.node (SV.tup []) (ST.node (SV.tup []) ST.nil ST.nil) ST.nil) (ST.node (SV.tup [])
    ST.nil ST.nil))))) (ST.node (SV.c (SC.ptr (1098 : Nat) (0 : Nat))) (ST.node (SV.tup []) (ST.node (SV.tup [(true, [SC.int true IntKind.u64 (196611 : Int) (Bd.w (0 : Int) (196611 :
    Int) (orZero_bd (inC (Int.ofNat ((1 : Nat) + (1 : Nat))) (Int.ofNat ((0 : Nat) + (1 : Nat)))) Bd.of._proof_1)), SC.int true IntKind.i64 (21 : Int) (Bd.w (0 : Int) (895 : Int)
    (counter_bd._proof_4 (Int.ofNat ((1 : Nat) + (1 : Nat))) (Int.ofNat ((0 : Nat) + (1 : Nat)))))]), (false, [SC.boo true true])]) (ST.node (SV.c (SC.ptr (596 : Nat) (6 : Nat)))
    (ST.node (SV.tup []) (ST.node (SV.tup []) ST.nil ST.nil) ST.nil) (ST.node (SV.tup []) (ST.node (SV.tup []) ST.nil ST.nil) ST.nil)) (ST.node (SV.c (SC.ptr (596 : Nat) (3 : Nat)))
    (ST.node (SV.tup []) (ST.node (SV.tup []) ST.nil ST.nil) ST.nil) (ST.node (SV.tup []) ST.nil ST.nil))) (ST.node (SV.c (SC.ptr (596 : Nat) (2 : Nat))) (ST.node (SV.c (SC.ptr (596 :
    Nat) (2 : Nat))) (ST.node (SV.tup []) (ST.node (SV.tup []) ST.nil ST.nil) ST.nil) (ST.node (SV.tup []) (ST.node (SV.tup []) ST.nil ST.nil) ST.nil)) (ST.node (SV.c (SC.boo true
    true)) (ST.node (SV.tup []) (ST.node (SV.tup []) ST.nil ST.nil) ST.nil) (ST.node (SV.tup []) ST.nil ST.nil)))) (ST.node (SV.tup []) (ST.node (SV.c (SC.ptr (596 : Nat) (0 : Nat)))
    (ST.node (SV.c (SC.ptr (596 : Nat) (0 : Nat))) (ST.node (SV.tup []) (ST.node (SV.tup []) ST.nil ST.nil) ST.nil) (ST.node (SV.tup []) (ST.node (SV.tup []) ST.nil ST.nil) ST.nil))
    (ST.node (SV.tup [(true, [SC.int true IntKind.u64 (196611 : Int) (Bd.w (0 : Int) (196611 : Int) (orZero_bd (inC (Int.ofNat ((1 : Nat) + (1 : Nat))) (Int.ofNat ((0 : Nat) + (1 :
    Nat)))) Bd.of._proof_1)), SC.int true IntKind.i64 (21 : Int) (Bd.w (0 : Int) (895 : Int) (counter_bd._proof_4 (Int.ofNat ((1 : Nat) + (1 : Nat))) (Int.ofNat ((0 : Nat) + (1 :
    Nat)))))]), (false, [SC.boo true true])]) (ST.node (SV.tup []) (ST.node (SV.tup []) ST.nil ST.nil) ST.nil) (ST.node (SV.tup []) ST.nil ST.nil))) (ST.node (SV.c (SC.ptr (596 : Nat)
    (0 : Nat))) (ST.node (SV.c (SC.ptr (596 : Nat) (0 : Nat))) (ST.node (SV.tup []) (ST.node (SV.tup []) ST.nil ST.nil) ST.nil) (ST.node (SV.tup []) ST.nil ST.nil)) (ST.node (SV.tup [])
    (ST.node (SV.tup []) (ST.node (SV.tup []) ST.nil ST.nil) ST.nil) (ST.node (SV.tup []) ST.nil ST.nil)))))) []) (Mem.mk [((6 : Nat), SO.cells [SC.int false IntKind.i64 (z (0 : Nat)),
    SC.int false IntKind.i64 (z (1 : Nat)), SC.int false IntKind.i64 (z (2 : Nat)), SC.int false IntKind.i64 (z (3 : Nat)), SC.int false IntKind.u64 (z (4 : Nat)), SC.int false
    IntKind.u64 (z (5 : Nat)), SC.int false IntKind.u64 (z (6 : Nat)), SC.int false IntKind.u64 (z (7 : Nat)), SC.int false IntKind.u64 (z (8 : Nat)), SC.int false IntKind.u64 (z (9 :
    Nat)), SC.int false IntKind.u64 (z (10 : Nat)), SC.int false IntKind.u64 (z (11 : Nat)), SC.int false IntKind.u64 (z (12 : Nat)), SC.sliv ad false ln cp, SC.int false IntKind.i64 (z
    (14 : Nat)), SC.int false IntKind.i64 (z (15 : Nat)), SC.int false IntKind.i64 (z (16 : Nat)), SC.int false IntKind.i64 (z (17 : Nat)), SC.int false IntKind.i64 (z (18 : Nat)),
    SC.int false IntKind.i64 (z (19 : Nat))] (31 : Nat)), ((10 : Nat), SO.ext (HO.obj [] (PA.mk (60000 : Nat) (7 : Nat) (7 : Nat) (0 : Nat) (1 : Nat) [(0 : Nat), (65537 : Nat), (0 :
    Nat), (0 : Nat), (0 : Nat), (0 : Nat), (0 : Nat), (0 : Nat), (0 : Nat)] (1 : Nat) [(1 : Nat)] [] [((1 : Nat), (65537 : Nat), [(0 : Nat), (0 : Nat), (0 : Nat), (0 : Nat), (0 : Nat),
    (0 : Nat), (0 : Nat)])] (Tly.mk (1 : Nat) (0 : Nat) (3 : Nat) (1 : Nat) (0 : Nat) (0 : Nat))))), ((11 : Nat), SO.row (OfNat.ofNat (25 : Nat)) (1 : Nat) (1 : Nat) cap [SC.int true
    IntKind.u64 (65537 : Int) Bd.any]), ((18 : Nat), SO.cells [SC.raw Value.nilFunc, SC.ptr (10 : Nat) (0 : Nat), SC.int true IntKind.i64 (1 : Int) Bd.any, SC.int true IntKind.i64 (1 :
    Int), SC.int true IntKind.u64 (65537 : Int) Bd.any, SC.int true IntKind.u64 (0 : Int) Bd.any, SC.int true IntKind.u64 (0 : Int), SC.int true IntKind.u64 (0 : Int), SC.int true
    IntKind.u64 (0 : Int), SC.int true IntKind.u64 (0 : Int), SC.int true IntKind.u64 (0 : Int), SC.int true IntKind.u64 (0 : Int), SC.nls] (170 : Nat)), ((370 : Nat), SO.cells [SC.int
    false IntKind.i64 (z_1 (0 : Nat)), SC.int false IntKind.i64 (z_1 (1 : Nat)), SC.int false IntKind.i64 (z_1 (2 : Nat)), SC.int false IntKind.i64 (z_1 (3 : Nat)), SC.int false
    IntKind.u64 (z_1 (4 : Nat)), SC.int false IntKind.u64 (z_1 (5 : Nat)), SC.int false IntKind.u64 (z_1 (6 : Nat)), SC.int false IntKind.u64 (z_1 (7 : Nat)), SC.int false IntKind.u64
    (z_1 (8 : Nat)), SC.int false IntKind.u64 (z_1 (9 : Nat)), SC.int false IntKind.u64 (z_1 (10 : Nat)), SC.int false IntKind.u64 (z_1 (11 : Nat)), SC.int false IntKind.u64 (z_1 (12 :
    Nat)), SC.sliv ad_1 false ln_1 cp_1, SC.int false IntKind.i64 (z_1 (14 : Nat)), SC.int false IntKind.i64 (z_1 (15 : Nat)), SC.int false IntKind.i64 (z_1 (16 : Nat)), SC.int false
    IntKind.i64 (z_1 (17 : Nat)), SC.int false IntKind.i64 (z_1 (18 : Nat)), SC.int false IntKind.i64 (z_1 (19 : Nat))] (31 : Nat)), ((374 : Nat), SO.ext (HO.obj [] (PA.mk (60000 : Nat)
    (49 : Nat) (49 : Nat) (0 : Nat) (3 : Nat) [(0 : Nat), (65537 : Nat), (131074 : Nat), (196611 : Nat), (0 : Nat), (0 : Nat), (0 : Nat), (0 : Nat), (0 : Nat)] (3 : Nat) [(1 : Nat), (2
    : Nat), (3 : Nat)] [] [((1 : Nat), (65537 : Nat), [(0 : Nat), (0 : Nat), (0 : Nat), (0 : Nat), (0 : Nat), (0 : Nat), (1 : Nat)]), ((2 : Nat), (131074 : Nat), [(0 : Nat), (0 : Nat),
    (0 : Nat), (0 : Nat), (0 : Nat), (0 : Nat), (0 : Nat), (0 : Nat), (0 : Nat), (0 : Nat), (0 : Nat), (0 : Nat), (0 : Nat), (0 : Nat)]), ((3 : Nat), (196611 : Nat), [(0 : Nat), (0 :
    Nat), (0 : Nat), (0 : Nat), (0 : Nat), (0 : Nat), (0 : Nat), (0 : Nat), (0 : Nat), (0 : Nat), (0 : Nat), (0 : Nat), (0 : Nat), (0 : Nat), (0 : Nat), (0 : Nat), (0 : Nat), (0 : Nat),
    (0 : Nat), (0 : Nat), (0 : Nat), (2 : Nat), (1 : Nat), (1 : Nat), (0 : Nat), (1 : Nat), (0 : Nat), (1 : Nat)])] (Tly.mk (3 : Nat) (0 : Nat) (5 : Nat) (3 : Nat) (0 : Nat) (7 :
    Nat))))), ((375 : Nat), SO.row (OfNat.ofNat (25 : Nat)) (1 : Nat) (3 : Nat) cap_1 [SC.int true IntKind.u64 (65537 : Int) Bd.any, SC.int true IntKind.u64 (131074 : Int) Bd.any,
    SC.int true IntKind.u64 (196611 : Int) Bd.any]), ((376 : Nat), SO.cells [SC.int true IntKind.i64 (6 : Int), SC.int true IntKind.i64 (0 : Int), SC.int true IntKind.i64 (4 : Int)] (3
    : Nat)), ((399 : Nat), SO.ext (HO.old (XO.cnt (374 : Nat) (Cnt.mk (196611 : Nat) (6 : Nat) (3 : Nat) (3 : Nat) (1 : Nat))))), ((469 : Nat), SO.ext (HO.old (XO.cnt (374 : Nat)
    (Cnt.mk (65537 : Nat) (0 : Nat) (1 : Nat) (1 : Nat) (1 : Nat))))), ((539 : Nat), SO.ext (HO.old (XO.cnt (374 : Nat) (Cnt.mk (196611 : Nat) (4 : Nat) (3 : Nat) (3 : Nat) (1 :
    Nat))))), ((596 : Nat), SO.cells [SC.fn (Fn.func (143 : Nat)) [SC.ptr (596 : Nat) (0 : Nat)] [], SC.ptr (374 : Nat) (0 : Nat), SC.int true IntKind.i64 (2 : Int) Bd.any, SC.int true
    IntKind.i64 (1 : Int), SC.int true IntKind.u64 (65537 : Int) Bd.any, SC.int true IntKind.u64 (131074 : Int) Bd.any, SC.int true IntKind.u64 (196611 : Int) Bd.any, SC.int true
    IntKind.u64 (0 : Int), SC.int true IntKind.u64 (0 : Int), SC.int true IntKind.u64 (0 : Int), SC.int true IntKind.u64 (0 : Int), SC.int true IntKind.u64 (0 : Int), SC.sli (765 : Nat)
    (2 : Nat) true (0 : Nat) true (1 : Nat) cap_2] (170 : Nat)), ((765 : Nat), SO.row (37 : Nat) (2 : Nat) (1 : Nat) cap_2 [SC.int true IntKind.u64 (65537 : Int) Bd.any, SC.int true
    IntKind.i64 (0 : Int) (Bd.w (0 : Int) (254 : Int) (slot_bd._proof_3 (Int.ofNat (0 : Nat)) (Int.ofNat ((0 : Nat) + (1 : Nat)))))]), ((1098 : Nat), SO.cells [SC.int true IntKind.u64
    (196611 : Int) (Bd.w (0 : Int) (196611 : Int) (orZero_bd (inC (Int.ofNat ((1 : Nat) + (1 : Nat))) (Int.ofNat ((0 : Nat) + (1 : Nat)))) Bd.of._proof_1)), SC.int true IntKind.i64 (21
    : Int) (Bd.w (0 : Int) (895 : Int) (counter_bd._proof_4 (Int.ofNat ((1 : Nat) + (1 : Nat))) (Int.ofNat ((0 : Nat) + (1 : Nat)))))] (47 : Nat))] (1101 : Nat)) Scr.nil ∧ True) ∧ True)
    ∧ True) ∧ True) ∧ True) ∧ True) ∧ True) ∧ True) ∧ True) ∧ True) ∧ (∀ (K : KO XP), (0 : Nat) = (0 : Nat) ∧ cap_2 = cap_2 ∧ cap_2 = cap_2 ∧ ((0 : Nat) = (0 : Nat) ∧ cap_2 = cap_2 ∧
    cap_2 = cap_2 ∧ K (SF.mk (86 : Nat) (ST.node (SV.c (SC.ptr (596 : Nat) (0 : Nat))) (ST.node (SV.tup []) (ST.node (SV.c (SC.boo true true)) (ST.node (SV.tup []) (ST.node (SV.c
    (SC.ptr (596 : Nat) (4 : Nat))) (ST.node (SV.tup []) (ST.node (SV.tup []) ST.nil ST.nil) ST.nil) (ST.node (SV.tup []) (ST.node (SV.tup []) ST.nil ST.nil) ST.nil)) (ST.node (SV.c
    (SC.ptr (596 : Nat) (0 : Nat))) (ST.node (SV.tup []) (ST.node (SV.tup []) ST.nil ST.nil) ST.nil) (ST.node (SV.tup []) ST.nil ST.nil))) (ST.node (SV.c (SC.ptr (596 : Nat) (0 : Nat)))
    (ST.node (SV.c (SC.ptr (596 : Nat) (0 : Nat))) (ST.node (SV.tup []) (ST.node (SV.tup []) ST.nil ST.nil) ST.nil) (ST.node (SV.tup []) (ST.node (SV.tup []) ST.nil ST.nil) ST.nil))
    (ST.node (SV.agg [SC.int true IntKind.u64 (131074 : Int) (Bd.w (0 : Int) (131074 : Int) (orZero_bd (inC (Int.ofNat ((0 : Nat) + (1 : Nat))) (Int.ofNat ((0 : Nat) + (1 : Nat))))
    Bd.of._proof_1)), SC.int true IntKind.i64 (11 : Int) (Bd.w (0 : Int) (895 : Int) (counter_bd._proof_4 (Int.ofNat ((0 : Nat) + (1 : Nat))) (Int.ofNat ((0 : Nat) + (1 : Nat)))))])
    (ST.node (SV.tup []) (ST.node (SV.tup []) ST.nil ST.nil) ST.nil) (ST.node (SV.tup []) ST.nil ST.nil)))) (ST.node (SV.tup []) (ST.node (SV.c (SC.ptr (596 : Nat) (0 : Nat))) (ST.node
    (SV.c (SC.int true IntKind.u64 (131074 : Int) Bd.any)) (ST.node (SV.tup []) (ST.node (SV.tup []) ST.nil ST.nil) ST.nil) (ST.node (SV.tup []) (ST.node (SV.tup []) ST.nil ST.nil)
    ST.nil)) (ST.node (SV.c (SC.int true IntKind.i64 (1 : Int))) (ST.node (SV.tup []) (ST.node (SV.tup []) ST.nil ST.nil) ST.nil) (ST.node (SV.tup []) ST.nil ST.nil))) (ST.node (SV.c
    (SC.int true IntKind.i64 (1 : Int) Bd.any)) (ST.node (SV.c (SC.int true IntKind.i64 (1 : Int) Bd.any)) (ST.node (SV.tup []) (ST.node (SV.tup []) ST.nil ST.nil) ST.nil) (ST.node
    (SV.tup []) (ST.node (SV.tup []) ST.nil ST.nil) ST.nil)) (ST.node (SV.tup []) (ST.node (SV.tup []) (ST.node (SV.tup []) ST.nil ST.nil) ST.nil) (ST.node (SV.tup []) ST.nil
    ST.nil))))) (ST.node (SV.c (SC.ptr (918 : Nat) (0 : Nat))) (ST.node (SV.tup []) (ST.node (SV.tup [(true, [SC.int true IntKind.u64 (131074 : Int) (Bd.w (0 : Int) (131074 : Int)
    (orZero_bd (inC (Int.ofNat ((0 : Nat) + (1 : Nat))) (Int.ofNat ((0 : Nat) + (1 : Nat)))) Bd.of._proof_1)), SC.int true IntKind.i64 (11 : Int) (Bd.w (0 : Int) (895 : Int)
    (counter_bd._proof_4 (Int.ofNat ((0 : Nat) + (1 : Nat))) (Int.ofNat ((0 : Nat) + (1 : Nat)))))]), (false, [SC.boo true true])]) (ST.node (SV.c (SC.ptr (596 : Nat) (5 : Nat)))
    (ST.node (SV.tup []) (ST.node (SV.tup []) ST.nil ST.nil) ST.nil) (ST.node (SV.tup []) (ST.node (SV.tup []) ST.nil ST.nil) ST.nil)) (ST.node (SV.c (SC.ptr (596 : Nat) (3 : Nat)))
    (ST.node (SV.tup []) (ST.node (SV.tup []) ST.nil ST.nil) ST.nil) (ST.node (SV.tup []) ST.nil ST.nil))) (ST.node (SV.c (SC.ptr (596 : Nat) (2 : Nat))) (ST.node (SV.c (SC.ptr (596 :
    Nat) (2 : Nat))) (ST.node (SV.tup []) (ST.node (SV.tup []) ST.nil ST.nil) ST.nil) (ST.node (SV.tup []) (ST.node (SV.tup []) ST.nil ST.nil) ST.nil)) (ST.node (SV.c (SC.boo true
    true)) (ST.node (SV.tup []) (ST.node (SV.tup []) ST.nil ST.nil) ST.nil) (ST.node (SV.tup []) ST.nil ST.nil)))) (ST.node (SV.tup []) (ST.node (SV.c (SC.ptr (596 : Nat) (0 : Nat)))
    (ST.node (SV.c (SC.ptr (596 : Nat) (0 : Nat))) (ST.node (SV.tup []) (ST.node (SV.tup []) ST.nil ST.nil) ST.nil) (ST.node (SV.tup []) (ST.node (SV.tup []) ST.nil ST.nil) ST.nil))
    (ST.node (SV.tup [(true, [SC.int true IntKind.u64 (131074 : Int) (Bd.w (0 : Int) (131074 : Int) (orZero_bd (inC (Int.ofNat ((0 : Nat) + (1 : Nat))) (Int.ofNat ((0 : Nat) + (1 :
    Nat)))) Bd.of._proof_1)), SC.int true IntKind.i64 (11 : Int) (Bd.w (0 : Int) (895 : Int) (counter_bd._proof_4 (Int.ofNat ((0 : Nat) + (1 : Nat))) (Int.ofNat ((0 : Nat) + (1 :
    Nat)))))]), (false, [SC.boo true true])]) (ST.node (SV.tup []) (ST.node (SV.tup []) ST.nil ST.nil) ST.nil) (ST.node (SV.tup []) ST.nil ST.nil))) (ST.node (SV.c (SC.ptr (596 : Nat)
    (0 : Nat))) (ST.node (SV.c (SC.ptr (596 : Nat) (0 : Nat))) (ST.node (SV.tup []) (ST.node (SV.tup []) ST.nil ST.nil) ST.nil) (ST.node (SV.tup []) ST.nil ST.nil)) (ST.node (SV.tup [])
    (ST.node (SV.tup []) (ST.node (SV.tup []) ST.nil ST.nil) ST.nil) (ST.node (SV.tup []) ST.nil ST.nil)))))) []) (Mem.mk [((6 : Nat), SO.cells [SC.int false IntKind.i64 (z (0 : Nat)),
    SC.int false IntKind.i64 (z (1 : Nat)), SC.int false IntKind.i64 (z (2 : Nat)), SC.int false IntKind.i64 (z (3 : Nat)), SC.int false IntKind.u64 (z (4 : Nat)), SC.int false
    IntKind.u64 (z (5 : Nat)), SC.int false IntKind.u64 (z (6 : Nat)), SC.int false IntKind.u64 (z (7 : Nat)), SC.int false IntKind.u64 (z (8 : Nat)), SC.int false IntKind.u64 (z (9 :
    Nat)), SC.int false IntKind.u64 (z (10 : Nat)), SC.int false IntKind.u64 (z (11 : Nat)), SC.int false IntKind.u64 (z (12 : Nat)), SC.sliv ad false ln cp, SC.int false IntKind.i64 (z
    (14 : Nat)), SC.int false IntKind.i64 (z (15 : Nat)), SC.int false IntKind.i64 (z (16 : Nat)), SC.int false IntKind.i64 (z (17 : Nat)), SC.int false IntKind.i64 (z (18 : Nat)),
    SC.int false IntKind.i64 (z (19 : Nat))] (31 : Nat)), ((10 : Nat), SO.ext (HO.obj [] (PA.mk (60000 : Nat) (7 : Nat) (7 : Nat) (0 : Nat) (1 : Nat) [(0 : Nat), (65537 : Nat), (0 :
    Nat), (0 : Nat), (0 : Nat), (0 : Nat), (0 : Nat), (0 : Nat), (0 : Nat)] (1 : Nat) [(1 : Nat)] [] [((1 : Nat), (65537 : Nat), [(0 : Nat), (0 : Nat), (0 : Nat), (0 : Nat), (0 : Nat),
    (0 : Nat), (0 : Nat)])] (Tly.mk (1 : Nat) (0 : Nat) (3 : Nat) (1 : Nat) (0 : Nat) (0 : Nat))))), ((11 : Nat), SO.row (OfNat.ofNat (25 : Nat)) (1 : Nat) (1 : Nat) cap [SC.int true
    IntKind.u64 (65537 : Int) Bd.any]), ((18 : Nat), SO.cells [SC.raw Value.nilFunc, SC.ptr (10 : Nat) (0 : Nat), SC.int true IntKind.i64 (1 : Int) Bd.any, SC.int true IntKind.i64 (1 :
    Int), SC.int true IntKind.u64 (65537 : Int) Bd.any, SC.int true IntKind.u64 (0 : Int) Bd.any, SC.int true IntKind.u64 (0 : Int), SC.int true IntKind.u64 (0 : Int), SC.int true
    IntKind.u64 (0 : Int), SC.int true IntKind.u64 (0 : Int), SC.int true IntKind.u64 (0 : Int), SC.int true IntKind.u64 (0 : Int), SC.nls] (170 : Nat)), ((370 : Nat), SO.cells [SC.int
    false IntKind.i64 (z_1 (0 : Nat)), SC.int false IntKind.i64 (z_1 (1 : Nat)), SC.int false IntKind.i64 (z_1 (2 : Nat)), SC.int false IntKind.i64 (z_1 (3 : Nat)), SC.int false
    IntKind.u64 (z_1 (4 : Nat)), SC.int false IntKind.u64 (z_1 (5 : Nat)), SC.int false IntKind.u64 (z_1 (6 : Nat)), SC.int false IntKind.u64 (z_1 (7 : Nat)), SC.int false IntKind.u64
    (z_1 (8 : Nat)), SC.int false IntKind.u64 (z_1 (9 : Nat)), SC.int false IntKind.u64 (z_1 (10 : Nat)), SC.int false IntKind.u64 (z_1 (11 : Nat)), SC.int false IntKind.u64 (z_1 (12 :
    Nat)), SC.sliv ad_1 false ln_1 cp_1, SC.int false IntKind.i64 (z_1 (14 : Nat)), SC.int false IntKind.i64 (z_1 (15 : Nat)), SC.int false IntKind.i64 (z_1 (16 : Nat)), SC.int false
    IntKind.i64 (z_1 (17 : Nat)), SC.int false IntKind.i64 (z_1 (18 : Nat)), SC.int false IntKind.i64 (z_1 (19 : Nat))] (31 : Nat)), ((374 : Nat), SO.ext (HO.obj [] (PA.mk (60000 : Nat)
    (49 : Nat) (49 : Nat) (0 : Nat) (3 : Nat) [(0 : Nat), (65537 : Nat), (131074 : Nat), (196611 : Nat), (0 : Nat), (0 : Nat), (0 : Nat), (0 : Nat), (0 : Nat)] (3 : Nat) [(1 : Nat), (2
    : Nat), (3 : Nat)] [] [((1 : Nat), (65537 : Nat), [(0 : Nat), (0 : Nat), (0 : Nat), (0 : Nat), (0 : Nat), (0 : Nat), (1 : Nat)]), ((2 : Nat), (131074 : Nat), [(0 : Nat), (0 : Nat),
    (0 : Nat), (0 : Nat), (0 : Nat), (0 : Nat), (0 : Nat), (0 : Nat), (0 : Nat), (0 : Nat), (0 : Nat), (0 : Nat), (0 : Nat), (0 : Nat)]), ((3 : Nat), (196611 : Nat), [(0 : Nat), (0 :
    Nat), (0 : Nat), (0 : Nat), (0 : Nat), (0 : Nat), (0 : Nat), (0 : Nat), (0 : Nat), (0 : Nat), (0 : Nat), (0 : Nat), (0 : Nat), (0 : Nat), (0 : Nat), (0 : Nat), (0 : Nat), (0 : Nat),
    (0 : Nat), (0 : Nat), (0 : Nat), (2 : Nat), (1 : Nat), (1 : Nat), (0 : Nat), (1 : Nat), (0 : Nat), (1 : Nat)])] (Tly.mk (3 : Nat) (0 : Nat) (3 : Nat) (3 : Nat) (0 : Nat) (7 :
    Nat))))), ((375 : Nat), SO.row (OfNat.ofNat (25 : Nat)) (1 : Nat) (3 : Nat) cap_1 [SC.int true IntKind.u64 (65537 : Int) Bd.any, SC.int true IntKind.u64 (131074 : Int) Bd.any,
    SC.int true IntKind.u64 (196611 : Int) Bd.any]), ((376 : Nat), SO.cells [SC.int true IntKind.i64 (6 : Int), SC.int true IntKind.i64 (0 : Int), SC.int true IntKind.i64 (4 : Int)] (3
    : Nat)), ((399 : Nat), SO.ext (HO.old (XO.cnt (374 : Nat) (Cnt.mk (196611 : Nat) (6 : Nat) (3 : Nat) (3 : Nat) (1 : Nat))))), ((469 : Nat), SO.ext (HO.old (XO.cnt (374 : Nat)
    (Cnt.mk (65537 : Nat) (0 : Nat) (1 : Nat) (1 : Nat) (1 : Nat))))), ((539 : Nat), SO.ext (HO.old (XO.cnt (374 : Nat) (Cnt.mk (196611 : Nat) (4 : Nat) (3 : Nat) (3 : Nat) (1 :
    Nat))))), ((596 : Nat), SO.cells [SC.fn (Fn.func (143 : Nat)) [SC.ptr (596 : Nat) (0 : Nat)] [], SC.ptr (374 : Nat) (0 : Nat), SC.int true IntKind.i64 (1 : Int) Bd.any, SC.int true
    IntKind.i64 (1 : Int), SC.int true IntKind.u64 (65537 : Int) Bd.any, SC.int true IntKind.u64 (131074 : Int) Bd.any, SC.int true IntKind.u64 (0 : Int), SC.int true IntKind.u64 (0 :
    Int), SC.int true IntKind.u64 (0 : Int), SC.int true IntKind.u64 (0 : Int), SC.int true IntKind.u64 (0 : Int), SC.int true IntKind.u64 (0 : Int), SC.sli (765 : Nat) (2 : Nat) true
    (0 : Nat) true (1 : Nat) cap_2] (170 : Nat)), ((765 : Nat), SO.row (37 : Nat) (2 : Nat) (1 : Nat) cap_2 [SC.int true IntKind.u64 (65537 : Int) Bd.any, SC.int true IntKind.i64 (0 :
    Int) (Bd.w (0 : Int) (254 : Int) (slot_bd._proof_3 (Int.ofNat (0 : Nat)) (Int.ofNat ((0 : Nat) + (1 : Nat)))))]), ((918 : Nat), SO.cells [SC.int true IntKind.u64 (131074 : Int)
    (Bd.w (0 : Int) (131074 : Int) (orZero_bd (inC (Int.ofNat ((0 : Nat) + (1 : Nat))) (Int.ofNat ((0 : Nat) + (1 : Nat)))) Bd.of._proof_1)), SC.int true IntKind.i64 (11 : Int) (Bd.w (0
    : Int) (895 : Int) (counter_bd._proof_4 (Int.ofNat ((0 : Nat) + (1 : Nat))) (Int.ofNat ((0 : Nat) + (1 : Nat)))))] (47 : Nat))] (921 : Nat)) Scr.nil ∧ True) ∧ True → (0 : Nat) = (0
    : Nat) ∧ cap_2 = cap_2 ∧ cap_2 = cap_2 ∧ ((0 : Nat) = (0 : Nat) ∧ cap_2 = cap_2 ∧ cap_2 = cap_2 ∧ K (SF.mk (86 : Nat) (ST.node (SV.c (SC.ptr (596 : Nat) (0 : Nat))) (ST.node (SV.tup
    []) (ST.node (SV.c (SC.boo true true)) (ST.node (SV.tup []) (ST.node (SV.c (SC.ptr (596 : Nat) (4 : Nat))) (ST.node (SV.tup []) (ST.node (SV.tup []) ST.nil ST.nil) ST.nil) (ST.node
    (SV.tup []) (ST.node (SV.tup []) ST.nil ST.nil) ST.nil)) (ST.node (SV.c (SC.ptr (596 : Nat) (0 : Nat))) (ST.node (SV.tup []) (ST.node (SV.tup []) ST.nil ST.nil) ST.nil) (ST.node
    (SV.tup []) ST.nil ST.nil))) (ST.node (SV.c (SC.ptr (596 : Nat) (0 : Nat))) (ST.node (SV.c (SC.ptr (596 : Nat) (0 : Nat))) (ST.node (SV.tup []) (ST.node (SV.tup []) ST.nil ST.nil)
    ST.nil) (ST.node (SV.tup []) (ST.node (SV.tup []) ST.nil ST.nil) ST.nil)) (ST.node (SV.agg [SC.int true IntKind.u64 (131074 : Int) (Bd.w (0 : Int) (131074 : Int) (orZero_bd (inC
    (Int.ofNat ((0 : Nat) + (1 : Nat))) (Int.ofNat ((0 : Nat) + (1 : Nat)))) Bd.of._proof_1)), SC.int true IntKind.i64 (11 : Int) (Bd.w (0 : Int) (895 : Int) (counter_bd._proof_4
    (Int.ofNat ((0 : Nat) + (1 : Nat))) (Int.ofNat ((0 : Nat) + (1 : Nat)))))]) (ST.node (SV.tup []) (ST.node (SV.tup []) ST.nil ST.nil) ST.nil) (ST.node (SV.tup []) ST.nil ST.nil))))
    (ST.node (SV.tup []) (ST.node (SV.c (SC.ptr (596 : Nat) (0 : Nat))) (ST.node (SV.c (SC.int true IntKind.u64 (131074 : Int) Bd.any)) (ST.node (SV.tup []) (ST.node (SV.tup []) ST.nil
    ST.nil) ST.nil) (ST.node (SV.tup []) (ST.node (SV.tup []) ST.nil ST.nil) ST.nil)) (ST.node (SV.c (SC.int true IntKind.i64 (1 : Int))) (ST.node (SV.tup []) (ST.node (SV.tup [])
    ST.nil ST.nil) ST.nil) (ST.node (SV.tup []) ST.nil ST.nil))) (ST.node (SV.c (SC.int true IntKind.i64 (1 : Int) Bd.any)) (ST.node (SV.c (SC.int true IntKind.i64 (1 : Int) Bd.any))
    (ST.node (SV.tup []) (ST.node (SV.tup []) ST.nil ST.nil) ST.nil) (ST.node (SV.tup []) (ST.node (SV.tup []) ST.nil ST.nil) ST.nil)) (ST.node (SV.tup []) (ST.node (SV.tup []) (ST.node
    (SV.tup []) ST.nil ST.nil) ST.nil) (ST.node (SV.tup []) ST.nil ST.nil))))) (ST.node (SV.c (SC.ptr (918 : Nat) (0 : Nat))) (ST.node (SV.tup []) (ST.node (SV.tup [(true, [SC.int true
    IntKind.u64 (131074 : Int) (Bd.w (0 : Int) (131074 : Int) (orZero_bd (inC (Int.ofNat ((0 : Nat) + (1 : Nat))) (Int.ofNat ((0 : Nat) + (1 : Nat)))) Bd.of._proof_1)), SC.int true
    IntKind.i64 (11 : Int) (Bd.w (0 : Int) (895 : Int) (counter_bd._proof_4 (Int.ofNat ((0 : Nat) + (1 : Nat))) (Int.ofNat ((0 : Nat) + (1 : Nat)))))]), (false, [SC.boo true true])])
    (ST.node (SV.c (SC.ptr (596 : Nat) (5 : Nat))) (ST.node (SV.tup []) (ST.node (SV.tup []) ST.nil ST.nil) ST.nil) (ST.node (SV.tup []) (ST.node (SV.tup []) ST.nil ST.nil) ST.nil))
    (ST.node (SV.c (SC.ptr (596 : Nat) (3 : Nat))) (ST.node (SV.tup []) (ST.node (SV.tup []) ST.nil ST.nil) ST.nil) (ST.node (SV.tup []) ST.nil ST.nil))) (ST.node (SV.c (SC.ptr (596 :
    Nat) (2 : Nat))) (ST.node (SV.c (SC.ptr (596 : Nat) (2 : Nat))) (ST.node (SV.tup []) (ST.node (SV.tup []) ST.nil ST.nil) ST.nil) (ST.node (SV.tup []) (ST.node (SV.tup []) ST.nil
    ST.nil) ST.nil)) (ST.node (SV.c (SC.boo true true)) (ST.node (SV.tup []) (ST.node (SV.tup []) ST.nil ST.nil) ST.nil) (ST.node (SV.tup []) ST.nil ST.nil)))) (ST.node (SV.tup [])
    (ST.node (SV.c (SC.ptr (596 : Nat) (0 : Nat))) (ST.node (SV.c (SC.ptr (596 : Nat) (0 : Nat))) (ST.node (SV.tup []) (ST.node (SV.tup []) ST.nil ST.nil) ST.nil) (ST.node (SV.tup [])
    (ST.node (SV.tup []) ST.nil ST.nil) ST.nil)) (ST.node (SV.tup [(true, [SC.int true IntKind.u64 (131074 : Int) (Bd.w (0 : Int) (131074 : Int) (orZero_bd (inC (Int.ofNat ((0 : Nat) +
    (1 : Nat))) (Int.ofNat ((0 : Nat) + (1 : Nat)))) Bd.of._proof_1)), SC.int true IntKind.i64 (11 : Int) (Bd.w (0 : Int) (895 : Int) (counter_bd._proof_4 (Int.ofNat ((0 : Nat) + (1 :
    Nat))) (Int.ofNat ((0 : Nat) + (1 : Nat)))))]), (false, [SC.boo true true])]) (ST.node (SV.tup []) (ST.node (SV.tup []) ST.nil ST.nil) ST.nil) (ST.node (SV.tup []) ST.nil ST.nil)))
    (ST.node (SV.c (SC.ptr (596 : Nat) (0 : Nat))) (ST.node (SV.c (SC.ptr (596 : Nat) (0 : Nat))) (ST.node (SV.tup []) (ST.node (SV.tup []) ST.nil ST.nil) ST.nil) (ST.node (SV.tup [])
    ST.nil ST.nil)) (ST.node (SV.tup []) (ST.node (SV.tup []) (ST.node (SV.tup []) ST.nil ST.nil) ST.nil) (ST.node (SV.tup []) ST.nil ST.nil)))))) []) (Mem.mk [((6 : Nat), SO.cells
    [SC.int false IntKind.i64 (z (0 : Nat)), SC.int false IntKind.i64 (z (1 : Nat)), SC.int false IntKind.i64 (z (2 : Nat)), SC.int false IntKind.i64 (z (3 : Nat)), SC.int false
    IntKind.u64 (z (4 : Nat)), SC.int false IntKind.u64 (z (5 : Nat)), SC.int false IntKind.u64 (z (6 : Nat)), SC.int false IntKind.u64 (z (7 : Nat)), SC.int false IntKind.u64 (z (8 :
    Nat)), SC.int false IntKind.u64 (z (9 : Nat)), SC.int false IntKind.u64 (z (10 : Nat)), SC.int false IntKind.u64 (z (11 : Nat)), SC.int false IntKind.u64 (z (12 : Nat)), SC.sliv ad
    false ln cp, SC.int false IntKind.i64 (z (14 : Nat)), SC.int false IntKind.i64 (z (15 : Nat)), SC.int false IntKind.i64 (z (16 : Nat)), SC.int false IntKind.i64 (z (17 : Nat)),
    SC.int false IntKind.i64 (z (18 : Nat)), SC.int false IntKind.i64 (z (19 : Nat))] (31 : Nat)), ((10 : Nat), SO.ext (HO.obj [] (PA.mk (60000 : Nat) (7 : Nat) (7 : Nat) (0 : Nat) (1 :
    Nat) [(0 : Nat), (65537 : Nat), (0 : Nat), (0 : Nat), (0 : Nat), (0 : Nat), (0 : Nat), (0 : Nat), (0 : Nat)] (1 : Nat) [(1 : Nat)] [] [((1 : Nat), (65537 : Nat), [(0 : Nat), (0 :
    Nat), (0 : Nat), (0 : Nat), (0 : Nat), (0 : Nat), (0 : Nat)])] (Tly.mk (1 : Nat) (0 : Nat) (3 : Nat) (1 : Nat) (0 : Nat) (0 : Nat))))), ((11 : Nat), SO.row (OfNat.ofNat (25 : Nat))
    (1 : Nat) (1 : Nat) cap [SC.int true IntKind.u64 (65537 : Int) Bd.any]), ((18 : Nat), SO.cells [SC.raw Value.nilFunc, SC.ptr (10 : Nat) (0 : Nat), SC.int true IntKind.i64 (1 : Int)
    Bd.any, SC.int true IntKind.i64 (1 : Int), SC.int true IntKind.u64 (65537 : Int) Bd.any, SC.int true IntKind.u64 (0 : Int) Bd.any, SC.int true IntKind.u64 (0 : Int), SC.int true
    IntKind.u64 (0 : Int), SC.int true IntKind.u64 (0 : Int), SC.int true IntKind.u64 (0 : Int), SC.int true IntKind.u64 (0 : Int), SC.int true IntKind.u64 (0 : Int), SC.nls] (170 :
    Nat)), ((370 : Nat), SO.cells [SC.int false IntKind.i64 (z_1 (0 : Nat)), SC.int false IntKind.i64 (z_1 (1 : Nat)), SC.int false IntKind.i64 (z_1 (2 : Nat)), SC.int false IntKind.i64
    (z_1 (3 : Nat)), SC.int false IntKind.u64 (z_1 (4 : Nat)), SC.int false IntKind.u64 (z_1 (5 : Nat)), SC.int false IntKind.u64 (z_1 (6 : Nat)), SC.int false IntKind.u64 (z_1 (7 :
    Nat)), SC.int false IntKind.u64 (z_1 (8 : Nat)), SC.int false IntKind.u64 (z_1 (9 : Nat)), SC.int false IntKind.u64 (z_1 (10 : Nat)), SC.int false IntKind.u64 (z_1 (11 : Nat)),
    SC.int false IntKind.u64 (z_1 (12 : Nat)), SC.sliv ad_1 false ln_1 cp_1, SC.int false IntKind.i64 (z_1 (14 : Nat)), SC.int false IntKind.i64 (z_1 (15 : Nat)), SC.int false
    IntKind.i64 (z_1 (16 : Nat)), SC.int false IntKind.i64 (z_1 (17 : Nat)), SC.int false IntKind.i64 (z_1 (18 : Nat)), SC.int false IntKind.i64 (z_1 (19 : Nat))] (31 : Nat)), ((374 :
    Nat), SO.ext (HO.obj [] (PA.mk (60000 : Nat) (49 : Nat) (49 : Nat) (0 : Nat) (3 : Nat) [(0 : Nat), (65537 : Nat), (131074 : Nat), (196611 : Nat), (0 : Nat), (0 : Nat), (0 : Nat), (0
    : Nat), (0 : Nat)] (3 : Nat) [(1 : Nat), (2 : Nat), (3 : Nat)] [] [((1 : Nat), (65537 : Nat), [(0 : Nat), (0 : Nat), (0 : Nat), (0 : Nat), (0 : Nat), (0 : Nat), (1 : Nat)]), ((2 :
    Nat), (131074 : Nat), [(0 : Nat), (0 : Nat), (0 : Nat), (0 : Nat), (0 : Nat), (0 : Nat), (0 : Nat), (0 : Nat), (0 : Nat), (0 : Nat), (0 : Nat), (0 : Nat), (0 : Nat), (0 : Nat)]),
    ((3 : Nat), (196611 : Nat), [(0 : Nat), (0 : Nat), (0 : Nat), (0 : Nat), (0 : Nat), (0 : Nat), (0 : Nat), (0 : Nat), (0 : Nat), (0 : Nat), (0 : Nat), (0 : Nat), (0 : Nat), (0 :
    Nat), (0 : Nat), (0 : Nat), (0 : Nat), (0 : Nat), (0 : Nat), (0 : Nat), (0 : Nat), (2 : Nat), (1 : Nat), (1 : Nat), (0 : Nat), (1 : Nat), (0 : Nat), (1 : Nat)])] (Tly.mk (3 : Nat)
    (0 : Nat) (3 : Nat) (3 : Nat) (0 : Nat) (7 : Nat))))), ((375 : Nat), SO.row (OfNat.ofNat (25 : Nat)) (1 : Nat) (3 : Nat) cap_1 [SC.int true IntKind.u64 (65537 : Int) Bd.any, SC.int
    true IntKind.u64 (131074 : Int) Bd.any, SC.int true IntKind.u64 (196611 : Int) Bd.any]), ((376 : Nat), SO.cells [SC.int true IntKind.i64 (6 : Int), SC.int true IntKind.i64 (0 :
    Int), SC.int true IntKind.i64 (4 : Int)] (3 : Nat)), ((399 : Nat), SO.ext (HO.old (XO.cnt (374 : Nat) (Cnt.mk (196611 : Nat) (6 : Nat) (3 : Nat) (3 : Nat) (1 : Nat))))), ((469 :
    Nat), SO.ext (HO.old (XO.cnt (374 : Nat) (Cnt.mk (65537 : Nat) (0 : Nat) (1 : Nat) (1 : Nat) (1 : Nat))))), ((539 : Nat), SO.ext (HO.old (XO.cnt (374 : Nat) (Cnt.mk (196611 : Nat)
    (4 : Nat) (3 : Nat) (3 : Nat) (1 : Nat))))), ((596 : Nat), SO.cells [SC.fn (Fn.func (143 : Nat)) [SC.ptr (596 : Nat) (0 : Nat)] [], SC.ptr (374 : Nat) (0 : Nat), SC.int true
    IntKind.i64 (1 : Int) Bd.any, SC.int true IntKind.i64 (1 : Int), SC.int true IntKind.u64 (65537 : Int) Bd.any, SC.int true IntKind.u64 (131074 : Int) Bd.any, SC.int true IntKind.u64
    (0 : Int), SC.int true IntKind.u64 (0 : Int), SC.int true IntKind.u64 (0 : Int), SC.int true IntKind.u64 (0 : Int), SC.int true IntKind.u64 (0 : Int), SC.int true IntKind.u64 (0 :
    Int), SC.sli (765 : Nat) (2 : Nat) true (0 : Nat) true (1 : Nat) cap_2] (170 : Nat)), ((765 : Nat), SO.row (37 : Nat) (2 : Nat) (1 : Nat) cap_2 [SC.int true IntKind.u64 (65537 :
    Int) Bd.any, SC.int true IntKind.i64 (0 : Int) (Bd.w (0 : Int) (254 : Int) (slot_bd._proof_3 (Int.ofNat (0 : Nat)) (Int.ofNat ((0 : Nat) + (1 : Nat)))))]), ((918 : Nat), SO.cells
    [SC.int true IntKind.u64 (131074 : Int) (Bd.w (0 : Int) (131074 : Int) (orZero_bd (inC (Int.ofNat ((0 : Nat) + (1 : Nat))) (Int.ofNat ((0 : Nat) + (1 : Nat)))) Bd.of._proof_1)),
    SC.int true IntKind.i64 (11 : Int) (Bd.w (0 : Int) (895 : Int) (counter_bd._proof_4 (Int.ofNat ((0 : Nat) + (1 : Nat))) (Int.ofNat ((0 : Nat) + (1 : Nat)))))] (47 : Nat))] (921 :
    Nat)) Scr.nil ∧ True) ∧ True) ∧ True) ∧ True) ∧ True) ∧ True) ∧ True) ∧ True) ∧ True) ∧ True) ∧ True) ∧ True) ∧ True) ∧ (∀ (K : KO XP), (K (SF.mk (86 : Nat) (ST.node (SV.c (SC.ptr
    (596 : Nat) (0 : Nat))) (ST.node (SV.tup []) (ST.node (SV.c (SC.boo true true)) (ST.node (SV.tup []) (ST.node (SV.c (SC.ptr (596 : Nat) (4 : Nat))) (ST.node (SV.tup []) (ST.node
    (SV.tup []) ST.nil ST.nil) ST.nil) (ST.node (SV.tup []) (ST.node (SV.tup []) ST.nil ST.nil) ST.nil)) (ST.node (SV.c (SC.ptr (596 : Nat) (0 : Nat))) (ST.node (SV.tup []) (ST.node
    (SV.tup []) ST.nil ST.nil) ST.nil) (ST.node (SV.tup []) ST.nil ST.nil))) (ST.node (SV.c (SC.ptr (596 : Nat) (0 : Nat))) (ST.node (SV.c (SC.ptr (596 : Nat) (0 : Nat))) (ST.node
    (SV.tup []) (ST.node (SV.tup []) ST.nil ST.nil) ST.nil) (ST.node (SV.tup []) (ST.node (SV.tup []) ST.nil ST.nil) ST.nil)) (ST.node (SV.agg [SC.int true IntKind.u64 (65537 : Int)
    (Bd.w (0 : Int) (65537 : Int) (orZero_bd (inC (Int.ofNat (0 : Nat)) (Int.ofNat ((0 : Nat) + (1 : Nat)))) Bd.of._proof_1)), SC.int true IntKind.i64 (6 : Int) (Bd.w (0 : Int) (895 :
    Int) (counter_bd._proof_4 (Int.ofNat (0 : Nat)) (Int.ofNat ((0 : Nat) + (1 : Nat)))))]) (ST.node (SV.tup []) (ST.node (SV.tup []) ST.nil ST.nil) ST.nil) (ST.node (SV.tup []) ST.nil
    ST.nil)))) (ST.node (SV.tup []) (ST.node (SV.c (SC.ptr (596 : Nat) (0 : Nat))) (ST.node (SV.c (SC.int true IntKind.u64 (65537 : Int) Bd.any)) (ST.node (SV.tup []) (ST.node (SV.tup
    []) ST.nil ST.nil) ST.nil) (ST.node (SV.tup []) (ST.node (SV.tup []) ST.nil ST.nil) ST.nil)) (ST.node (SV.c (SC.int true IntKind.i64 (1 : Int))) (ST.node (SV.tup []) (ST.node
    (SV.tup []) ST.nil ST.nil) ST.nil) (ST.node (SV.tup []) ST.nil ST.nil))) (ST.node (SV.c (SC.int true IntKind.i64 (0 : Int))) (ST.node (SV.c (SC.int true IntKind.i64 (0 : Int)))
    (ST.node (SV.tup []) (ST.node (SV.tup []) ST.nil ST.nil) ST.nil) (ST.node (SV.tup []) (ST.node (SV.tup []) ST.nil ST.nil) ST.nil)) (ST.node (SV.tup []) (ST.node (SV.tup []) (ST.node
    (SV.tup []) ST.nil ST.nil) ST.nil) (ST.node (SV.tup []) ST.nil ST.nil))))) (ST.node (SV.c (SC.ptr (715 : Nat) (0 : Nat))) (ST.node (SV.tup []) (ST.node (SV.tup [(true, [SC.int true
    IntKind.u64 (65537 : Int) (Bd.w (0 : Int) (65537 : Int) (orZero_bd (inC (Int.ofNat (0 : Nat)) (Int.ofNat ((0 : Nat) + (1 : Nat)))) Bd.of._proof_1)), SC.int true IntKind.i64 (6 :
    Int) (Bd.w (0 : Int) (895 : Int) (counter_bd._proof_4 (Int.ofNat (0 : Nat)) (Int.ofNat ((0 : Nat) + (1 : Nat)))))]), (false, [SC.boo true true])]) (ST.node (SV.c (SC.ptr (596 : Nat)
    (4 : Nat))) (ST.node (SV.tup []) (ST.node (SV.tup []) ST.nil ST.nil) ST.nil) (ST.node (SV.tup []) (ST.node (SV.tup []) ST.nil ST.nil) ST.nil)) (ST.node (SV.c (SC.ptr (596 : Nat) (3
    : Nat))) (ST.node (SV.tup []) (ST.node (SV.tup []) ST.nil ST.nil) ST.nil) (ST.node (SV.tup []) ST.nil ST.nil))) (ST.node (SV.c (SC.ptr (596 : Nat) (2 : Nat))) (ST.node (SV.c (SC.ptr
    (596 : Nat) (2 : Nat))) (ST.node (SV.tup []) (ST.node (SV.tup []) ST.nil ST.nil) ST.nil) (ST.node (SV.tup []) (ST.node (SV.tup []) ST.nil ST.nil) ST.nil)) (ST.node (SV.c (SC.boo
    true true)) (ST.node (SV.tup []) (ST.node (SV.tup []) ST.nil ST.nil) ST.nil) (ST.node (SV.tup []) ST.nil ST.nil)))) (ST.node (SV.tup []) (ST.node (SV.c (SC.ptr (596 : Nat) (0 :
    Nat))) (ST.node (SV.c (SC.ptr (596 : Nat) (0 : Nat))) (ST.node (SV.tup []) (ST.node (SV.tup []) ST.nil ST.nil) ST.nil) (ST.node (SV.tup []) (ST.node (SV.tup []) ST.nil ST.nil)
    ST.nil)) (ST.node (SV.tup [(true, [SC.int true IntKind.u64 (65537 : Int) (Bd.w (0 : Int) (65537 : Int) (orZero_bd (inC (Int.ofNat (0 : Nat)) (Int.ofNat ((0 : Nat) + (1 : Nat))))
    Bd.of._proof_1)), SC.int true IntKind.i64 (6 : Int) (Bd.w (0 : Int) (895 : Int) (counter_bd._proof_4 (Int.ofNat (0 : Nat)) (Int.ofNat ((0 : Nat) + (1 : Nat)))))]), (false, [SC.boo
    true true])]) (ST.node (SV.tup []) (ST.node (SV.tup []) ST.nil ST.nil) ST.nil) (ST.node (SV.tup []) ST.nil ST.nil))) (ST.node (SV.c (SC.ptr (596 : Nat) (0 : Nat))) (ST.node (SV.c
    (SC.ptr (596 : Nat) (0 : Nat))) (ST.node (SV.tup []) (ST.node (SV.tup []) ST.nil ST.nil) ST.nil) (ST.node (SV.tup []) ST.nil ST.nil)) (ST.node (SV.tup []) (ST.node (SV.tup [])
    (ST.node (SV.tup []) ST.nil ST.nil) ST.nil) (ST.node (SV.tup []) ST.nil ST.nil)))))) []) (Mem.mk [((6 : Nat), SO.cells [SC.int false IntKind.i64 (z (0 : Nat)), SC.int false
    IntKind.i64 (z (1 : Nat)), SC.int false IntKind.i64 (z (2 : Nat)), SC.int false IntKind.i64 (z (3 : Nat)), SC.int false IntKind.u64 (z (4 : Nat)), SC.int false IntKind.u64 (z (5 :
    Nat)), SC.int false IntKind.u64 (z (6 : Nat)), SC.int false IntKind.u64 (z (7 : Nat)), SC.int false IntKind.u64 (z (8 : Nat)), SC.int false IntKind.u64 (z (9 : Nat)), SC.int false
    IntKind.u64 (z (10 : Nat)), SC.int false IntKind.u64 (z (11 : Nat)), SC.int false IntKind.u64 (z (12 : Nat)), SC.sliv ad false ln cp, SC.int false IntKind.i64 (z (14 : Nat)), SC.int
    false IntKind.i64 (z (15 : Nat)), SC.int false IntKind.i64 (z (16 : Nat)), SC.int false IntKind.i64 (z (17 : Nat)), SC.int false IntKind.i64 (z (18 : Nat)), SC.int false IntKind.i64
    (z (19 : Nat))] (31 : Nat)), ((10 : Nat), SO.ext (HO.obj [] (PA.mk (60000 : Nat) (7 : Nat) (7 : Nat) (0 : Nat) (1 : Nat) [(0 : Nat), (65537 : Nat), (0 : Nat), (0 : Nat), (0 : Nat),
    (0 : Nat), (0 : Nat), (0 : Nat), (0 : Nat)] (1 : Nat) [(1 : Nat)] [] [((1 : Nat), (65537 : Nat), [(0 : Nat), (0 : Nat), (0 : Nat), (0 : Nat), (0 : Nat), (0 : Nat), (0 : Nat)])]
    (Tly.mk (1 : Nat) (0 : Nat) (3 : Nat) (1 : Nat) (0 : Nat) (0 : Nat))))), ((11 : Nat), SO.row (OfNat.ofNat (25 : Nat)) (1 : Nat) (1 : Nat) cap [SC.int true IntKind.u64 (65537 : Int)
    Bd.any]), ((18 : Nat), SO.cells [SC.raw Value.nilFunc, SC.ptr (10 : Nat) (0 : Nat), SC.int true IntKind.i64 (1 : Int) Bd.any, SC.int true IntKind.i64 (1 : Int), SC.int true
    IntKind.u64 (65537 : Int) Bd.any, SC.int true IntKind.u64 (0 : Int) Bd.any, SC.int true IntKind.u64 (0 : Int), SC.int true IntKind.u64 (0 : Int), SC.int true IntKind.u64 (0 : Int),
    SC.int true IntKind.u64 (0 : Int), SC.int true IntKind.u64 (0 : Int), SC.int true IntKind.u64 (0 : Int), SC.nls] (170 : Nat)), ((370 : Nat), SO.cells [SC.int false IntKind.i64 (z_1
    (0 : Nat)), SC.int false IntKind.i64 (z_1 (1 : Nat)), SC.int false IntKind.i64 (z_1 (2 : Nat)), SC.int false IntKind.i64 (z_1 (3 : Nat)), SC.int false IntKind.u64 (z_1 (4 : Nat)),
    SC.int false IntKind.u64 (z_1 (5 : Nat)), SC.int false IntKind.u64 (z_1 (6 : Nat)), SC.int false IntKind.u64 (z_1 (7 : Nat)), SC.int false IntKind.u64 (z_1 (8 : Nat)), SC.int false
    IntKind.u64 (z_1 (9 : Nat)), SC.int false IntKind.u64 (z_1 (10 : Nat)), SC.int false IntKind.u64 (z_1 (11 : Nat)), SC.int false IntKind.u64 (z_1 (12 : Nat)), SC.sliv ad_1 false ln_1
    cp_1, SC.int false IntKind.i64 (z_1 (14 : Nat)), SC.int false IntKind.i64 (z_1 (15 : Nat)), SC.int false IntKind.i64 (z_1 (16 : Nat)), SC.int false IntKind.i64 (z_1 (17 : Nat)),
    SC.int false IntKind.i64 (z_1 (18 : Nat)), SC.int false IntKind.i64 (z_1 (19 : Nat))] (31 : Nat)), ((374 : Nat), SO.ext (HO.obj [] (PA.mk (60000 : Nat) (49 : Nat) (49 : Nat) (0 :
    Nat) (3 : Nat) [(0 : Nat), (65537 : Nat), (131074 : Nat), (196611 : Nat), (0 : Nat), (0 : Nat), (0 : Nat), (0 : Nat), (0 : Nat)] (3 : Nat) [(1 : Nat), (2 : Nat), (3 : Nat)] [] [((1
    : Nat), (65537 : Nat), [(0 : Nat), (0 : Nat), (0 : Nat), (0 : Nat), (0 : Nat), (0 : Nat), (1 : Nat)]), ((2 : Nat), (131074 : Nat), [(0 : Nat), (0 : Nat), (0 : Nat), (0 : Nat), (0 :
    Nat), (0 : Nat), (0 : Nat), (0 : Nat), (0 : Nat), (0 : Nat), (0 : Nat), (0 : Nat), (0 : Nat), (0 : Nat)]), ((3 : Nat), (196611 : Nat), [(0 : Nat), (0 : Nat), (0 : Nat), (0 : Nat),
    (0 : Nat), (0 : Nat), (0 : Nat), (0 : Nat), (0 : Nat), (0 : Nat), (0 : Nat), (0 : Nat), (0 : Nat), (0 : Nat), (0 : Nat), (0 : Nat), (0 : Nat), (0 : Nat), (0 : Nat), (0 : Nat), (0 :
    Nat), (2 : Nat), (1 : Nat), (1 : Nat), (0 : Nat), (1 : Nat), (0 : Nat), (1 : Nat)])] (Tly.mk (3 : Nat) (0 : Nat) (1 : Nat) (3 : Nat) (0 : Nat) (7 : Nat))))), ((375 : Nat), SO.row
    (OfNat.ofNat (25 : Nat)) (1 : Nat) (3 : Nat) cap_1 [SC.int true IntKind.u64 (65537 : Int) Bd.any, SC.int true IntKind.u64 (131074 : Int) Bd.any, SC.int true IntKind.u64 (196611 :
    Int) Bd.any]), ((376 : Nat), SO.cells [SC.int true IntKind.i64 (6 : Int), SC.int true IntKind.i64 (0 : Int), SC.int true IntKind.i64 (4 : Int)] (3 : Nat)), ((399 : Nat), SO.ext
    (HO.old (XO.cnt (374 : Nat) (Cnt.mk (196611 : Nat) (6 : Nat) (3 : Nat) (3 : Nat) (1 : Nat))))), ((469 : Nat), SO.ext (HO.old (XO.cnt (374 : Nat) (Cnt.mk (65537 : Nat) (0 : Nat) (1 :
    Nat) (1 : Nat) (1 : Nat))))), ((539 : Nat), SO.ext (HO.old (XO.cnt (374 : Nat) (Cnt.mk (196611 : Nat) (4 : Nat) (3 : Nat) (3 : Nat) (1 : Nat))))), ((596 : Nat), SO.cells [SC.fn
    (Fn.func (143 : Nat)) [SC.ptr (596 : Nat) (0 : Nat)] [], SC.ptr (374 : Nat) (0 : Nat), SC.int true IntKind.i64 (0 : Int), SC.int true IntKind.i64 (1 : Int), SC.int true IntKind.u64
    (65537 : Int) Bd.any, SC.int true IntKind.u64 (0 : Int), SC.int true IntKind.u64 (0 : Int), SC.int true IntKind.u64 (0 : Int), SC.int true IntKind.u64 (0 : Int), SC.int true
    IntKind.u64 (0 : Int), SC.int true IntKind.u64 (0 : Int), SC.int true IntKind.u64 (0 : Int), SC.nls] (170 : Nat)), ((715 : Nat), SO.cells [SC.int true IntKind.u64 (65537 : Int)
    (Bd.w (0 : Int) (65537 : Int) (orZero_bd (inC (Int.ofNat (0 : Nat)) (Int.ofNat ((0 : Nat) + (1 : Nat)))) Bd.of._proof_1)), SC.int true IntKind.i64 (6 : Int) (Bd.w (0 : Int) (895 :
    Int) (counter_bd._proof_4 (Int.ofNat (0 : Nat)) (Int.ofNat ((0 : Nat) + (1 : Nat)))))] (47 : Nat))] (718 : Nat)) Scr.nil ∧ True) ∧ True → (K (SF.mk (86 : Nat) (ST.node (SV.c (SC.ptr
    (596 : Nat) (0 : Nat))) (ST.node (SV.tup []) (ST.node (SV.c (SC.boo true true)) (ST.node (SV.tup []) (ST.node (SV.c (SC.ptr (596 : Nat) (4 : Nat))) (ST.node (SV.tup []) (ST.node
    (SV.tup []) ST.nil ST.nil) ST.nil) (ST.node (SV.tup []) (ST.node (SV.tup []) ST.nil ST.nil) ST.nil)) (ST.node (SV.c (SC.ptr (596 : Nat) (0 : Nat))) (ST.node (SV.tup []) (ST.node
    (SV.tup []) ST.nil ST.nil) ST.nil) (ST.node (SV.tup []) ST.nil ST.nil))) (ST.node (SV.c (SC.ptr (596 : Nat) (0 : Nat))) (ST.node (SV.c (SC.ptr (596 : Nat) (0 : Nat))) (ST.node
    (SV.tup []) (ST.node (SV.tup []) ST.nil ST.nil) ST.nil) (ST.node (SV.tup []) (ST.node (SV.tup []) ST.nil ST.nil) ST.nil)) (ST.node (SV.agg [SC.int true IntKind.u64 (65537 : Int)
    (Bd.w (0 : Int) (65537 : Int) (orZero_bd (inC (Int.ofNat (0 : Nat)) (Int.ofNat ((0 : Nat) + (1 : Nat)))) Bd.of._proof_1)), SC.int true IntKind.i64 (6 : Int) (Bd.w (0 : Int) (895 :
    Int) (counter_bd._proof_4 (Int.ofNat (0 : Nat)) (Int.ofNat ((0 : Nat) + (1 : Nat)))))]) (ST.node (SV.tup []) (ST.node (SV.tup []) ST.nil ST.nil) ST.nil) (ST.node (SV.tup []) ST.nil
    ST.nil)))) (ST.node (SV.tup []) (ST.node (SV.c (SC.ptr (596 : Nat) (0 : Nat))) (ST.node (SV.c (SC.int true IntKind.u64 (65537 : Int) Bd.any)) (ST.node (SV.tup []) (ST.node (SV.tup
    []) ST.nil ST.nil) ST.nil) (ST.node (SV.tup []) (ST.node (SV.tup []) ST.nil ST.nil) ST.nil)) (ST.node (SV.c (SC.int true IntKind.i64 (1 : Int))) (ST.node (SV.tup []) (ST.node
    (SV.tup []) ST.nil ST.nil) ST.nil) (ST.node (SV.tup []) ST.nil ST.nil))) (ST.node (SV.c (SC.int true IntKind.i64 (0 : Int))) (ST.node (SV.c (SC.int true IntKind.i64 (0 : Int)))
    (ST.node (SV.tup []) (ST.node (SV.tup []) ST.nil ST.nil) ST.nil) (ST.node (SV.tup []) (ST.node (SV.tup []) ST.nil ST.nil) ST.nil)) (ST.node (SV.tup []) (ST.node (SV.tup []) (ST.node
    (SV.tup []) ST.nil ST.nil) ST.nil) (ST.node (SV.tup []) ST.nil ST.nil))))) (ST.node (SV.c (SC.ptr (715 : Nat) (0 : Nat))) (ST.node (SV.tup []) (ST.node (SV.tup [(true, [SC.int true
    IntKind.u64 (65537 : Int) (Bd.w (0 : Int) (65537 : Int) (orZero_bd (inC (Int.ofNat (0 : Nat)) (Int.ofNat ((0 : Nat) + (1 : Nat)))) Bd.of._proof_1)), SC.int true IntKind.i64 (6 :
    Int) (Bd.w (0 : Int) (895 : Int) (counter_bd._proof_4 (Int.ofNat (0 : Nat)) (Int.ofNat ((0 : Nat) + (1 : Nat)))))]), (false, [SC.boo true true])]) (ST.node (SV.c (SC.ptr (596 : Nat)
    (4 : Nat))) (ST.node (SV.tup []) (ST.node (SV.tup []) ST.nil ST.nil) ST.nil) (ST.node (SV.tup []) (ST.node (SV.tup []) ST.nil ST.nil) ST.nil)) (ST.node (SV.c (SC.ptr (596 : Nat) (3
    : Nat))) (ST.node (SV.tup []) (ST.node (SV.tup []) ST.nil ST.nil) ST.nil) (ST.node (SV.tup []) ST.nil ST.nil))) (ST.node (SV.c (SC.ptr (596 : Nat) (2 : Nat))) (ST.node (SV.c (SC.ptr
    (596 : Nat) (2 : Nat))) (ST.node (SV.tup []) (ST.node (SV.tup []) ST.nil ST.nil) ST.nil) (ST.node (SV.tup []) (ST.node (SV.tup []) ST.nil ST.nil) ST.nil)) (ST.node (SV.c (SC.boo
    true true)) (ST.node (SV.tup []) (ST.node (SV.tup []) ST.nil ST.nil) ST.nil) (ST.node (SV.tup []) ST.nil ST.nil)))) (ST.node (SV.tup []) (ST.node (SV.c (SC.ptr (596 : Nat) (0 :
    Nat))) (ST.node (SV.c (SC.ptr (596 : Nat) (0 : Nat))) (ST.node (SV.tup []) (ST.node (SV.tup []) ST.nil ST.nil) ST.nil) (ST.node (SV.tup []) (ST.node (SV.tup []) ST.nil ST.nil)
    ST.nil)) (ST.node (SV.tup [(true, [SC.int true IntKind.u64 (65537 : Int) (Bd.w (0 : Int) (65537 : Int) (orZero_bd (inC (Int.ofNat (0 : Nat)) (Int.ofNat ((0 : Nat) + (1 : Nat))))
    Bd.of._proof_1)), SC.int true IntKind.i64 (6 : Int) (Bd.w (0 : Int) (895 : Int) (counter_bd._proof_4 (Int.ofNat (0 : Nat)) (Int.ofNat ((0 : Nat) + (1 : Nat)))))]), (false, [SC.boo
    true true])]) (ST.node (SV.tup []) (ST.node (SV.tup []) ST.nil ST.nil) ST.nil) (ST.node (SV.tup []) ST.nil ST.nil))) (ST.node (SV.c (SC.ptr (596 : Nat) (0 : Nat))) (ST.node (SV.c
    (SC.ptr (596 : Nat) (0 : Nat))) (ST.node (SV.tup []) (ST.node (SV.tup []) ST.nil ST.nil) ST.nil) (ST.node (SV.tup []) ST.nil ST.nil)) (ST.node (SV.tup []) (ST.node (SV.tup [])
    (ST.node (SV.tup []) ST.nil ST.nil) ST.nil) (ST.node (SV.tup []) ST.nil ST.nil)))))) []) (Mem.mk [((6 : Nat), SO.cells [SC.int false IntKind.i64 (z (0 : Nat)), SC.int false
    IntKind.i64 (z (1 : Nat)), SC.int false IntKind.i64 (z (2 : Nat)), SC.int false IntKind.i64 (z (3 : Nat)), SC.int false IntKind.u64 (z (4 : Nat)), SC.int false IntKind.u64 (z (5 :
    Nat)), SC.int false IntKind.u64 (z (6 : Nat)), SC.int false IntKind.u64 (z (7 : Nat)), SC.int false IntKind.u64 (z (8 : Nat)), SC.int false IntKind.u64 (z (9 : Nat)), SC.int false
    IntKind.u64 (z (10 : Nat)), SC.int false IntKind.u64 (z (11 : Nat)), SC.int false IntKind.u64 (z (12 : Nat)), SC.sliv ad false ln cp, SC.int false IntKind.i64 (z (14 : Nat)), SC.int
    false IntKind.i64 (z (15 : Nat)), SC.int false IntKind.i64 (z (16 : Nat)), SC.int false IntKind.i64 (z (17 : Nat)), SC.int false IntKind.i64 (z (18 : Nat)), SC.int false IntKind.i64
    (z (19 : Nat))] (31 : Nat)), ((10 : Nat), SO.ext (HO.obj [] (PA.mk (60000 : Nat) (7 : Nat) (7 : Nat) (0 : Nat) (1 : Nat) [(0 : Nat), (65537 : Nat), (0 : Nat), (0 : Nat), (0 : Nat),
    (0 : Nat), (0 : Nat), (0 : Nat), (0 : Nat)] (1 : Nat) [(1 : Nat)] [] [((1 : Nat), (65537 : Nat), [(0 : Nat), (0 : Nat), (0 : Nat), (0 : Nat), (0 : Nat), (0 : Nat), (0 : Nat)])]
    (Tly.mk (1 : Nat) (0 : Nat) (3 : Nat) (1 : Nat) (0 : Nat) (0 : Nat))))), ((11 : Nat), SO.row (OfNat.ofNat (25 : Nat)) (1 : Nat) (1 : Nat) cap [SC.int true IntKind.u64 (65537 : Int)
    Bd.any]), ((18 : Nat), SO.cells [SC.raw Value.nilFunc, SC.ptr (10 : Nat) (0 : Nat), SC.int true IntKind.i64 (1 : Int) Bd.any, SC.int true IntKind.i64 (1 : Int), SC.int true
    IntKind.u64 (65537 : Int) Bd.any, SC.int true IntKind.u64 (0 : Int) Bd.any, SC.int true IntKind.u64 (0 : Int), SC.int true IntKind.u64 (0 : Int), SC.int true IntKind.u64 (0 : Int),
    SC.int true IntKind.u64 (0 : Int), SC.int true IntKind.u64 (0 : Int), SC.int true IntKind.u64 (0 : Int), SC.nls] (170 : Nat)), ((370 : Nat), SO.cells [SC.int false IntKind.i64 (z_1
    (0 : Nat)), SC.int false IntKind.i64 (z_1 (1 : Nat)), SC.int false IntKind.i64 (z_1 (2 : Nat)), SC.int false IntKind.i64 (z_1 (3 : Nat)), SC.int false IntKind.u64 (z_1 (4 : Nat)),
    SC.int false IntKind.u64 (z_1 (5 : Nat)), SC.int false IntKind.u64 (z_1 (6 : Nat)), SC.int false IntKind.u64 (z_1 (7 : Nat)), SC.int false IntKind.u64 (z_1 (8 : Nat)), SC.int false
    IntKind.u64 (z_1 (9 : Nat)), SC.int false IntKind.u64 (z_1 (10 : Nat)), SC.int false IntKind.u64 (z_1 (11 : Nat)), SC.int false IntKind.u64 (z_1 (12 : Nat)), SC.sliv ad_1 false ln_1
    cp_1, SC.int false IntKind.i64 (z_1 (14 : Nat)), SC.int false IntKind.i64 (z_1 (15 : Nat)), SC.int false IntKind.i64 (z_1 (16 : Nat)), SC.int false IntKind.i64 (z_1 (17 : Nat)),
    SC.int false IntKind.i64 (z_1 (18 : Nat)), SC.int false IntKind.i64 (z_1 (19 : Nat))] (31 : Nat)), ((374 : Nat), SO.ext (HO.obj [] (PA.mk (60000 : Nat) (49 : Nat) (49 : Nat) (0 :
    Nat) (3 : Nat) [(0 : Nat), (65537 : Nat), (131074 : Nat), (196611 : Nat), (0 : Nat), (0 : Nat), (0 : Nat), (0 : Nat), (0 : Nat)] (3 : Nat) [(1 : Nat), (2 : Nat), (3 : Nat)] [] [((1
    : Nat), (65537 : Nat), [(0 : Nat), (0 : Nat), (0 : Nat), (0 : Nat), (0 : Nat), (0 : Nat), (1 : Nat)]), ((2 : Nat), (131074 : Nat), [(0 : Nat), (0 : Nat), (0 : Nat), (0 : Nat), (0 :
    Nat), (0 : Nat), (0 : Nat), (0 : Nat), (0 : Nat), (0 : Nat), (0 : Nat), (0 : Nat), (0 : Nat), (0 : Nat)]), ((3 : Nat), (196611 : Nat), [(0 : Nat), (0 : Nat), (0 : Nat), (0 : Nat),
    (0 : Nat), (0 : Nat), (0 : Nat), (0 : Nat), (0 : Nat), (0 : Nat), (0 : Nat), (0 : Nat), (0 : Nat), (0 : Nat), (0 : Nat), (0 : Nat), (0 : Nat), (0 : Nat), (0 : Nat), (0 : Nat), (0 :
    Nat), (2 : Nat), (1 : Nat), (1 : Nat), (0 : Nat), (1 : Nat), (0 : Nat), (1 : Nat)])] (Tly.mk (3 : Nat) (0 : Nat) (1 : Nat) (3 : Nat) (0 : Nat) (7 : Nat))))), ((375 : Nat), SO.row
    (OfNat.ofNat (25 : Nat)) (1 : Nat) (3 : Nat) cap_1 [SC.int true IntKind.u64 (65537 : Int) Bd.any, SC.int true IntKind.u64 (131074 : Int) Bd.any, SC.int true IntKind.u64 (196611 :
    Int) Bd.any]), ((376 : Nat), SO.cells [SC.int true IntKind.i64 (6 : Int), SC.int true IntKind.i64 (0 : Int), SC.int true IntKind.i64 (4 : Int)] (3 : Nat)), ((399 : Nat), SO.ext
    (HO.old (XO.cnt (374 : Nat) (Cnt.mk (196611 : Nat) (6 : Nat) (3 : Nat) (3 : Nat) (1 : Nat))))), ((469 : Nat), SO.ext (HO.old (XO.cnt (374 : Nat) (Cnt.mk (65537 : Nat) (0 : Nat) (1 :
    Nat) (1 : Nat) (1 : Nat))))), ((539 : Nat), SO.ext (HO.old (XO.cnt (374 : Nat) (Cnt.mk (196611 : Nat) (4 : Nat) (3 : Nat) (3 : Nat) (1 : Nat))))), ((596 : Nat), SO.cells [SC.fn
    (Fn.func (143 : Nat)) [SC.ptr (596 : Nat) (0 : Nat)] [], SC.ptr (374 : Nat) (0 : Nat), SC.int true IntKind.i64 (0 : Int), SC.int true IntKind.i64 (1 : Int), SC.int true IntKind.u64
    (65537 : Int) Bd.any, SC.int true IntKind.u64 (0 : Int), SC.int true IntKind.u64 (0 : Int), SC.int true IntKind.u64 (0 : Int), SC.int true IntKind.u64 (0 : Int), SC.int true
    IntKind.u64 (0 : Int), SC.int true IntKind.u64 (0 : Int), SC.int true IntKind.u64 (0 : Int), SC.nls] (170 : Nat)), ((715 : Nat), SO.cells [SC.int true IntKind.u64 (65537 : Int)
    (Bd.w (0 : Int) (65537 : Int) (orZero_bd (inC (Int.ofNat (0 : Nat)) (Int.ofNat ((0 : Nat) + (1 : Nat)))) Bd.of._proof_1)), SC.int true IntKind.i64 (6 : Int) (Bd.w (0 : Int) (895 :
    Int) (counter_bd._proof_4 (Int.ofNat (0 : Nat)) (Int.ofNat ((0 : Nat) + (1 : Nat)))))] (47 : Nat))] (718 : Nat)) Scr.nil ∧ True) ∧ True) ∧ True) ∧ True) ∧ True) ∧ True) ∧ True) ∧
    True) ∧ True) ∧ True) ∧ True) ∧ True) ∧ True) ∧ True) ∧ True) ∧ True) ∧ True) ∧ True) ∧ (∀ (K : KO XP), (K (SF.mk (86 : Nat) (ST.node (SV.c (SC.ptr (18 : Nat) (0 : Nat))) (ST.node
    (SV.tup []) (ST.node (SV.c (SC.boo true true)) (ST.node (SV.tup []) (ST.node (SV.c (SC.ptr (18 : Nat) (4 : Nat))) (ST.node (SV.tup []) (ST.node (SV.tup []) ST.nil ST.nil) ST.nil)
    (ST.node (SV.tup []) (ST.node (SV.tup []) ST.nil ST.nil) ST.nil)) (ST.node (SV.c (SC.ptr (18 : Nat) (0 : Nat))) (ST.node (SV.tup []) (ST.node (SV.tup []) ST.nil ST.nil) ST.nil)
    (ST.node (SV.tup []) ST.nil ST.nil))) (ST.node (SV.c (SC.ptr (18 : Nat) (0 : Nat))) (ST.node (SV.c (SC.ptr (18 : Nat) (0 : Nat))) (ST.node (SV.tup []) (ST.node (SV.tup []) ST.nil
    ST.nil) ST.nil) (ST.node (SV.tup []) (ST.node (SV.tup []) ST.nil ST.nil) ST.nil)) (ST.node (SV.agg [SC.int true IntKind.u64 (65537 : Int) (Bd.w (0 : Int) (65537 : Int) (orZero_bd
    (inC (Int.ofNat (0 : Nat)) (Int.ofNat ((0 : Nat) + (1 : Nat)))) Bd.of._proof_1)), SC.int true IntKind.i64 (6 : Int) (Bd.w (0 : Int) (895 : Int) (counter_bd._proof_4 (Int.ofNat (0 :
    Nat)) (Int.ofNat ((0 : Nat) + (1 : Nat)))))]) (ST.node (SV.tup []) (ST.node (SV.tup []) ST.nil ST.nil) ST.nil) (ST.node (SV.tup []) ST.nil ST.nil)))) (ST.node (SV.tup []) (ST.node
    (SV.c (SC.ptr (18 : Nat) (0 : Nat))) (ST.node (SV.c (SC.int true IntKind.u64 (65537 : Int) Bd.any)) (ST.node (SV.tup []) (ST.node (SV.tup []) ST.nil ST.nil) ST.nil) (ST.node (SV.tup
    []) (ST.node (SV.tup []) ST.nil ST.nil) ST.nil)) (ST.node (SV.c (SC.int true IntKind.i64 (1 : Int))) (ST.node (SV.tup []) (ST.node (SV.tup []) ST.nil ST.nil) ST.nil) (ST.node
    (SV.tup []) ST.nil ST.nil))) (ST.node (SV.c (SC.int true IntKind.i64 (0 : Int))) (ST.node (SV.c (SC.int true IntKind.i64 (0 : Int))) (ST.node (SV.tup []) (ST.node (SV.tup []) ST.nil
    ST.nil) ST.nil) (ST.node (SV.tup []) (ST.node (SV.tup []) ST.nil ST.nil) ST.nil)) (ST.node (SV.tup []) (ST.node (SV.tup []) (ST.node (SV.tup []) ST.nil ST.nil) ST.nil) (ST.node
    (SV.tup []) ST.nil ST.nil))))) (ST.node (SV.c (SC.ptr (137 : Nat) (0 : Nat))) (ST.node (SV.tup []) (ST.node (SV.tup [(true, [SC.int true IntKind.u64 (65537 : Int) (Bd.w (0 : Int)
    (65537 : Int) (orZero_bd (inC (Int.ofNat (0 : Nat)) (Int.ofNat ((0 : Nat) + (1 : Nat)))) Bd.of._proof_1)), SC.int true IntKind.i64 (6 : Int) (Bd.w (0 : Int) (895 : Int)
    (counter_bd._proof_4 (Int.ofNat (0 : Nat)) (Int.ofNat ((0 : Nat) + (1 : Nat)))))]), (false, [SC.boo true true])]) (ST.node (SV.c (SC.ptr (18 : Nat) (4 : Nat))) (ST.node (SV.tup [])
    (ST.node (SV.tup []) ST.nil ST.nil) ST.nil) (ST.node (SV.tup []) (ST.node (SV.tup []) ST.nil ST.nil) ST.nil)) (ST.node (SV.c (SC.ptr (18 : Nat) (3 : Nat))) (ST.node (SV.tup [])
    (ST.node (SV.tup []) ST.nil ST.nil) ST.nil) (ST.node (SV.tup []) ST.nil ST.nil))) (ST.node (SV.c (SC.ptr (18 : Nat) (2 : Nat))) (ST.node (SV.c (SC.ptr (18 : Nat) (2 : Nat)))
    (ST.node (SV.tup []) (ST.node (SV.tup []) ST.nil ST.nil) ST.nil) (ST.node (SV.tup []) (ST.node (SV.tup []) ST.nil ST.nil) ST.nil)) (ST.node (SV.c (SC.boo true true)) (ST.node
    (SV.tup []) (ST.node (SV.tup []) ST.nil ST.nil) ST.nil) (ST.node (SV.tup []) ST.nil ST.nil)))) (ST.node (SV.tup []) (ST.node (SV.c (SC.ptr (18 : Nat) (0 : Nat))) (ST.node (SV.c
    (SC.ptr (18 : Nat) (0 : Nat))) (ST.node (SV.tup []) (ST.node (SV.tup []) ST.nil ST.nil) ST.nil) (ST.node (SV.tup []) (ST.node (SV.tup []) ST.nil ST.nil) ST.nil)) (ST.node (SV.tup
    [(true, [SC.int true IntKind.u64 (65537 : Int) (Bd.w (0 : Int) (65537 : Int) (orZero_bd (inC (Int.ofNat (0 : Nat)) (Int.ofNat ((0 : Nat) + (1 : Nat)))) Bd.of._proof_1)), SC.int true
    IntKind.i64 (6 : Int) (Bd.w (0 : Int) (895 : Int) (counter_bd._proof_4 (Int.ofNat (0 : Nat)) (Int.ofNat ((0 : Nat) + (1 : Nat)))))]), (false, [SC.boo true true])]) (ST.node (SV.tup
    []) (ST.node (SV.tup []) ST.nil ST.nil) ST.nil) (ST.node (SV.tup []) ST.nil ST.nil))) (ST.node (SV.c (SC.ptr (18 : Nat) (0 : Nat))) (ST.node (SV.c (SC.ptr (18 : Nat) (0 : Nat)))
    (ST.node (SV.tup []) (ST.node (SV.tup []) ST.nil ST.nil) ST.nil) (ST.node (SV.tup []) ST.nil ST.nil)) (ST.node (SV.tup []) (ST.node (SV.tup []) (ST.node (SV.tup []) ST.nil ST.nil)
    ST.nil) (ST.node (SV.tup []) ST.nil ST.nil)))))) []) (Mem.mk [((6 : Nat), SO.cells [SC.int false IntKind.i64 (z (0 : Nat)), SC.int false IntKind.i64 (z (1 : Nat)), SC.int false
    IntKind.i64 (z (2 : Nat)), SC.int false IntKind.i64 (z (3 : Nat)), SC.int false IntKind.u64 (z (4 : Nat)), SC.int false IntKind.u64 (z (5 : Nat)), SC.int false IntKind.u64 (z (6 :
    Nat)), SC.int false IntKind.u64 (z (7 : Nat)), SC.int false IntKind.u64 (z (8 : Nat)), SC.int false IntKind.u64 (z (9 : Nat)), SC.int false IntKind.u64 (z (10 : Nat)), SC.int false
    IntKind.u64 (z (11 : Nat)), SC.int false IntKind.u64 (z (12 : Nat)), SC.sliv ad false ln cp, SC.int false IntKind.i64 (z (14 : Nat)), SC.int false IntKind.i64 (z (15 : Nat)), SC.int
    false IntKind.i64 (z (16 : Nat)), SC.int false IntKind.i64 (z (17 : Nat)), SC.int false IntKind.i64 (z (18 : Nat)), SC.int false IntKind.i64 (z (19 : Nat))] (31 : Nat)), ((10 :
    Nat), SO.ext (HO.obj [] (PA.mk (60000 : Nat) (7 : Nat) (7 : Nat) (0 : Nat) (1 : Nat) [(0 : Nat), (65537 : Nat), (0 : Nat), (0 : Nat), (0 : Nat), (0 : Nat), (0 : Nat), (0 : Nat), (0
    : Nat)] (1 : Nat) [(1 : Nat)] [] [((1 : Nat), (65537 : Nat), [(0 : Nat), (0 : Nat), (0 : Nat), (0 : Nat), (0 : Nat), (0 : Nat), (0 : Nat)])] (Tly.mk (1 : Nat) (0 : Nat) (1 : Nat) (1
    : Nat) (0 : Nat) (0 : Nat))))), ((11 : Nat), SO.row (OfNat.ofNat (25 : Nat)) (1 : Nat) (1 : Nat) cap [SC.int true IntKind.u64 (65537 : Int) Bd.any]), ((18 : Nat), SO.cells [SC.fn
    (Fn.func (143 : Nat)) [SC.ptr (18 : Nat) (0 : Nat)] [], SC.ptr (10 : Nat) (0 : Nat), SC.int true IntKind.i64 (0 : Int), SC.int true IntKind.i64 (1 : Int), SC.int true IntKind.u64
    (65537 : Int) Bd.any, SC.int true IntKind.u64 (0 : Int), SC.int true IntKind.u64 (0 : Int), SC.int true IntKind.u64 (0 : Int), SC.int true IntKind.u64 (0 : Int), SC.int true
    IntKind.u64 (0 : Int), SC.int true IntKind.u64 (0 : Int), SC.int true IntKind.u64 (0 : Int), SC.nls] (170 : Nat)), ((137 : Nat), SO.cells [SC.int true IntKind.u64 (65537 : Int)
    (Bd.w (0 : Int) (65537 : Int) (orZero_bd (inC (Int.ofNat (0 : Nat)) (Int.ofNat ((0 : Nat) + (1 : Nat)))) Bd.of._proof_1)), SC.int true IntKind.i64 (6 : Int) (Bd.w (0 : Int) (895 :
    Int) (counter_bd._proof_4 (Int.ofNat (0 : Nat)) (Int.ofNat ((0 : Nat) + (1 : Nat)))))] (47 : Nat))] (140 : Nat)) Scr.nil ∧ True) ∧ True → (K (SF.mk (86 : Nat) (ST.node (SV.c (SC.ptr
    (18 : Nat) (0 : Nat))) (ST.node (SV.tup []) (ST.node (SV.c (SC.boo true true)) (ST.node (SV.tup []) (ST.node (SV.c (SC.ptr (18 : Nat) (4 : Nat))) (ST.node (SV.tup []) (ST.node
    (SV.tup []) ST.nil ST.nil) ST.nil) (ST.node (SV.tup []) (ST.node (SV.tup []) ST.nil ST.nil) ST.nil)) (ST.node (SV.c (SC.ptr (18 : Nat) (0 : Nat))) (ST.node (SV.tup []) (ST.node
    (SV.tup []) ST.nil ST.nil) ST.nil) (ST.node (SV.tup []) ST.nil ST.nil))) (ST.node (SV.c (SC.ptr (18 : Nat) (0 : Nat))) (ST.node (SV.c (SC.ptr (18 : Nat) (0 : Nat))) (ST.node (SV.tup
    []) (ST.node (SV.tup []) ST.nil ST.nil) ST.nil) (ST.node (SV.tup []) (ST.node (SV.tup []) ST.nil ST.nil) ST.nil)) (ST.node (SV.agg [SC.int true IntKind.u64 (65537 : Int) (Bd.w (0 :
    Int) (65537 : Int) (orZero_bd (inC (Int.ofNat (0 : Nat)) (Int.ofNat ((0 : Nat) + (1 : Nat)))) Bd.of._proof_1)), SC.int true IntKind.i64 (6 : Int) (Bd.w (0 : Int) (895 : Int)
    (counter_bd._proof_4 (Int.ofNat (0 : Nat)) (Int.ofNat ((0 : Nat) + (1 : Nat)))))]) (ST.node (SV.tup []) (ST.node (SV.tup []) ST.nil ST.nil) ST.nil) (ST.node (SV.tup []) ST.nil
    ST.nil)))) (ST.node (SV.tup []) (ST.node (SV.c (SC.ptr (18 : Nat) (0 : Nat))) (ST.node (SV.c (SC.int true IntKind.u64 (65537 : Int) Bd.any)) (ST.node (SV.tup []) (ST.node (SV.tup
    []) ST.nil ST.nil) ST.nil) (ST.node (SV.tup []) (ST.node (SV.tup []) ST.nil ST.nil) ST.nil)) (ST.node (SV.c (SC.int true IntKind.i64 (1 : Int))) (ST.node (SV.tup []) (ST.node
    (SV.tup []) ST.nil ST.nil) ST.nil) (ST.node (SV.tup []) ST.nil ST.nil))) (ST.node (SV.c (SC.int true IntKind.i64 (0 : Int))) (ST.node (SV.c (SC.int true IntKind.i64 (0 : Int)))
    (ST.node (SV.tup []) (ST.node (SV.tup []) ST.nil ST.nil) ST.nil) (ST.node (SV.tup []) (ST.node (SV.tup []) ST.nil ST.nil) ST.nil)) (ST.node (SV.tup []) (ST.node (SV.tup []) (ST.node
    (SV.tup []) ST.nil ST.nil) ST.nil) (ST.node (SV.tup []) ST.nil ST.nil))))) (ST.node (SV.c (SC.ptr (137 : Nat) (0 : Nat))) (ST.node (SV.tup []) (ST.node (SV.tup [(true, [SC.int true
    IntKind.u64 (65537 : Int) (Bd.w (0 : Int) (65537 : Int) (orZero_bd (inC (Int.ofNat (0 : Nat)) (Int.ofNat ((0 : Nat) + (1 : Nat)))) Bd.of._proof_1)), SC.int true IntKind.i64 (6 :
    Int) (Bd.w (0 : Int) (895 : Int) (counter_bd._proof_4 (Int.ofNat (0 : Nat)) (Int.ofNat ((0 : Nat) + (1 : Nat)))))]), (false, [SC.boo true true])]) (ST.node (SV.c (SC.ptr (18 : Nat)
    (4 : Nat))) (ST.node (SV.tup []) (ST.node (SV.tup []) ST.nil ST.nil) ST.nil) (ST.node (SV.tup []) (ST.node (SV.tup []) ST.nil ST.nil) ST.nil)) (ST.node (SV.c (SC.ptr (18 : Nat) (3 :
    Nat))) (ST.node (SV.tup []) (ST.node (SV.tup []) ST.nil ST.nil) ST.nil) (ST.node (SV.tup []) ST.nil ST.nil))) (ST.node (SV.c (SC.ptr (18 : Nat) (2 : Nat))) (ST.node (SV.c (SC.ptr
    (18 : Nat) (2 : Nat))) (ST.node (SV.tup []) (ST.node (SV.tup []) ST.nil ST.nil) ST.nil) (ST.node (SV.tup []) (ST.node (SV.tup []) ST.nil ST.nil) ST.nil)) (ST.node (SV.c (SC.boo true
    true)) (ST.node (SV.tup []) (ST.node (SV.tup []) ST.nil ST.nil) ST.nil) (ST.node (SV.tup []) ST.nil ST.nil)))) (ST.node (SV.tup []) (ST.node (SV.c (SC.ptr (18 : Nat) (0 : Nat)))
    (ST.node (SV.c (SC.ptr (18 : Nat) (0 : Nat))) (ST.node (SV.tup []) (ST.node (SV.tup []) ST.nil ST.nil) ST.nil) (ST.node (SV.tup []) (ST.node (SV.tup []) ST.nil ST.nil) ST.nil))
    (ST.node (SV.tup [(true, [SC.int true IntKind.u64 (65537 : Int) (Bd.w (0 : Int) (65537 : Int) (orZero_bd (inC (Int.ofNat (0 : Nat)) (Int.ofNat ((0 : Nat) + (1 : Nat))))
    Bd.of._proof_1)), SC.int true IntKind.i64 (6 : Int) (Bd.w (0 : Int) (895 : Int) (counter_bd._proof_4 (Int.ofNat (0 : Nat)) (Int.ofNat ((0 : Nat) + (1 : Nat)))))]), (false, [SC.boo
    true true])]) (ST.node (SV.tup []) (ST.node (SV.tup []) ST.nil ST.nil) ST.nil) (ST.node (SV.tup []) ST.nil ST.nil))) (ST.node (SV.c (SC.ptr (18 : Nat) (0 : Nat))) (ST.node (SV.c
    (SC.ptr (18 : Nat) (0 : Nat))) (ST.node (SV.tup []) (ST.node (SV.tup []) ST.nil ST.nil) ST.nil) (ST.node (SV.tup []) ST.nil ST.nil)) (ST.node (SV.tup []) (ST.node (SV.tup [])
    (ST.node (SV.tup []) ST.nil ST.nil) ST.nil) (ST.node (SV.tup []) ST.nil ST.nil)))))) []) (Mem.mk [((6 : Nat), SO.cells [SC.int false IntKind.i64 (z (0 : Nat)), SC.int false
    IntKind.i64 (z (1 : Nat)), SC.int false IntKind.i64 (z (2 : Nat)), SC.int false IntKind.i64 (z (3 : Nat)), SC.int false IntKind.u64 (z (4 : Nat)), SC.int false IntKind.u64 (z (5 :
    Nat)), SC.int false IntKind.u64 (z (6 : Nat)), SC.int false IntKind.u64 (z (7 : Nat)), SC.int false IntKind.u64 (z (8 : Nat)), SC.int false IntKind.u64 (z (9 : Nat)), SC.int false
    IntKind.u64 (z (10 : Nat)), SC.int false IntKind.u64 (z (11 : Nat)), SC.int false IntKind.u64 (z (12 : Nat)), SC.sliv ad false ln cp, SC.int false IntKind.i64 (z (14 : Nat)), SC.int
    false IntKind.i64 (z (15 : Nat)), SC.int false IntKind.i64 (z (16 : Nat)), SC.int false IntKind.i64 (z (17 : Nat)), SC.int false IntKind.i64 (z (18 : Nat)), SC.int false IntKind.i64
    (z (19 : Nat))] (31 : Nat)), ((10 : Nat), SO.ext (HO.obj [] (PA.mk (60000 : Nat) (7 : Nat) (7 : Nat) (0 : Nat) (1 : Nat) [(0 : Nat), (65537 : Nat), (0 : Nat), (0 : Nat), (0 : Nat),
    (0 : Nat), (0 : Nat), (0 : Nat), (0 : Nat)] (1 : Nat) [(1 : Nat)] [] [((1 : Nat), (65537 : Nat), [(0 : Nat), (0 : Nat), (0 : Nat), (0 : Nat), (0 : Nat), (0 : Nat), (0 : Nat)])]
    (Tly.mk (1 : Nat) (0 : Nat) (1 : Nat) (1 : Nat) (0 : Nat) (0 : Nat))))), ((11 : Nat), SO.row (OfNat.ofNat (25 : Nat)) (1 : Nat) (1 : Nat) cap [SC.int true IntKind.u64 (65537 : Int)
    Bd.any]), ((18 : Nat), SO.cells [SC.fn (Fn.func (143 : Nat)) [SC.ptr (18 : Nat) (0 : Nat)] [], SC.ptr (10 : Nat) (0 : Nat), SC.int true IntKind.i64 (0 : Int), SC.int true
    IntKind.i64 (1 : Int), SC.int true IntKind.u64 (65537 : Int) Bd.any, SC.int true IntKind.u64 (0 : Int), SC.int true IntKind.u64 (0 : Int), SC.int true IntKind.u64 (0 : Int), SC.int
    true IntKind.u64 (0 : Int), SC.int true IntKind.u64 (0 : Int), SC.int true IntKind.u64 (0 : Int), SC.int true IntKind.u64 (0 : Int), SC.nls] (170 : Nat)), ((137 : Nat), SO.cells
    [SC.int true IntKind.u64 (65537 : Int) (Bd.w (0 : Int) (65537 : Int) (orZero_bd (inC (Int.ofNat (0 : Nat)) (Int.ofNat ((0 : Nat) + (1 : Nat)))) Bd.of._proof_1)), SC.int true
    IntKind.i64 (6 : Int) (Bd.w (0 : Int) (895 : Int) (counter_bd._proof_4 (Int.ofNat (0 : Nat)) (Int.ofNat ((0 : Nat) + (1 : Nat)))))] (47 : Nat))] (140 : Nat)) Scr.nil ∧ True) ∧ True)
    ∧ True) ∧ True) ∧ True) ∧ True) := by
  kernel_rfl
theorem first13  : Run (callN Try.prog tblPC (fun _ n => Nat.beq n 999999) 100 20 38 [] ⟨[], 0⟩ .nil (fun v _ _ => retTrue v)) := by
  constructor
  rw [first13_vc]
  repeat' first
    | with_reducible apply And.intro
    | with_reducible exact trivial
    | with_reducible exact fun (h : true = false) => Bool.noConfusion h
    | with_reducible exact fun (h : false = true) => Bool.noConfusion h
    | with_reducible exact fun _ h => h
    | intro _
    | with_reducible exact Eq.refl _
    | decide
end Go.Proofs.Ytgiakcepgbpchaa
