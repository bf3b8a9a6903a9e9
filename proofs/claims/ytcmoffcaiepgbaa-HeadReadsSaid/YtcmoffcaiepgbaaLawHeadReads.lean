/- HeadReads: for all words the law returns true and turns nothing; condition: the words are read as numbers. -/
import Derived.Test.YtcmoffcaiepgbaaBaseF
import Derived.Test.YtcmoffcaiepgbaaBaseG
set_option linter.all false
namespace Go.Proofs.Ytcmoffcaiepgbaa
open Go Go.RowKit
set_option maxRecDepth 1000000
set_option maxHeartbeats 0
def tblR9 : List (Smry Try.prog XE) := [firstS 34 (fun W => by have h := law_trueR first09 W; exact h), hwordsS, hentwS, rwordsS, rentwS, hsmallS]
def rdR : Scr XE := .t (.t .nil)
def rdB : Scr XE := .f (.both rdR (.both rdR (.both rdR (.both rdR rdR))))
def rdA : Scr XE := .t (.both (.t .nil) (.f .nil))
theorem seen64_le {W : World} {a : Option Addr} : 0 ≤ seenInt .u64 W a ∧ seenInt .u64 W a ≤ 18446744073709551615 := seenInt_bd .u64 W a
theorem smF_big {x : Int} (h : 256 < x) : smF x = -1 := if_pos h
theorem smF_in' {x : Int} (h : ¬ 256 < x) : smF x = x := if_neg h
theorem smF_hi {x m : Int} (h : m < x) (hm : 0 ≤ m) : smF x < 0 ∨ m < smF x := by
  unfold smF; split <;> omega
theorem headB_no {cursor mp ml qu fr ln se sl : Int} (h : ml < 0 ∨ fr < 0 ∨ 255 < fr ∨ ln < 0 ∨ sl < 0) : headB cursor mp ml qu fr ln se sl = false := by
  have : verB ml fr ln sl = false := decide_eq_false (by omega)
  simp [headB, this]
theorem entB_no {slot note next : Int} (h : slot < 0 ∨ 254 < slot) : entB slot note next = false := by
  have : decide (0 ≤ slot ∧ slot ≤ 254) = false := decide_eq_false (by omega)
  simp [entB, this]
/-- What the executor leaves to be shown of roundelay/roundelaylaw09.HeadReads, written out. -/
theorem headReads_vc (W : World) (a : Option Addr) (len cap : Nat) : (callN Try.prog (tblR9 : List (Smry Try.prog XE)) (fun _ _ => false) 100 20 8 [.c (.sliv a false len cap)] ⟨[(0, .seen W)], 1⟩ (.both rdA rdB) (fun v m _ => retSeen W v m)) = (
    (((↑len : Int) != (8 : Int)) = true → ((↑len : Int) != (8 : Int)) = true ∧ (((↑len : Int) != (3 : Int)) = true → ((↑len : Int) != (3 : Int)) = true ∧ true = true ∧ some W = some W)
    ∧ (((↑len : Int) != (3 : Int)) = false → ((0 : Int) ≤ (0 : Int) ∧ (0 : Int) < (↑len : Int) ∧ a.isSome = true) ∧ (∃ (x : Addr), addOpt a (Int.toNat (0 : Int)) = some x ∧ W.cell? x =
    some (Value.int IntKind.u64 (seenInt IntKind.u64 W (addOpt a (0 : Nat))))) ∧ ((0 : Int) ≤ (1 : Int) ∧ (1 : Int) < (↑len : Int) ∧ a.isSome = true) ∧ (∃ (x : Addr), addOpt a
    (Int.toNat (1 : Int)) = some x ∧ W.cell? x = some (Value.int IntKind.u64 (seenInt IntKind.u64 W (addOpt a (1 : Nat))))) ∧ ((0 : Int) ≤ (2 : Int) ∧ (2 : Int) < (↑len : Int) ∧
    a.isSome = true) ∧ (∃ (x : Addr), addOpt a (Int.toNat (2 : Int)) = some x ∧ W.cell? x = some (Value.int IntKind.u64 (seenInt IntKind.u64 W (addOpt a (2 : Nat))))) ∧ (((0 : Int) ≤
    seenInt IntKind.u64 W (addOpt a (0 : Nat)) ∧ seenInt IntKind.u64 W (addOpt a (0 : Nat)) ≤ (18446744073709551615 : Int)) ∧ (∀ (z : Un), True → W = W ∧ (W = W ∧ ((((0 : Int) ≤ seenInt
    IntKind.u64 W (addOpt a (1 : Nat)) ∧ seenInt IntKind.u64 W (addOpt a (1 : Nat)) ≤ (18446744073709551615 : Int)) ∧ (0 : Int) ≤ seenInt IntKind.u64 W (addOpt a (2 : Nat)) ∧ seenInt
    IntKind.u64 W (addOpt a (2 : Nat)) ≤ (18446744073709551615 : Int)) ∧ (∀ (z : Un), entB (smF (seenInt IntKind.u64 W (addOpt a (0 : Nat)))) (seenInt IntKind.u64 W (addOpt a (1 :
    Nat))) (seenInt IntKind.u64 W (addOpt a (2 : Nat))) = false → ((↑len : Int) != (3 : Int)) = false ∧ ((0 : Int) ≤ (0 : Int) ∧ (0 : Int) < (↑len : Int) ∧ a.isSome = true) ∧ (∃ (x :
    Addr), addOpt a (Int.toNat (0 : Int)) = some x ∧ W.cell? x = some (Value.int IntKind.u64 (seenInt IntKind.u64 W (addOpt a (0 : Nat))))) ∧ (decide (seenInt IntKind.u64 W (addOpt a (0
    : Nat)) > (254 : Int)) = true → true = true ∧ some W = some W) ∧ (decide (seenInt IntKind.u64 W (addOpt a (0 : Nat)) > (254 : Int)) = false → ((0 : Int) ≤ (0 : Int) ∧ (0 : Int) <
    (↑len : Int) ∧ a.isSome = true) ∧ (∃ (x : Addr), addOpt a (Int.toNat (0 : Int)) = some x ∧ W.cell? x = some (Value.int IntKind.u64 (seenInt IntKind.u64 W (addOpt a (0 : Nat))))) ∧
    ((-9223372036854775808 : Int) ≤ seenInt IntKind.u64 W (addOpt a (0 : Nat)) ∧ seenInt IntKind.u64 W (addOpt a (0 : Nat)) ≤ (9223372036854775807 : Int)) ∧ ((0 : Int) ≤ (1 : Int) ∧ (1
    : Int) < (↑len : Int) ∧ a.isSome = true) ∧ (∃ (x : Addr), addOpt a (Int.toNat (1 : Int)) = some x ∧ W.cell? x = some (Value.int IntKind.u64 (seenInt IntKind.u64 W (addOpt a (1 :
    Nat))))) ∧ ((0 : Int) ≤ (2 : Int) ∧ (2 : Int) < (↑len : Int) ∧ a.isSome = true) ∧ (∃ (x : Addr), addOpt a (Int.toNat (2 : Int)) = some x ∧ W.cell? x = some (Value.int IntKind.u64
    (seenInt IntKind.u64 W (addOpt a (2 : Nat))))) ∧ (W = W ∧ ((((0 : Int) ≤ seenInt IntKind.u64 W (addOpt a (1 : Nat)) ∧ seenInt IntKind.u64 W (addOpt a (1 : Nat)) ≤
    (18446744073709551615 : Int)) ∧ (0 : Int) ≤ seenInt IntKind.u64 W (addOpt a (2 : Nat)) ∧ seenInt IntKind.u64 W (addOpt a (2 : Nat)) ≤ (18446744073709551615 : Int)) ∧ (∀ (z : Un),
    entB (seenInt IntKind.u64 W (addOpt a (0 : Nat))) (seenInt IntKind.u64 W (addOpt a (1 : Nat))) (seenInt IntKind.u64 W (addOpt a (2 : Nat))) = false → true = true ∧ some W = some W)
    ∧ (∀ (z : Un), entB (seenInt IntKind.u64 W (addOpt a (0 : Nat))) (seenInt IntKind.u64 W (addOpt a (1 : Nat))) (seenInt IntKind.u64 W (addOpt a (2 : Nat))) = true → ((true == ((0 :
    Int) == seenInt IntKind.u64 W (addOpt a (0 : Nat)) && ((0 : Int) == seenInt IntKind.u64 W (addOpt a (1 : Nat)) && ((0 : Int) == seenInt IntKind.u64 W (addOpt a (2 : Nat)) &&
    true)))) = true → false = true ∧ some W = some W) ∧ ((true == ((0 : Int) == seenInt IntKind.u64 W (addOpt a (0 : Nat)) && ((0 : Int) == seenInt IntKind.u64 W (addOpt a (1 : Nat)) &&
    ((0 : Int) == seenInt IntKind.u64 W (addOpt a (2 : Nat)) && true)))) = false → false = true ∧ some W = some W)) ∧ True) ∧ True) ∧ True)) ∧ (∀ (z : Un), entB (smF (seenInt
    IntKind.u64 W (addOpt a (0 : Nat)))) (seenInt IntKind.u64 W (addOpt a (1 : Nat))) (seenInt IntKind.u64 W (addOpt a (2 : Nat))) = true → ((↑len : Int) != (3 : Int)) = false ∧ ((0 :
    Int) ≤ (0 : Int) ∧ (0 : Int) < (↑len : Int) ∧ a.isSome = true) ∧ (∃ (x : Addr), addOpt a (Int.toNat (0 : Int)) = some x ∧ W.cell? x = some (Value.int IntKind.u64 (seenInt
    IntKind.u64 W (addOpt a (0 : Nat))))) ∧ (decide (seenInt IntKind.u64 W (addOpt a (0 : Nat)) > (254 : Int)) = true → ((true == (smF (seenInt IntKind.u64 W (addOpt a (0 : Nat))) == (0
    : Int) && (seenInt IntKind.u64 W (addOpt a (1 : Nat)) == (0 : Int) && (seenInt IntKind.u64 W (addOpt a (2 : Nat)) == (0 : Int) && true)))) = true → false = true ∧ some W = some W) ∧
    ((true == (smF (seenInt IntKind.u64 W (addOpt a (0 : Nat))) == (0 : Int) && (seenInt IntKind.u64 W (addOpt a (1 : Nat)) == (0 : Int) && (seenInt IntKind.u64 W (addOpt a (2 : Nat))
    == (0 : Int) && true)))) = false → false = true ∧ some W = some W)) ∧ (decide (seenInt IntKind.u64 W (addOpt a (0 : Nat)) > (254 : Int)) = false → ((0 : Int) ≤ (0 : Int) ∧ (0 : Int)
    < (↑len : Int) ∧ a.isSome = true) ∧ (∃ (x : Addr), addOpt a (Int.toNat (0 : Int)) = some x ∧ W.cell? x = some (Value.int IntKind.u64 (seenInt IntKind.u64 W (addOpt a (0 : Nat))))) ∧
    ((-9223372036854775808 : Int) ≤ seenInt IntKind.u64 W (addOpt a (0 : Nat)) ∧ seenInt IntKind.u64 W (addOpt a (0 : Nat)) ≤ (9223372036854775807 : Int)) ∧ ((0 : Int) ≤ (1 : Int) ∧ (1
    : Int) < (↑len : Int) ∧ a.isSome = true) ∧ (∃ (x : Addr), addOpt a (Int.toNat (1 : Int)) = some x ∧ W.cell? x = some (Value.int IntKind.u64 (seenInt IntKind.u64 W (addOpt a (1 :
    Nat))))) ∧ ((0 : Int) ≤ (2 : Int) ∧ (2 : Int) < (↑len : Int) ∧ a.isSome = true) ∧ (∃ (x : Addr), addOpt a (Int.toNat (2 : Int)) = some x ∧ W.cell? x = some (Value.int IntKind.u64
    (seenInt IntKind.u64 W (addOpt a (2 : Nat))))) ∧ (W = W ∧ ((((0 : Int) ≤ seenInt IntKind.u64 W (addOpt a (1 : Nat)) ∧ seenInt IntKind.u64 W (addOpt a (1 : Nat)) ≤
    (18446744073709551615 : Int)) ∧ (0 : Int) ≤ seenInt IntKind.u64 W (addOpt a (2 : Nat)) ∧ seenInt IntKind.u64 W (addOpt a (2 : Nat)) ≤ (18446744073709551615 : Int)) ∧ (∀ (z : Un),
    entB (seenInt IntKind.u64 W (addOpt a (0 : Nat))) (seenInt IntKind.u64 W (addOpt a (1 : Nat))) (seenInt IntKind.u64 W (addOpt a (2 : Nat))) = false → ((true == (smF (seenInt
    IntKind.u64 W (addOpt a (0 : Nat))) == (0 : Int) && (seenInt IntKind.u64 W (addOpt a (1 : Nat)) == (0 : Int) && (seenInt IntKind.u64 W (addOpt a (2 : Nat)) == (0 : Int) && true))))
    = true → false = true ∧ some W = some W) ∧ ((true == (smF (seenInt IntKind.u64 W (addOpt a (0 : Nat))) == (0 : Int) && (seenInt IntKind.u64 W (addOpt a (1 : Nat)) == (0 : Int) &&
    (seenInt IntKind.u64 W (addOpt a (2 : Nat)) == (0 : Int) && true)))) = false → false = true ∧ some W = some W)) ∧ (∀ (z : Un), entB (seenInt IntKind.u64 W (addOpt a (0 : Nat)))
    (seenInt IntKind.u64 W (addOpt a (1 : Nat))) (seenInt IntKind.u64 W (addOpt a (2 : Nat))) = true → ((true == (smF (seenInt IntKind.u64 W (addOpt a (0 : Nat))) == seenInt IntKind.u64
    W (addOpt a (0 : Nat)) && (seenInt IntKind.u64 W (addOpt a (1 : Nat)) == seenInt IntKind.u64 W (addOpt a (1 : Nat)) && (seenInt IntKind.u64 W (addOpt a (2 : Nat)) == seenInt
    IntKind.u64 W (addOpt a (2 : Nat)) && true)))) = true → true = true ∧ some W = some W) ∧ ((true == (smF (seenInt IntKind.u64 W (addOpt a (0 : Nat))) == seenInt IntKind.u64 W (addOpt
    a (0 : Nat)) && (seenInt IntKind.u64 W (addOpt a (1 : Nat)) == seenInt IntKind.u64 W (addOpt a (1 : Nat)) && (seenInt IntKind.u64 W (addOpt a (2 : Nat)) == seenInt IntKind.u64 W
    (addOpt a (2 : Nat)) && true)))) = false → false = true ∧ some W = some W)) ∧ True) ∧ True) ∧ True)) ∧ True) ∧ True) ∧ True) ∧ True) ∧ (∀ (K : KO XE), ((0 : Int) ≤ seenInt
    IntKind.u64 W (addOpt a (0 : Nat)) ∧ seenInt IntKind.u64 W (addOpt a (0 : Nat)) ≤ (18446744073709551615 : Int)) ∧ (∀ (z : Un), True → W = W ∧ (W = W ∧ K (SF.mk (31 : Nat) (ST.node
    (SV.c (SC.sliv a false len cap)) (ST.node (SV.tup []) (ST.node (SV.c (SC.boo true false)) (ST.node (SV.c (SC.sliv a false len cap)) (ST.node (SV.c (SC.sliv a false len cap)) ST.nil
    ST.nil) (ST.node (SV.tup []) ST.nil ST.nil)) (ST.node (SV.c (SC.sliv a false len cap)) (ST.node (SV.c (SC.ptv (addOpt a (Int.toNat (2 : Int))))) ST.nil ST.nil) (ST.node (SV.tup [])
    ST.nil ST.nil))) (ST.node (SV.tup []) (ST.node (SV.c (SC.boo true false)) (ST.node (SV.c (SC.int false IntKind.u64 (seenInt IntKind.u64 W (addOpt a (1 : Nat))) (Bd.w (0 : Int)
    (18446744073709551615 : Int) (seenInt_bd IntKind.u64 W (addOpt a (Int.toNat (1 : Int))))))) ST.nil ST.nil) (ST.node (SV.tup []) ST.nil ST.nil)) (ST.node (SV.c (SC.int false
    IntKind.u64 (seenInt IntKind.u64 W (addOpt a (0 : Nat))) (Bd.w (0 : Int) (18446744073709551615 : Int) (seenInt_bd IntKind.u64 W (addOpt a (Int.toNat (0 : Int))))))) (ST.node (SV.agg
    [SC.int false IntKind.i64 (smF (seenInt IntKind.u64 W (addOpt a (0 : Nat)))) Bd.any, SC.int false IntKind.u64 (seenInt IntKind.u64 W (addOpt a (1 : Nat))) (Bd.w (0 : Int)
    (18446744073709551615 : Int) (seenInt_bd IntKind.u64 W (addOpt a (Int.toNat (1 : Int))))), SC.int false IntKind.u64 (seenInt IntKind.u64 W (addOpt a (2 : Nat))) (Bd.w (0 : Int)
    (18446744073709551615 : Int) (seenInt_bd IntKind.u64 W (addOpt a (Int.toNat (2 : Int)))))]) ST.nil ST.nil) (ST.node (SV.tup []) ST.nil ST.nil)))) (ST.node (SV.c (SC.ptr (76 : Nat)
    (0 : Nat))) (ST.node (SV.c (SC.ptr (92 : Nat) (0 : Nat))) (ST.node (SV.c (SC.int false IntKind.i64 (↑len : Int))) (ST.node (SV.c (SC.ptv (addOpt a (Int.toNat (1 : Int))))) ST.nil
    ST.nil) (ST.node (SV.tup []) ST.nil ST.nil)) (ST.node (SV.c (SC.ptv (addOpt a (Int.toNat (0 : Int))))) (ST.node (SV.c (SC.int false IntKind.u64 (seenInt IntKind.u64 W (addOpt a (2 :
    Nat))) (Bd.w (0 : Int) (18446744073709551615 : Int) (seenInt_bd IntKind.u64 W (addOpt a (Int.toNat (2 : Int))))))) ST.nil ST.nil) (ST.node (SV.tup []) ST.nil ST.nil))) (ST.node
    (SV.tup []) (ST.node (SV.tup []) (ST.node (SV.c (SC.sliv a false len cap)) ST.nil ST.nil) (ST.node (SV.tup []) ST.nil ST.nil)) (ST.node (SV.c (SC.int false IntKind.i64 (smF (seenInt
    IntKind.u64 W (addOpt a (0 : Nat)))) Bd.any)) (ST.node (SV.tup []) ST.nil ST.nil) (ST.node (SV.tup []) ST.nil ST.nil))))) []) (Mem.mk [((0 : Nat), SO.seen W), ((10 : Nat), SO.cells
    [SC.int true IntKind.u64 (0 : Int), SC.int true IntKind.i64 (0 : Int), SC.int true IntKind.u64 (0 : Int), SC.int true IntKind.i64 (0 : Int), SC.int true IntKind.i64 (0 : Int),
    SC.int true IntKind.u64 (0 : Int), SC.int true IntKind.i64 (0 : Int)] (75 : Nat)), ((15 : Nat), SO.cells [SC.int true IntKind.u64 (0 : Int), SC.int true IntKind.i64 (0 : Int),
    SC.int true IntKind.u64 (0 : Int), SC.int true IntKind.i64 (0 : Int), SC.int true IntKind.i64 (0 : Int), SC.int true IntKind.u64 (0 : Int), SC.int true IntKind.i64 (0 : Int)] (75 :
    Nat)), ((30 : Nat), SO.cells [SC.int true IntKind.u64 (0 : Int), SC.int true IntKind.i64 (0 : Int), SC.int true IntKind.u64 (0 : Int), SC.int true IntKind.i64 (0 : Int), SC.int true
    IntKind.i64 (0 : Int), SC.int true IntKind.u64 (0 : Int), SC.int true IntKind.i64 (0 : Int)] (75 : Nat)), ((35 : Nat), SO.cells [SC.int true IntKind.u64 (0 : Int), SC.int true
    IntKind.i64 (0 : Int), SC.int true IntKind.u64 (0 : Int), SC.int true IntKind.i64 (0 : Int), SC.int true IntKind.i64 (0 : Int), SC.int true IntKind.u64 (0 : Int), SC.int true
    IntKind.i64 (0 : Int)] (75 : Nat)), ((76 : Nat), SO.cells [SC.int true IntKind.i64 (0 : Int), SC.int true IntKind.u64 (0 : Int), SC.int true IntKind.u64 (0 : Int)] (77 : Nat)), ((92
    : Nat), SO.cells [SC.int false IntKind.i64 (smF (seenInt IntKind.u64 W (addOpt a (0 : Nat)))) Bd.any, SC.int false IntKind.u64 (seenInt IntKind.u64 W (addOpt a (1 : Nat))) (Bd.w (0
    : Int) (18446744073709551615 : Int) (seenInt_bd IntKind.u64 W (addOpt a (Int.toNat (1 : Int))))), SC.int false IntKind.u64 (seenInt IntKind.u64 W (addOpt a (2 : Nat))) (Bd.w (0 :
    Int) (18446744073709551615 : Int) (seenInt_bd IntKind.u64 W (addOpt a (Int.toNat (2 : Int)))))] (77 : Nat))] (94 : Nat)) Scr.nil.f ∧ True) ∧ True) ∧ True → W = W ∧ (((0 : Int) ≤
    seenInt IntKind.u64 W (addOpt a (0 : Nat)) ∧ seenInt IntKind.u64 W (addOpt a (0 : Nat)) ≤ (18446744073709551615 : Int)) ∧ (∀ (z : Un), True → W = W ∧ K (SF.mk (31 : Nat) (ST.node
    (SV.c (SC.sliv a false len cap)) (ST.node (SV.tup []) (ST.node (SV.c (SC.boo true false)) (ST.node (SV.c (SC.sliv a false len cap)) (ST.node (SV.c (SC.sliv a false len cap)) ST.nil
    ST.nil) (ST.node (SV.tup []) ST.nil ST.nil)) (ST.node (SV.c (SC.sliv a false len cap)) (ST.node (SV.c (SC.ptv (addOpt a (Int.toNat (2 : Int))))) ST.nil ST.nil) (ST.node (SV.tup [])
    ST.nil ST.nil))) (ST.node (SV.tup []) (ST.node (SV.c (SC.boo true false)) (ST.node (SV.c (SC.int false IntKind.u64 (seenInt IntKind.u64 W (addOpt a (1 : Nat))) (Bd.w (0 : Int)
    (18446744073709551615 : Int) (seenInt_bd IntKind.u64 W (addOpt a (Int.toNat (1 : Int))))))) ST.nil ST.nil) (ST.node (SV.tup []) ST.nil ST.nil)) (ST.node (SV.c (SC.int false
    IntKind.u64 (seenInt IntKind.u64 W (addOpt a (0 : Nat))) (Bd.w (0 : Int) (18446744073709551615 : Int) (seenInt_bd IntKind.u64 W (addOpt a (Int.toNat (0 : Int))))))) (ST.node (SV.agg
    [SC.int false IntKind.i64 (smF (seenInt IntKind.u64 W (addOpt a (0 : Nat)))) Bd.any, SC.int false IntKind.u64 (seenInt IntKind.u64 W (addOpt a (1 : Nat))) (Bd.w (0 : Int)
    (18446744073709551615 : Int) (seenInt_bd IntKind.u64 W (addOpt a (Int.toNat (1 : Int))))), SC.int false IntKind.u64 (seenInt IntKind.u64 W (addOpt a (2 : Nat))) (Bd.w (0 : Int)
    (18446744073709551615 : Int) (seenInt_bd IntKind.u64 W (addOpt a (Int.toNat (2 : Int)))))]) ST.nil ST.nil) (ST.node (SV.tup []) ST.nil ST.nil)))) (ST.node (SV.c (SC.ptr (76 : Nat)
    (0 : Nat))) (ST.node (SV.c (SC.ptr (92 : Nat) (0 : Nat))) (ST.node (SV.c (SC.int false IntKind.i64 (↑len : Int))) (ST.node (SV.c (SC.ptv (addOpt a (Int.toNat (1 : Int))))) ST.nil
    ST.nil) (ST.node (SV.tup []) ST.nil ST.nil)) (ST.node (SV.c (SC.ptv (addOpt a (Int.toNat (0 : Int))))) (ST.node (SV.c (SC.int false IntKind.u64 (seenInt IntKind.u64 W (addOpt a (2 :
    Nat))) (Bd.w (0 : Int) (18446744073709551615 : Int) (seenInt_bd IntKind.u64 W (addOpt a (Int.toNat (2 : Int))))))) ST.nil ST.nil) (ST.node (SV.tup []) ST.nil ST.nil))) (ST.node
    (SV.tup []) (ST.node (SV.tup []) (ST.node (SV.c (SC.sliv a false len cap)) ST.nil ST.nil) (ST.node (SV.tup []) ST.nil ST.nil)) (ST.node (SV.c (SC.int false IntKind.i64 (smF (seenInt
    IntKind.u64 W (addOpt a (0 : Nat)))) Bd.any)) (ST.node (SV.tup []) ST.nil ST.nil) (ST.node (SV.tup []) ST.nil ST.nil))))) []) (Mem.mk [((0 : Nat), SO.seen W), ((10 : Nat), SO.cells
    [SC.int true IntKind.u64 (0 : Int), SC.int true IntKind.i64 (0 : Int), SC.int true IntKind.u64 (0 : Int), SC.int true IntKind.i64 (0 : Int), SC.int true IntKind.i64 (0 : Int),
    SC.int true IntKind.u64 (0 : Int), SC.int true IntKind.i64 (0 : Int)] (75 : Nat)), ((15 : Nat), SO.cells [SC.int true IntKind.u64 (0 : Int), SC.int true IntKind.i64 (0 : Int),
    SC.int true IntKind.u64 (0 : Int), SC.int true IntKind.i64 (0 : Int), SC.int true IntKind.i64 (0 : Int), SC.int true IntKind.u64 (0 : Int), SC.int true IntKind.i64 (0 : Int)] (75 :
    Nat)), ((30 : Nat), SO.cells [SC.int true IntKind.u64 (0 : Int), SC.int true IntKind.i64 (0 : Int), SC.int true IntKind.u64 (0 : Int), SC.int true IntKind.i64 (0 : Int), SC.int true
    IntKind.i64 (0 : Int), SC.int true IntKind.u64 (0 : Int), SC.int true IntKind.i64 (0 : Int)] (75 : Nat)), ((35 : Nat), SO.cells [SC.int true IntKind.u64 (0 : Int), SC.int true
    IntKind.i64 (0 : Int), SC.int true IntKind.u64 (0 : Int), SC.int true IntKind.i64 (0 : Int), SC.int true IntKind.i64 (0 : Int), SC.int true IntKind.u64 (0 : Int), SC.int true
    IntKind.i64 (0 : Int)] (75 : Nat)), ((76 : Nat), SO.cells [SC.int true IntKind.i64 (0 : Int), SC.int true IntKind.u64 (0 : Int), SC.int true IntKind.u64 (0 : Int)] (77 : Nat)), ((92
    : Nat), SO.cells [SC.int false IntKind.i64 (smF (seenInt IntKind.u64 W (addOpt a (0 : Nat)))) Bd.any, SC.int false IntKind.u64 (seenInt IntKind.u64 W (addOpt a (1 : Nat))) (Bd.w (0
    : Int) (18446744073709551615 : Int) (seenInt_bd IntKind.u64 W (addOpt a (Int.toNat (1 : Int))))), SC.int false IntKind.u64 (seenInt IntKind.u64 W (addOpt a (2 : Nat))) (Bd.w (0 :
    Int) (18446744073709551615 : Int) (seenInt_bd IntKind.u64 W (addOpt a (Int.toNat (2 : Int)))))] (77 : Nat))] (94 : Nat)) Scr.nil.f ∧ True) ∧ True) ∧ True) ∧ True)) ∧ (((↑len : Int)
    != (8 : Int)) = false → ((0 : Int) ≤ (1 : Int) ∧ (1 : Int) < (↑len : Int) ∧ a.isSome = true) ∧ (∃ (x : Addr), addOpt a (Int.toNat (1 : Int)) = some x ∧ W.cell? x = some (Value.int
    IntKind.u64 (seenInt IntKind.u64 W (addOpt a (1 : Nat))))) ∧ ((0 : Int) ≤ (2 : Int) ∧ (2 : Int) < (↑len : Int) ∧ a.isSome = true) ∧ (∃ (x : Addr), addOpt a (Int.toNat (2 : Int)) =
    some x ∧ W.cell? x = some (Value.int IntKind.u64 (seenInt IntKind.u64 W (addOpt a (2 : Nat))))) ∧ ((0 : Int) ≤ (3 : Int) ∧ (3 : Int) < (↑len : Int) ∧ a.isSome = true) ∧ (∃ (x :
    Addr), addOpt a (Int.toNat (3 : Int)) = some x ∧ W.cell? x = some (Value.int IntKind.u64 (seenInt IntKind.u64 W (addOpt a (3 : Nat))))) ∧ ((0 : Int) ≤ (4 : Int) ∧ (4 : Int) < (↑len
    : Int) ∧ a.isSome = true) ∧ (∃ (x : Addr), addOpt a (Int.toNat (4 : Int)) = some x ∧ W.cell? x = some (Value.int IntKind.u64 (seenInt IntKind.u64 W (addOpt a (4 : Nat))))) ∧ ((0 :
    Int) ≤ (5 : Int) ∧ (5 : Int) < (↑len : Int) ∧ a.isSome = true) ∧ (∃ (x : Addr), addOpt a (Int.toNat (5 : Int)) = some x ∧ W.cell? x = some (Value.int IntKind.u64 (seenInt
    IntKind.u64 W (addOpt a (5 : Nat))))) ∧ ((0 : Int) ≤ (6 : Int) ∧ (6 : Int) < (↑len : Int) ∧ a.isSome = true) ∧ (∃ (x : Addr), addOpt a (Int.toNat (6 : Int)) = some x ∧ W.cell? x =
    some (Value.int IntKind.u64 (seenInt IntKind.u64 W (addOpt a (6 : Nat))))) ∧ ((0 : Int) ≤ (7 : Int) ∧ (7 : Int) < (↑len : Int) ∧ a.isSome = true) ∧ (∃ (x : Addr), addOpt a
    (Int.toNat (7 : Int)) = some x ∧ W.cell? x = some (Value.int IntKind.u64 (seenInt IntKind.u64 W (addOpt a (7 : Nat))))) ∧ (((0 : Int) ≤ seenInt IntKind.u64 W (addOpt a (2 : Nat)) ∧
    seenInt IntKind.u64 W (addOpt a (2 : Nat)) ≤ (18446744073709551615 : Int)) ∧ (∀ (z : Un), True → W = W ∧ (((0 : Int) ≤ seenInt IntKind.u64 W (addOpt a (4 : Nat)) ∧ seenInt
    IntKind.u64 W (addOpt a (4 : Nat)) ≤ (18446744073709551615 : Int)) ∧ (∀ (z : Un), True → W = W ∧ (((0 : Int) ≤ seenInt IntKind.u64 W (addOpt a (5 : Nat)) ∧ seenInt IntKind.u64 W
    (addOpt a (5 : Nat)) ≤ (18446744073709551615 : Int)) ∧ (∀ (z : Un), True → W = W ∧ (((0 : Int) ≤ seenInt IntKind.u64 W (addOpt a (7 : Nat)) ∧ seenInt IntKind.u64 W (addOpt a (7 :
    Nat)) ≤ (18446744073709551615 : Int)) ∧ (∀ (z : Un), True → W = W ∧ (W = W ∧ (((0 : Int) ≤ (0 : Int) ∧ (0 : Int) < (↑len : Int) ∧ a.isSome = true) ∧ (∃ (x : Addr), addOpt a
    (Int.toNat (0 : Int)) = some x ∧ W.cell? x = some (Value.int IntKind.u64 (seenInt IntKind.u64 W (addOpt a (0 : Nat))))) ∧ ((((0 : Int) ≤ seenInt IntKind.u64 W (addOpt a (0 : Nat)) ∧
    seenInt IntKind.u64 W (addOpt a (0 : Nat)) ≤ (18446744073709551615 : Int)) ∧ ((0 : Int) ≤ seenInt IntKind.u64 W (addOpt a (1 : Nat)) ∧ seenInt IntKind.u64 W (addOpt a (1 : Nat)) ≤
    (18446744073709551615 : Int)) ∧ ((0 : Int) ≤ seenInt IntKind.u64 W (addOpt a (3 : Nat)) ∧ seenInt IntKind.u64 W (addOpt a (3 : Nat)) ≤ (18446744073709551615 : Int)) ∧ (0 : Int) ≤
    seenInt IntKind.u64 W (addOpt a (6 : Nat)) ∧ seenInt IntKind.u64 W (addOpt a (6 : Nat)) ≤ (18446744073709551615 : Int)) ∧ (∀ (z : Un), headB (seenInt IntKind.u64 W (addOpt a (0 :
    Nat))) (seenInt IntKind.u64 W (addOpt a (1 : Nat))) (smF (seenInt IntKind.u64 W (addOpt a (2 : Nat)))) (seenInt IntKind.u64 W (addOpt a (3 : Nat))) (smF (seenInt IntKind.u64 W
    (addOpt a (4 : Nat)))) (smF (seenInt IntKind.u64 W (addOpt a (5 : Nat)))) (seenInt IntKind.u64 W (addOpt a (6 : Nat))) (smF (seenInt IntKind.u64 W (addOpt a (7 : Nat)))) = false →
    ((↑len : Int) != (8 : Int)) = false ∧ ((0 : Int) ≤ (2 : Int) ∧ (2 : Int) < (↑len : Int) ∧ a.isSome = true) ∧ (∃ (x : Addr), addOpt a (Int.toNat (2 : Int)) = some x ∧ W.cell? x =
    some (Value.int IntKind.u64 (seenInt IntKind.u64 W (addOpt a (2 : Nat))))) ∧ (decide (seenInt IntKind.u64 W (addOpt a (2 : Nat)) > (256 : Int)) = true → ((↑len : Int) != (3 : Int))
    = true ∧ ((↑len : Int) != (3 : Int)) = true ∧ true = true ∧ some W = some W) ∧ (decide (seenInt IntKind.u64 W (addOpt a (2 : Nat)) > (256 : Int)) = false → ((0 : Int) ≤ (4 : Int) ∧
    (4 : Int) < (↑len : Int) ∧ a.isSome = true) ∧ (∃ (x : Addr), addOpt a (Int.toNat (4 : Int)) = some x ∧ W.cell? x = some (Value.int IntKind.u64 (seenInt IntKind.u64 W (addOpt a (4 :
    Nat))))) ∧ (decide (seenInt IntKind.u64 W (addOpt a (4 : Nat)) > (255 : Int)) = true → ((↑len : Int) != (3 : Int)) = true ∧ ((↑len : Int) != (3 : Int)) = true ∧ true = true ∧ some W
    = some W) ∧ (decide (seenInt IntKind.u64 W (addOpt a (4 : Nat)) > (255 : Int)) = false → ((0 : Int) ≤ (5 : Int) ∧ (5 : Int) < (↑len : Int) ∧ a.isSome = true) ∧ (∃ (x : Addr), addOpt
    a (Int.toNat (5 : Int)) = some x ∧ W.cell? x = some (Value.int IntKind.u64 (seenInt IntKind.u64 W (addOpt a (5 : Nat))))) ∧ (decide (seenInt IntKind.u64 W (addOpt a (5 : Nat)) >
    (256 : Int)) = true → ((↑len : Int) != (3 : Int)) = true ∧ ((↑len : Int) != (3 : Int)) = true ∧ true = true ∧ some W = some W) ∧ (decide (seenInt IntKind.u64 W (addOpt a (5 : Nat))
    > (256 : Int)) = false → ((0 : Int) ≤ (7 : Int) ∧ (7 : Int) < (↑len : Int) ∧ a.isSome = true) ∧ (∃ (x : Addr), addOpt a (Int.toNat (7 : Int)) = some x ∧ W.cell? x = some (Value.int
    IntKind.u64 (seenInt IntKind.u64 W (addOpt a (7 : Nat))))) ∧ (decide (seenInt IntKind.u64 W (addOpt a (7 : Nat)) > (256 : Int)) = true → ((↑len : Int) != (3 : Int)) = true ∧ ((↑len
    : Int) != (3 : Int)) = true ∧ true = true ∧ some W = some W) ∧ (decide (seenInt IntKind.u64 W (addOpt a (7 : Nat)) > (256 : Int)) = false → ((0 : Int) ≤ (1 : Int) ∧ (1 : Int) <
    (↑len : Int) ∧ a.isSome = true) ∧ (∃ (x : Addr), addOpt a (Int.toNat (1 : Int)) = some x ∧ W.cell? x = some (Value.int IntKind.u64 (seenInt IntKind.u64 W (addOpt a (1 : Nat))))) ∧
    ((0 : Int) ≤ (2 : Int) ∧ (2 : Int) < (↑len : Int) ∧ a.isSome = true) ∧ (∃ (x : Addr), addOpt a (Int.toNat (2 : Int)) = some x ∧ W.cell? x = some (Value.int IntKind.u64 (seenInt
    IntKind.u64 W (addOpt a (2 : Nat))))) ∧ ((-9223372036854775808 : Int) ≤ seenInt IntKind.u64 W (addOpt a (2 : Nat)) ∧ seenInt IntKind.u64 W (addOpt a (2 : Nat)) ≤
    (9223372036854775807 : Int)) ∧ ((0 : Int) ≤ (3 : Int) ∧ (3 : Int) < (↑len : Int) ∧ a.isSome = true) ∧ (∃ (x : Addr), addOpt a (Int.toNat (3 : Int)) = some x ∧ W.cell? x = some
    (Value.int IntKind.u64 (seenInt IntKind.u64 W (addOpt a (3 : Nat))))) ∧ ((0 : Int) ≤ (4 : Int) ∧ (4 : Int) < (↑len : Int) ∧ a.isSome = true) ∧ (∃ (x : Addr), addOpt a (Int.toNat (4
    : Int)) = some x ∧ W.cell? x = some (Value.int IntKind.u64 (seenInt IntKind.u64 W (addOpt a (4 : Nat))))) ∧ ((-9223372036854775808 : Int) ≤ seenInt IntKind.u64 W (addOpt a (4 :
    Nat)) ∧ seenInt IntKind.u64 W (addOpt a (4 : Nat)) ≤ (9223372036854775807 : Int)) ∧ ((0 : Int) ≤ (5 : Int) ∧ (5 : Int) < (↑len : Int) ∧ a.isSome = true) ∧ (∃ (x : Addr), addOpt a
    (Int.toNat (5 : Int)) = some x ∧ W.cell? x = some (Value.int IntKind.u64 (seenInt IntKind.u64 W (addOpt a (5 : Nat))))) ∧ ((-9223372036854775808 : Int) ≤ seenInt IntKind.u64 W
    (addOpt a (5 : Nat)) ∧ seenInt IntKind.u64 W (addOpt a (5 : Nat)) ≤ (9223372036854775807 : Int)) ∧ ((0 : Int) ≤ (6 : Int) ∧ (6 : Int) < (↑len : Int) ∧ a.isSome = true) ∧ (∃ (x :
    Addr), addOpt a (Int.toNat (6 : Int)) = some x ∧ W.cell? x = some (Value.int IntKind.u64 (seenInt IntKind.u64 W (addOpt a (6 : Nat))))) ∧ ((0 : Int) ≤ (7 : Int) ∧ (7 : Int) < (↑len
    : Int) ∧ a.isSome = true) ∧ (∃ (x : Addr), addOpt a (Int.toNat (7 : Int)) = some x ∧ W.cell? x = some (Value.int IntKind.u64 (seenInt IntKind.u64 W (addOpt a (7 : Nat))))) ∧
    ((-9223372036854775808 : Int) ≤ seenInt IntKind.u64 W (addOpt a (7 : Nat)) ∧ seenInt IntKind.u64 W (addOpt a (7 : Nat)) ≤ (9223372036854775807 : Int)) ∧ (W = W ∧ (((0 : Int) ≤ (0 :
    Int) ∧ (0 : Int) < (↑len : Int) ∧ a.isSome = true) ∧ (∃ (x : Addr), addOpt a (Int.toNat (0 : Int)) = some x ∧ W.cell? x = some (Value.int IntKind.u64 (seenInt IntKind.u64 W (addOpt
    a (0 : Nat))))) ∧ ((((0 : Int) ≤ seenInt IntKind.u64 W (addOpt a (0 : Nat)) ∧ seenInt IntKind.u64 W (addOpt a (0 : Nat)) ≤ (18446744073709551615 : Int)) ∧ ((0 : Int) ≤ seenInt
    IntKind.u64 W (addOpt a (1 : Nat)) ∧ seenInt IntKind.u64 W (addOpt a (1 : Nat)) ≤ (18446744073709551615 : Int)) ∧ ((0 : Int) ≤ seenInt IntKind.u64 W (addOpt a (3 : Nat)) ∧ seenInt
    IntKind.u64 W (addOpt a (3 : Nat)) ≤ (18446744073709551615 : Int)) ∧ (0 : Int) ≤ seenInt IntKind.u64 W (addOpt a (6 : Nat)) ∧ seenInt IntKind.u64 W (addOpt a (6 : Nat)) ≤
    (18446744073709551615 : Int)) ∧ (∀ (z : Un), headB (seenInt IntKind.u64 W (addOpt a (0 : Nat))) (seenInt IntKind.u64 W (addOpt a (1 : Nat))) (seenInt IntKind.u64 W (addOpt a (2 :
    Nat))) (seenInt IntKind.u64 W (addOpt a (3 : Nat))) (seenInt IntKind.u64 W (addOpt a (4 : Nat))) (seenInt IntKind.u64 W (addOpt a (5 : Nat))) (seenInt IntKind.u64 W (addOpt a (6 :
    Nat))) (seenInt IntKind.u64 W (addOpt a (7 : Nat))) = false → ((↑len : Int) != (3 : Int)) = true ∧ ((↑len : Int) != (3 : Int)) = true ∧ true = true ∧ some W = some W) ∧ (∀ (z : Un),
    headB (seenInt IntKind.u64 W (addOpt a (0 : Nat))) (seenInt IntKind.u64 W (addOpt a (1 : Nat))) (seenInt IntKind.u64 W (addOpt a (2 : Nat))) (seenInt IntKind.u64 W (addOpt a (3 :
    Nat))) (seenInt IntKind.u64 W (addOpt a (4 : Nat))) (seenInt IntKind.u64 W (addOpt a (5 : Nat))) (seenInt IntKind.u64 W (addOpt a (6 : Nat))) (seenInt IntKind.u64 W (addOpt a (7 :
    Nat))) = true → ((0 : Int) ≤ (0 : Int) ∧ (0 : Int) < (↑len : Int) ∧ a.isSome = true) ∧ (∃ (x : Addr), addOpt a (Int.toNat (0 : Int)) = some x ∧ W.cell? x = some (Value.int
    IntKind.u64 (seenInt IntKind.u64 W (addOpt a (0 : Nat))))) ∧ (((↑len : Int) != (3 : Int)) = true ∧ ((↑len : Int) != (3 : Int)) = true ∧ (((0 : Int) == seenInt IntKind.u64 W (addOpt
    a (0 : Nat))) = true → ((true == ((0 : Int) == seenInt IntKind.u64 W (addOpt a (1 : Nat)) && ((0 : Int) == seenInt IntKind.u64 W (addOpt a (2 : Nat)) && ((0 : Int) == seenInt
    IntKind.u64 W (addOpt a (3 : Nat)) && ((0 : Int) == seenInt IntKind.u64 W (addOpt a (4 : Nat)) && ((0 : Int) == seenInt IntKind.u64 W (addOpt a (5 : Nat)) && ((0 : Int) == seenInt
    IntKind.u64 W (addOpt a (6 : Nat)) && ((0 : Int) == seenInt IntKind.u64 W (addOpt a (7 : Nat)) && true)))))))) = true → false = true ∧ some W = some W) ∧ ((true == ((0 : Int) ==
    seenInt IntKind.u64 W (addOpt a (1 : Nat)) && ((0 : Int) == seenInt IntKind.u64 W (addOpt a (2 : Nat)) && ((0 : Int) == seenInt IntKind.u64 W (addOpt a (3 : Nat)) && ((0 : Int) ==
    seenInt IntKind.u64 W (addOpt a (4 : Nat)) && ((0 : Int) == seenInt IntKind.u64 W (addOpt a (5 : Nat)) && ((0 : Int) == seenInt IntKind.u64 W (addOpt a (6 : Nat)) && ((0 : Int) ==
    seenInt IntKind.u64 W (addOpt a (7 : Nat)) && true)))))))) = false → false = true ∧ some W = some W)) ∧ (((0 : Int) == seenInt IntKind.u64 W (addOpt a (0 : Nat))) = false → false =
    true ∧ some W = some W)) ∧ True) ∧ True) ∧ True) ∧ True) ∧ True))))) ∧ (∀ (z : Un), headB (seenInt IntKind.u64 W (addOpt a (0 : Nat))) (seenInt IntKind.u64 W (addOpt a (1 : Nat)))
    (smF (seenInt IntKind.u64 W (addOpt a (2 : Nat)))) (seenInt IntKind.u64 W (addOpt a (3 : Nat))) (smF (seenInt IntKind.u64 W (addOpt a (4 : Nat)))) (smF (seenInt IntKind.u64 W
    (addOpt a (5 : Nat)))) (seenInt IntKind.u64 W (addOpt a (6 : Nat))) (smF (seenInt IntKind.u64 W (addOpt a (7 : Nat)))) = true → ((0 : Int) ≤ (0 : Int) ∧ (0 : Int) < (↑len : Int) ∧
    a.isSome = true) ∧ (∃ (x : Addr), addOpt a (Int.toNat (0 : Int)) = some x ∧ W.cell? x = some (Value.int IntKind.u64 (seenInt IntKind.u64 W (addOpt a (0 : Nat))))) ∧ (((↑len : Int)
    != (8 : Int)) = false ∧ ((0 : Int) ≤ (2 : Int) ∧ (2 : Int) < (↑len : Int) ∧ a.isSome = true) ∧ (∃ (x : Addr), addOpt a (Int.toNat (2 : Int)) = some x ∧ W.cell? x = some (Value.int
    IntKind.u64 (seenInt IntKind.u64 W (addOpt a (2 : Nat))))) ∧ (decide (seenInt IntKind.u64 W (addOpt a (2 : Nat)) > (256 : Int)) = true → ((↑len : Int) != (3 : Int)) = true ∧ ((↑len
    : Int) != (3 : Int)) = true ∧ ((seenInt IntKind.u64 W (addOpt a (0 : Nat)) == (0 : Int)) = true → ((true == (seenInt IntKind.u64 W (addOpt a (1 : Nat)) == (0 : Int) && (smF (seenInt
    IntKind.u64 W (addOpt a (2 : Nat))) == (0 : Int) && (seenInt IntKind.u64 W (addOpt a (3 : Nat)) == (0 : Int) && (smF (seenInt IntKind.u64 W (addOpt a (4 : Nat))) == (0 : Int) &&
    (smF (seenInt IntKind.u64 W (addOpt a (5 : Nat))) == (0 : Int) && (seenInt IntKind.u64 W (addOpt a (6 : Nat)) == (0 : Int) && (smF (seenInt IntKind.u64 W (addOpt a (7 : Nat))) == (0
    : Int) && true)))))))) = true → false = true ∧ some W = some W) ∧ ((true == (seenInt IntKind.u64 W (addOpt a (1 : Nat)) == (0 : Int) && (smF (seenInt IntKind.u64 W (addOpt a (2 :
    Nat))) == (0 : Int) && (seenInt IntKind.u64 W (addOpt a (3 : Nat)) == (0 : Int) && (smF (seenInt IntKind.u64 W (addOpt a (4 : Nat))) == (0 : Int) && (smF (seenInt IntKind.u64 W
    (addOpt a (5 : Nat))) == (0 : Int) && (seenInt IntKind.u64 W (addOpt a (6 : Nat)) == (0 : Int) && (smF (seenInt IntKind.u64 W (addOpt a (7 : Nat))) == (0 : Int) && true)))))))) =
    false → false = true ∧ some W = some W)) ∧ ((seenInt IntKind.u64 W (addOpt a (0 : Nat)) == (0 : Int)) = false → false = true ∧ some W = some W)) ∧ (decide (seenInt IntKind.u64 W
    (addOpt a (2 : Nat)) > (256 : Int)) = false → ((0 : Int) ≤ (4 : Int) ∧ (4 : Int) < (↑len : Int) ∧ a.isSome = true) ∧ (∃ (x : Addr), addOpt a (Int.toNat (4 : Int)) = some x ∧ W.cell?
    x = some (Value.int IntKind.u64 (seenInt IntKind.u64 W (addOpt a (4 : Nat))))) ∧ (decide (seenInt IntKind.u64 W (addOpt a (4 : Nat)) > (255 : Int)) = true → ((↑len : Int) != (3 :
    Int)) = true ∧ ((↑len : Int) != (3 : Int)) = true ∧ ((seenInt IntKind.u64 W (addOpt a (0 : Nat)) == (0 : Int)) = true → ((true == (seenInt IntKind.u64 W (addOpt a (1 : Nat)) == (0 :
    Int) && (smF (seenInt IntKind.u64 W (addOpt a (2 : Nat))) == (0 : Int) && (seenInt IntKind.u64 W (addOpt a (3 : Nat)) == (0 : Int) && (smF (seenInt IntKind.u64 W (addOpt a (4 :
    Nat))) == (0 : Int) && (smF (seenInt IntKind.u64 W (addOpt a (5 : Nat))) == (0 : Int) && (seenInt IntKind.u64 W (addOpt a (6 : Nat)) == (0 : Int) && (smF (seenInt IntKind.u64 W
    (addOpt a (7 : Nat))) == (0 : Int) && true)))))))) = true → false = true ∧ some W = some W) ∧ ((true == (seenInt IntKind.u64 W (addOpt a (1 : Nat)) == (0 : Int) && (smF (seenInt
    IntKind.u64 W (addOpt a (2 : Nat))) == (0 : Int) && (seenInt IntKind.u64 W (addOpt a (3 : Nat)) == (0 : Int) && (smF (seenInt IntKind.u64 W (addOpt a (4 : Nat))) == (0 : Int) &&
    (smF (seenInt IntKind.u64 W (addOpt a (5 : Nat))) == (0 : Int) && (seenInt IntKind.u64 W (addOpt a (6 : Nat)) == (0 : Int) && (smF (seenInt IntKind.u64 W (addOpt a (7 : Nat))) == (0
    : Int) && true)))))))) = false → false = true ∧ some W = some W)) ∧ ((seenInt IntKind.u64 W (addOpt a (0 : Nat)) == (0 : Int)) = false → false = true ∧ some W = some W)) ∧ (decide
    (seenInt IntKind.u64 W (addOpt a (4 : Nat)) > (255 : Int)) = false → ((0 : Int) ≤ (5 : Int) ∧ (5 : Int) < (↑len : Int) ∧ a.isSome = true) ∧ (∃ (x : Addr), addOpt a (Int.toNat (5 :
    Int)) = some x ∧ W.cell? x = some (Value.int IntKind.u64 (seenInt IntKind.u64 W (addOpt a (5 : Nat))))) ∧ (decide (seenInt IntKind.u64 W (addOpt a (5 : Nat)) > (256 : Int)) = true →
    ((↑len : Int) != (3 : Int)) = true ∧ ((↑len : Int) != (3 : Int)) = true ∧ ((seenInt IntKind.u64 W (addOpt a (0 : Nat)) == (0 : Int)) = true → ((true == (seenInt IntKind.u64 W
    (addOpt a (1 : Nat)) == (0 : Int) && (smF (seenInt IntKind.u64 W (addOpt a (2 : Nat))) == (0 : Int) && (seenInt IntKind.u64 W (addOpt a (3 : Nat)) == (0 : Int) && (smF (seenInt
    IntKind.u64 W (addOpt a (4 : Nat))) == (0 : Int) && (smF (seenInt IntKind.u64 W (addOpt a (5 : Nat))) == (0 : Int) && (seenInt IntKind.u64 W (addOpt a (6 : Nat)) == (0 : Int) &&
    (smF (seenInt IntKind.u64 W (addOpt a (7 : Nat))) == (0 : Int) && true)))))))) = true → false = true ∧ some W = some W) ∧ ((true == (seenInt IntKind.u64 W (addOpt a (1 : Nat)) == (0
    : Int) && (smF (seenInt IntKind.u64 W (addOpt a (2 : Nat))) == (0 : Int) && (seenInt IntKind.u64 W (addOpt a (3 : Nat)) == (0 : Int) && (smF (seenInt IntKind.u64 W (addOpt a (4 :
    Nat))) == (0 : Int) && (smF (seenInt IntKind.u64 W (addOpt a (5 : Nat))) == (0 : Int) && (seenInt IntKind.u64 W (addOpt a (6 : Nat)) == (0 : Int) && (smF (seenInt IntKind.u64 W
    (addOpt a (7 : Nat))) == (0 : Int) && true)))))))) = false → false = true ∧ some W = some W)) ∧ ((seenInt IntKind.u64 W (addOpt a (0 : Nat)) == (0 : Int)) = false → false = true ∧
    some W = some W)) ∧ (decide (seenInt IntKind.u64 W (addOpt a (5 : Nat)) > (256 : Int)) = false → ((0 : Int) ≤ (7 : Int) ∧ (7 : Int) < (↑len : Int) ∧ a.isSome = true) ∧ (∃ (x :
    Addr), addOpt a (Int.toNat (7 : Int)) = some x ∧ W.cell? x = some (Value.int IntKind.u64 (seenInt IntKind.u64 W (addOpt a (7 : Nat))))) ∧ (decide (seenInt IntKind.u64 W (addOpt a (7
    : Nat)) > (256 : Int)) = true → ((↑len : Int) != (3 : Int)) = true ∧ ((↑len : Int) != (3 : Int)) = true ∧ ((seenInt IntKind.u64 W (addOpt a (0 : Nat)) == (0 : Int)) = true → ((true
    == (seenInt IntKind.u64 W (addOpt a (1 : Nat)) == (0 : Int) && (smF (seenInt IntKind.u64 W (addOpt a (2 : Nat))) == (0 : Int) && (seenInt IntKind.u64 W (addOpt a (3 : Nat)) == (0 :
    Int) && (smF (seenInt IntKind.u64 W (addOpt a (4 : Nat))) == (0 : Int) && (smF (seenInt IntKind.u64 W (addOpt a (5 : Nat))) == (0 : Int) && (seenInt IntKind.u64 W (addOpt a (6 :
    Nat)) == (0 : Int) && (smF (seenInt IntKind.u64 W (addOpt a (7 : Nat))) == (0 : Int) && true)))))))) = true → false = true ∧ some W = some W) ∧ ((true == (seenInt IntKind.u64 W
    (addOpt a (1 : Nat)) == (0 : Int) && (smF (seenInt IntKind.u64 W (addOpt a (2 : Nat))) == (0 : Int) && (seenInt IntKind.u64 W (addOpt a (3 : Nat)) == (0 : Int) && (smF (seenInt
    IntKind.u64 W (addOpt a (4 : Nat))) == (0 : Int) && (smF (seenInt IntKind.u64 W (addOpt a (5 : Nat))) == (0 : Int) && (seenInt IntKind.u64 W (addOpt a (6 : Nat)) == (0 : Int) &&
    (smF (seenInt IntKind.u64 W (addOpt a (7 : Nat))) == (0 : Int) && true)))))))) = false → false = true ∧ some W = some W)) ∧ ((seenInt IntKind.u64 W (addOpt a (0 : Nat)) == (0 :
    Int)) = false → false = true ∧ some W = some W)) ∧ (decide (seenInt IntKind.u64 W (addOpt a (7 : Nat)) > (256 : Int)) = false → ((0 : Int) ≤ (1 : Int) ∧ (1 : Int) < (↑len : Int) ∧
    a.isSome = true) ∧ (∃ (x : Addr), addOpt a (Int.toNat (1 : Int)) = some x ∧ W.cell? x = some (Value.int IntKind.u64 (seenInt IntKind.u64 W (addOpt a (1 : Nat))))) ∧ ((0 : Int) ≤ (2
    : Int) ∧ (2 : Int) < (↑len : Int) ∧ a.isSome = true) ∧ (∃ (x : Addr), addOpt a (Int.toNat (2 : Int)) = some x ∧ W.cell? x = some (Value.int IntKind.u64 (seenInt IntKind.u64 W
    (addOpt a (2 : Nat))))) ∧ ((-9223372036854775808 : Int) ≤ seenInt IntKind.u64 W (addOpt a (2 : Nat)) ∧ seenInt IntKind.u64 W (addOpt a (2 : Nat)) ≤ (9223372036854775807 : Int)) ∧
    ((0 : Int) ≤ (3 : Int) ∧ (3 : Int) < (↑len : Int) ∧ a.isSome = true) ∧ (∃ (x : Addr), addOpt a (Int.toNat (3 : Int)) = some x ∧ W.cell? x = some (Value.int IntKind.u64 (seenInt
    IntKind.u64 W (addOpt a (3 : Nat))))) ∧ ((0 : Int) ≤ (4 : Int) ∧ (4 : Int) < (↑len : Int) ∧ a.isSome = true) ∧ (∃ (x : Addr), addOpt a (Int.toNat (4 : Int)) = some x ∧ W.cell? x =
    some (Value.int IntKind.u64 (seenInt IntKind.u64 W (addOpt a (4 : Nat))))) ∧ ((-9223372036854775808 : Int) ≤ seenInt IntKind.u64 W (addOpt a (4 : Nat)) ∧ seenInt IntKind.u64 W
    (addOpt a (4 : Nat)) ≤ (9223372036854775807 : Int)) ∧ ((0 : Int) ≤ (5 : Int) ∧ (5 : Int) < (↑len : Int) ∧ a.isSome = true) ∧ (∃ (x : Addr), addOpt a (Int.toNat (5 : Int)) = some x ∧
    W.cell? x = some (Value.int IntKind.u64 (seenInt IntKind.u64 W (addOpt a (5 : Nat))))) ∧ ((-9223372036854775808 : Int) ≤ seenInt IntKind.u64 W (addOpt a (5 : Nat)) ∧ seenInt
    IntKind.u64 W (addOpt a (5 : Nat)) ≤ (9223372036854775807 : Int)) ∧ ((0 : Int) ≤ (6 : Int) ∧ (6 : Int) < (↑len : Int) ∧ a.isSome = true) ∧ (∃ (x : Addr), addOpt a (Int.toNat (6 :
    Int)) = some x ∧ W.cell? x = some (Value.int IntKind.u64 (seenInt IntKind.u64 W (addOpt a (6 : Nat))))) ∧ ((0 : Int) ≤ (7 : Int) ∧ (7 : Int) < (↑len : Int) ∧ a.isSome = true) ∧ (∃
    (x : Addr), addOpt a (Int.toNat (7 : Int)) = some x ∧ W.cell? x = some (Value.int IntKind.u64 (seenInt IntKind.u64 W (addOpt a (7 : Nat))))) ∧ ((-9223372036854775808 : Int) ≤
    seenInt IntKind.u64 W (addOpt a (7 : Nat)) ∧ seenInt IntKind.u64 W (addOpt a (7 : Nat)) ≤ (9223372036854775807 : Int)) ∧ (W = W ∧ (((0 : Int) ≤ (0 : Int) ∧ (0 : Int) < (↑len : Int)
    ∧ a.isSome = true) ∧ (∃ (x : Addr), addOpt a (Int.toNat (0 : Int)) = some x ∧ W.cell? x = some (Value.int IntKind.u64 (seenInt IntKind.u64 W (addOpt a (0 : Nat))))) ∧ ((((0 : Int) ≤
    seenInt IntKind.u64 W (addOpt a (0 : Nat)) ∧ seenInt IntKind.u64 W (addOpt a (0 : Nat)) ≤ (18446744073709551615 : Int)) ∧ ((0 : Int) ≤ seenInt IntKind.u64 W (addOpt a (1 : Nat)) ∧
    seenInt IntKind.u64 W (addOpt a (1 : Nat)) ≤ (18446744073709551615 : Int)) ∧ ((0 : Int) ≤ seenInt IntKind.u64 W (addOpt a (3 : Nat)) ∧ seenInt IntKind.u64 W (addOpt a (3 : Nat)) ≤
    (18446744073709551615 : Int)) ∧ (0 : Int) ≤ seenInt IntKind.u64 W (addOpt a (6 : Nat)) ∧ seenInt IntKind.u64 W (addOpt a (6 : Nat)) ≤ (18446744073709551615 : Int)) ∧ (∀ (z : Un),
    headB (seenInt IntKind.u64 W (addOpt a (0 : Nat))) (seenInt IntKind.u64 W (addOpt a (1 : Nat))) (seenInt IntKind.u64 W (addOpt a (2 : Nat))) (seenInt IntKind.u64 W (addOpt a (3 :
    Nat))) (seenInt IntKind.u64 W (addOpt a (4 : Nat))) (seenInt IntKind.u64 W (addOpt a (5 : Nat))) (seenInt IntKind.u64 W (addOpt a (6 : Nat))) (seenInt IntKind.u64 W (addOpt a (7 :
    Nat))) = false → ((↑len : Int) != (3 : Int)) = true ∧ ((↑len : Int) != (3 : Int)) = true ∧ ((seenInt IntKind.u64 W (addOpt a (0 : Nat)) == (0 : Int)) = true → ((true == (seenInt
    IntKind.u64 W (addOpt a (1 : Nat)) == (0 : Int) && (smF (seenInt IntKind.u64 W (addOpt a (2 : Nat))) == (0 : Int) && (seenInt IntKind.u64 W (addOpt a (3 : Nat)) == (0 : Int) && (smF
    (seenInt IntKind.u64 W (addOpt a (4 : Nat))) == (0 : Int) && (smF (seenInt IntKind.u64 W (addOpt a (5 : Nat))) == (0 : Int) && (seenInt IntKind.u64 W (addOpt a (6 : Nat)) == (0 :
    Int) && (smF (seenInt IntKind.u64 W (addOpt a (7 : Nat))) == (0 : Int) && true)))))))) = true → false = true ∧ some W = some W) ∧ ((true == (seenInt IntKind.u64 W (addOpt a (1 :
    Nat)) == (0 : Int) && (smF (seenInt IntKind.u64 W (addOpt a (2 : Nat))) == (0 : Int) && (seenInt IntKind.u64 W (addOpt a (3 : Nat)) == (0 : Int) && (smF (seenInt IntKind.u64 W
    (addOpt a (4 : Nat))) == (0 : Int) && (smF (seenInt IntKind.u64 W (addOpt a (5 : Nat))) == (0 : Int) && (seenInt IntKind.u64 W (addOpt a (6 : Nat)) == (0 : Int) && (smF (seenInt
    IntKind.u64 W (addOpt a (7 : Nat))) == (0 : Int) && true)))))))) = false → false = true ∧ some W = some W)) ∧ ((seenInt IntKind.u64 W (addOpt a (0 : Nat)) == (0 : Int)) = false →
    false = true ∧ some W = some W)) ∧ (∀ (z : Un), headB (seenInt IntKind.u64 W (addOpt a (0 : Nat))) (seenInt IntKind.u64 W (addOpt a (1 : Nat))) (seenInt IntKind.u64 W (addOpt a (2 :
    Nat))) (seenInt IntKind.u64 W (addOpt a (3 : Nat))) (seenInt IntKind.u64 W (addOpt a (4 : Nat))) (seenInt IntKind.u64 W (addOpt a (5 : Nat))) (seenInt IntKind.u64 W (addOpt a (6 :
    Nat))) (seenInt IntKind.u64 W (addOpt a (7 : Nat))) = true → ((0 : Int) ≤ (0 : Int) ∧ (0 : Int) < (↑len : Int) ∧ a.isSome = true) ∧ (∃ (x : Addr), addOpt a (Int.toNat (0 : Int)) =
    some x ∧ W.cell? x = some (Value.int IntKind.u64 (seenInt IntKind.u64 W (addOpt a (0 : Nat))))) ∧ (((↑len : Int) != (3 : Int)) = true ∧ ((↑len : Int) != (3 : Int)) = true ∧
    ((seenInt IntKind.u64 W (addOpt a (0 : Nat)) == seenInt IntKind.u64 W (addOpt a (0 : Nat))) = true → ((true == (seenInt IntKind.u64 W (addOpt a (1 : Nat)) == seenInt IntKind.u64 W
    (addOpt a (1 : Nat)) && (smF (seenInt IntKind.u64 W (addOpt a (2 : Nat))) == seenInt IntKind.u64 W (addOpt a (2 : Nat)) && (seenInt IntKind.u64 W (addOpt a (3 : Nat)) == seenInt
    IntKind.u64 W (addOpt a (3 : Nat)) && (smF (seenInt IntKind.u64 W (addOpt a (4 : Nat))) == seenInt IntKind.u64 W (addOpt a (4 : Nat)) && (smF (seenInt IntKind.u64 W (addOpt a (5 :
    Nat))) == seenInt IntKind.u64 W (addOpt a (5 : Nat)) && (seenInt IntKind.u64 W (addOpt a (6 : Nat)) == seenInt IntKind.u64 W (addOpt a (6 : Nat)) && (smF (seenInt IntKind.u64 W
    (addOpt a (7 : Nat))) == seenInt IntKind.u64 W (addOpt a (7 : Nat)) && true)))))))) = true → true = true ∧ some W = some W) ∧ ((true == (seenInt IntKind.u64 W (addOpt a (1 : Nat))
    == seenInt IntKind.u64 W (addOpt a (1 : Nat)) && (smF (seenInt IntKind.u64 W (addOpt a (2 : Nat))) == seenInt IntKind.u64 W (addOpt a (2 : Nat)) && (seenInt IntKind.u64 W (addOpt a
    (3 : Nat)) == seenInt IntKind.u64 W (addOpt a (3 : Nat)) && (smF (seenInt IntKind.u64 W (addOpt a (4 : Nat))) == seenInt IntKind.u64 W (addOpt a (4 : Nat)) && (smF (seenInt
    IntKind.u64 W (addOpt a (5 : Nat))) == seenInt IntKind.u64 W (addOpt a (5 : Nat)) && (seenInt IntKind.u64 W (addOpt a (6 : Nat)) == seenInt IntKind.u64 W (addOpt a (6 : Nat)) &&
    (smF (seenInt IntKind.u64 W (addOpt a (7 : Nat))) == seenInt IntKind.u64 W (addOpt a (7 : Nat)) && true)))))))) = false → false = true ∧ some W = some W)) ∧ ((seenInt IntKind.u64 W
    (addOpt a (0 : Nat)) == seenInt IntKind.u64 W (addOpt a (0 : Nat))) = false → false = true ∧ some W = some W)) ∧ True) ∧ True) ∧ True) ∧ True) ∧ True))))) ∧ True) ∧ True) ∧ True) ∧
    True) ∧ True) ∧ True) ∧ (∀ (K : KO XE), ((0 : Int) ≤ seenInt IntKind.u64 W (addOpt a (7 : Nat)) ∧ seenInt IntKind.u64 W (addOpt a (7 : Nat)) ≤ (18446744073709551615 : Int)) ∧ (∀ (z
    : Un), True → W = W ∧ (W = W ∧ K (SF.mk (53 : Nat) (ST.node (SV.c (SC.sliv a false len cap)) (ST.node (SV.tup []) (ST.node (SV.c (SC.ptr (15 : Nat) (0 : Nat))) (ST.node (SV.tup [])
    (ST.node (SV.c (SC.sliv a false len cap)) (ST.node (SV.c (SC.ptv (addOpt a (Int.toNat (6 : Int))))) ST.nil ST.nil) (ST.node (SV.tup []) ST.nil ST.nil)) (ST.node (SV.c (SC.ptv
    (addOpt a (Int.toNat (4 : Int))))) (ST.node (SV.tup []) ST.nil ST.nil) ST.nil)) (ST.node (SV.tup []) (ST.node (SV.c (SC.sliv a false len cap)) (ST.node (SV.c (SC.int false
    IntKind.u64 (seenInt IntKind.u64 W (addOpt a (7 : Nat))) (Bd.w (0 : Int) (18446744073709551615 : Int) (seenInt_bd IntKind.u64 W (addOpt a (Int.toNat (7 : Int))))))) ST.nil ST.nil)
    (ST.node (SV.tup []) ST.nil ST.nil)) (ST.node (SV.c (SC.ptv (addOpt a (Int.toNat (5 : Int))))) (ST.node (SV.tup []) ST.nil ST.nil) ST.nil))) (ST.node (SV.c (SC.ptr (46 : Nat) (0 :
    Nat))) (ST.node (SV.c (SC.int false IntKind.i64 (↑len : Int))) (ST.node (SV.c (SC.int false IntKind.u64 (seenInt IntKind.u64 W (addOpt a (2 : Nat))) (Bd.w (0 : Int)
    (18446744073709551615 : Int) (seenInt_bd IntKind.u64 W (addOpt a (Int.toNat (2 : Int))))))) (ST.node (SV.c (SC.sliv a false len cap)) ST.nil ST.nil) (ST.node (SV.tup []) ST.nil
    ST.nil)) (ST.node (SV.c (SC.int false IntKind.i64 (smF (seenInt IntKind.u64 W (addOpt a (4 : Nat)))) Bd.any)) (ST.node (SV.tup []) ST.nil ST.nil) ST.nil)) (ST.node (SV.c (SC.ptv
    (addOpt a (Int.toNat (1 : Int))))) (ST.node (SV.c (SC.int false IntKind.u64 (seenInt IntKind.u64 W (addOpt a (3 : Nat))) (Bd.w (0 : Int) (18446744073709551615 : Int) (seenInt_bd
    IntKind.u64 W (addOpt a (Int.toNat (3 : Int))))))) (ST.node (SV.agg [SC.int false IntKind.u64 (seenInt IntKind.u64 W (addOpt a (1 : Nat))) (Bd.w (0 : Int) (18446744073709551615 :
    Int) (seenInt_bd IntKind.u64 W (addOpt a (Int.toNat (1 : Int))))), SC.int false IntKind.i64 (smF (seenInt IntKind.u64 W (addOpt a (2 : Nat)))) Bd.any, SC.int false IntKind.u64
    (seenInt IntKind.u64 W (addOpt a (3 : Nat))) (Bd.w (0 : Int) (18446744073709551615 : Int) (seenInt_bd IntKind.u64 W (addOpt a (Int.toNat (3 : Int))))), SC.int false IntKind.i64 (smF
    (seenInt IntKind.u64 W (addOpt a (4 : Nat)))) Bd.any, SC.int false IntKind.i64 (smF (seenInt IntKind.u64 W (addOpt a (5 : Nat)))) Bd.any, SC.int false IntKind.u64 (seenInt
    IntKind.u64 W (addOpt a (6 : Nat))) (Bd.w (0 : Int) (18446744073709551615 : Int) (seenInt_bd IntKind.u64 W (addOpt a (Int.toNat (6 : Int))))), SC.int false IntKind.i64 (smF (seenInt
    IntKind.u64 W (addOpt a (7 : Nat)))) Bd.any]) ST.nil ST.nil) ST.nil) (ST.node (SV.c (SC.int false IntKind.i64 (smF (seenInt IntKind.u64 W (addOpt a (5 : Nat)))) Bd.any)) (ST.node
    (SV.tup []) ST.nil ST.nil) ST.nil)))) (ST.node (SV.c (SC.int true IntKind.u64 (0 : Int))) (ST.node (SV.c (SC.boo true false)) (ST.node (SV.c (SC.sliv a false len cap)) (ST.node
    (SV.c (SC.ptv (addOpt a (Int.toNat (2 : Int))))) (ST.node (SV.c (SC.int false IntKind.u64 (seenInt IntKind.u64 W (addOpt a (6 : Nat))) (Bd.w (0 : Int) (18446744073709551615 : Int)
    (seenInt_bd IntKind.u64 W (addOpt a (Int.toNat (6 : Int))))))) ST.nil ST.nil) (ST.node (SV.tup []) ST.nil ST.nil)) (ST.node (SV.c (SC.int false IntKind.u64 (seenInt IntKind.u64 W
    (addOpt a (4 : Nat))) (Bd.w (0 : Int) (18446744073709551615 : Int) (seenInt_bd IntKind.u64 W (addOpt a (Int.toNat (4 : Int))))))) (ST.node (SV.tup []) ST.nil ST.nil) ST.nil))
    (ST.node (SV.c (SC.sliv a false len cap)) (ST.node (SV.c (SC.ptv (addOpt a (Int.toNat (3 : Int))))) (ST.node (SV.c (SC.int false IntKind.i64 (smF (seenInt IntKind.u64 W (addOpt a (7
    : Nat)))) Bd.any)) ST.nil ST.nil) (ST.node (SV.tup []) ST.nil ST.nil)) (ST.node (SV.c (SC.int false IntKind.u64 (seenInt IntKind.u64 W (addOpt a (5 : Nat))) (Bd.w (0 : Int)
    (18446744073709551615 : Int) (seenInt_bd IntKind.u64 W (addOpt a (Int.toNat (5 : Int))))))) (ST.node (SV.tup []) ST.nil ST.nil) ST.nil))) (ST.node (SV.tup []) (ST.node (SV.c (SC.boo
    true false)) (ST.node (SV.c (SC.int false IntKind.i64 (smF (seenInt IntKind.u64 W (addOpt a (2 : Nat)))) Bd.any)) (ST.node (SV.c (SC.ptv (addOpt a (Int.toNat (7 : Int))))) ST.nil
    ST.nil) (ST.node (SV.tup []) ST.nil ST.nil)) (ST.node (SV.c (SC.sliv a false len cap)) (ST.node (SV.tup []) ST.nil ST.nil) ST.nil)) (ST.node (SV.c (SC.int false IntKind.u64 (seenInt
    IntKind.u64 W (addOpt a (1 : Nat))) (Bd.w (0 : Int) (18446744073709551615 : Int) (seenInt_bd IntKind.u64 W (addOpt a (Int.toNat (1 : Int))))))) (ST.node (SV.c (SC.sliv a false len
    cap)) (ST.node (SV.tup []) ST.nil ST.nil) ST.nil) (ST.node (SV.c (SC.sliv a false len cap)) (ST.node (SV.tup []) ST.nil ST.nil) ST.nil))))) []) (Mem.mk [((0 : Nat), SO.seen W), ((15
    : Nat), SO.cells [SC.int true IntKind.u64 (0 : Int), SC.int true IntKind.i64 (0 : Int), SC.int true IntKind.u64 (0 : Int), SC.int true IntKind.i64 (0 : Int), SC.int true IntKind.i64
    (0 : Int), SC.int true IntKind.u64 (0 : Int), SC.int true IntKind.i64 (0 : Int)] (75 : Nat)), ((46 : Nat), SO.cells [SC.int false IntKind.u64 (seenInt IntKind.u64 W (addOpt a (1 :
    Nat))) (Bd.w (0 : Int) (18446744073709551615 : Int) (seenInt_bd IntKind.u64 W (addOpt a (Int.toNat (1 : Int))))), SC.int false IntKind.i64 (smF (seenInt IntKind.u64 W (addOpt a (2 :
    Nat)))) Bd.any, SC.int false IntKind.u64 (seenInt IntKind.u64 W (addOpt a (3 : Nat))) (Bd.w (0 : Int) (18446744073709551615 : Int) (seenInt_bd IntKind.u64 W (addOpt a (Int.toNat (3
    : Int))))), SC.int false IntKind.i64 (smF (seenInt IntKind.u64 W (addOpt a (4 : Nat)))) Bd.any, SC.int false IntKind.i64 (smF (seenInt IntKind.u64 W (addOpt a (5 : Nat)))) Bd.any,
    SC.int false IntKind.u64 (seenInt IntKind.u64 W (addOpt a (6 : Nat))) (Bd.w (0 : Int) (18446744073709551615 : Int) (seenInt_bd IntKind.u64 W (addOpt a (Int.toNat (6 : Int))))),
    SC.int false IntKind.i64 (smF (seenInt IntKind.u64 W (addOpt a (7 : Nat)))) Bd.any] (75 : Nat))] (48 : Nat)) rdB ∧ True) ∧ True) ∧ True → W = W ∧ (((0 : Int) ≤ seenInt IntKind.u64 W
    (addOpt a (7 : Nat)) ∧ seenInt IntKind.u64 W (addOpt a (7 : Nat)) ≤ (18446744073709551615 : Int)) ∧ (∀ (z : Un), True → W = W ∧ K (SF.mk (53 : Nat) (ST.node (SV.c (SC.sliv a false
    len cap)) (ST.node (SV.tup []) (ST.node (SV.c (SC.ptr (15 : Nat) (0 : Nat))) (ST.node (SV.tup []) (ST.node (SV.c (SC.sliv a false len cap)) (ST.node (SV.c (SC.ptv (addOpt a
    (Int.toNat (6 : Int))))) ST.nil ST.nil) (ST.node (SV.tup []) ST.nil ST.nil)) (ST.node (SV.c (SC.ptv (addOpt a (Int.toNat (4 : Int))))) (ST.node (SV.tup []) ST.nil ST.nil) ST.nil))
    (ST.node (SV.tup []) (ST.node (SV.c (SC.sliv a false len cap)) (ST.node (SV.c (SC.int false IntKind.u64 (seenInt IntKind.u64 W (addOpt a (7 : Nat))) (Bd.w (0 : Int)
    (18446744073709551615 : Int) (seenInt_bd IntKind.u64 W (addOpt a (Int.toNat (7 : Int))))))) ST.nil ST.nil) (ST.node (SV.tup []) ST.nil ST.nil)) (ST.node (SV.c (SC.ptv (addOpt a
    (Int.toNat (5 : Int))))) (ST.node (SV.tup []) ST.nil ST.nil) ST.nil))) (ST.node (SV.c (SC.ptr (46 : Nat) (0 : Nat))) (ST.node (SV.c (SC.int false IntKind.i64 (↑len : Int))) (ST.node
    (SV.c (SC.int false IntKind.u64 (seenInt IntKind.u64 W (addOpt a (2 : Nat))) (Bd.w (0 : Int) (18446744073709551615 : Int) (seenInt_bd IntKind.u64 W (addOpt a (Int.toNat (2 :
    Int))))))) (ST.node (SV.c (SC.sliv a false len cap)) ST.nil ST.nil) (ST.node (SV.tup []) ST.nil ST.nil)) (ST.node (SV.c (SC.int false IntKind.i64 (smF (seenInt IntKind.u64 W (addOpt
    a (4 : Nat)))) Bd.any)) (ST.node (SV.tup []) ST.nil ST.nil) ST.nil)) (ST.node (SV.c (SC.ptv (addOpt a (Int.toNat (1 : Int))))) (ST.node (SV.c (SC.int false IntKind.u64 (seenInt
    IntKind.u64 W (addOpt a (3 : Nat))) (Bd.w (0 : Int) (18446744073709551615 : Int) (seenInt_bd IntKind.u64 W (addOpt a (Int.toNat (3 : Int))))))) (ST.node (SV.agg [SC.int false
    IntKind.u64 (seenInt IntKind.u64 W (addOpt a (1 : Nat))) (Bd.w (0 : Int) (18446744073709551615 : Int) (seenInt_bd IntKind.u64 W (addOpt a (Int.toNat (1 : Int))))), SC.int false
    IntKind.i64 (smF (seenInt IntKind.u64 W (addOpt a (2 : Nat)))) Bd.any, SC.int false IntKind.u64 (seenInt IntKind.u64 W (addOpt a (3 : Nat))) (Bd.w (0 : Int) (18446744073709551615 :
    Int) (seenInt_bd IntKind.u64 W (addOpt a (Int.toNat (3 : Int))))), SC.int false IntKind.i64 (smF (seenInt IntKind.u64 W (addOpt a (4 : Nat)))) Bd.any, SC.int false IntKind.i64 (smF
    (seenInt IntKind.u64 W (addOpt a (5 : Nat)))) Bd.any, SC.int false IntKind.u64 (seenInt IntKind.u64 W (addOpt a (6 : Nat))) (Bd.w (0 : Int) (18446744073709551615 : Int) (seenInt_bd
    IntKind.u64 W (addOpt a (Int.toNat (6 : Int))))), SC.int false IntKind.i64 (smF (seenInt IntKind.u64 W (addOpt a (7 : Nat)))) Bd.any]) ST.nil ST.nil) ST.nil) (ST.node (SV.c (SC.int
    false IntKind.i64 (smF (seenInt IntKind.u64 W (addOpt a (5 : Nat)))) Bd.any)) (ST.node (SV.tup []) ST.nil ST.nil) ST.nil)))) (ST.node (SV.c (SC.int true IntKind.u64 (0 : Int)))
    (ST.node (SV.c (SC.boo true false)) (ST.node (SV.c (SC.sliv a false len cap)) (ST.node (SV.c (SC.ptv (addOpt a (Int.toNat (2 : Int))))) (ST.node (SV.c (SC.int false IntKind.u64
    (seenInt IntKind.u64 W (addOpt a (6 : Nat))) (Bd.w (0 : Int) (18446744073709551615 : Int) (seenInt_bd IntKind.u64 W (addOpt a (Int.toNat (6 : Int))))))) ST.nil ST.nil) (ST.node
    (SV.tup []) ST.nil ST.nil)) (ST.node (SV.c (SC.int false IntKind.u64 (seenInt IntKind.u64 W (addOpt a (4 : Nat))) (Bd.w (0 : Int) (18446744073709551615 : Int) (seenInt_bd
    IntKind.u64 W (addOpt a (Int.toNat (4 : Int))))))) (ST.node (SV.tup []) ST.nil ST.nil) ST.nil)) (ST.node (SV.c (SC.sliv a false len cap)) (ST.node (SV.c (SC.ptv (addOpt a (Int.toNat
    (3 : Int))))) (ST.node (SV.c (SC.int false IntKind.i64 (smF (seenInt IntKind.u64 W (addOpt a (7 : Nat)))) Bd.any)) ST.nil ST.nil) (ST.node (SV.tup []) ST.nil ST.nil)) (ST.node (SV.c
    (SC.int false IntKind.u64 (seenInt IntKind.u64 W (addOpt a (5 : Nat))) (Bd.w (0 : Int) (18446744073709551615 : Int) (seenInt_bd IntKind.u64 W (addOpt a (Int.toNat (5 : Int)))))))
    (ST.node (SV.tup []) ST.nil ST.nil) ST.nil))) (ST.node (SV.tup []) (ST.node (SV.c (SC.boo true false)) (ST.node (SV.c (SC.int false IntKind.i64 (smF (seenInt IntKind.u64 W (addOpt a
    (2 : Nat)))) Bd.any)) (ST.node (SV.c (SC.ptv (addOpt a (Int.toNat (7 : Int))))) ST.nil ST.nil) (ST.node (SV.tup []) ST.nil ST.nil)) (ST.node (SV.c (SC.sliv a false len cap))
    (ST.node (SV.tup []) ST.nil ST.nil) ST.nil)) (ST.node (SV.c (SC.int false IntKind.u64 (seenInt IntKind.u64 W (addOpt a (1 : Nat))) (Bd.w (0 : Int) (18446744073709551615 : Int)
    (seenInt_bd IntKind.u64 W (addOpt a (Int.toNat (1 : Int))))))) (ST.node (SV.c (SC.sliv a false len cap)) (ST.node (SV.tup []) ST.nil ST.nil) ST.nil) (ST.node (SV.c (SC.sliv a false
    len cap)) (ST.node (SV.tup []) ST.nil ST.nil) ST.nil))))) []) (Mem.mk [((0 : Nat), SO.seen W), ((15 : Nat), SO.cells [SC.int true IntKind.u64 (0 : Int), SC.int true IntKind.i64 (0 :
    Int), SC.int true IntKind.u64 (0 : Int), SC.int true IntKind.i64 (0 : Int), SC.int true IntKind.i64 (0 : Int), SC.int true IntKind.u64 (0 : Int), SC.int true IntKind.i64 (0 : Int)]
    (75 : Nat)), ((46 : Nat), SO.cells [SC.int false IntKind.u64 (seenInt IntKind.u64 W (addOpt a (1 : Nat))) (Bd.w (0 : Int) (18446744073709551615 : Int) (seenInt_bd IntKind.u64 W
    (addOpt a (Int.toNat (1 : Int))))), SC.int false IntKind.i64 (smF (seenInt IntKind.u64 W (addOpt a (2 : Nat)))) Bd.any, SC.int false IntKind.u64 (seenInt IntKind.u64 W (addOpt a (3
    : Nat))) (Bd.w (0 : Int) (18446744073709551615 : Int) (seenInt_bd IntKind.u64 W (addOpt a (Int.toNat (3 : Int))))), SC.int false IntKind.i64 (smF (seenInt IntKind.u64 W (addOpt a (4
    : Nat)))) Bd.any, SC.int false IntKind.i64 (smF (seenInt IntKind.u64 W (addOpt a (5 : Nat)))) Bd.any, SC.int false IntKind.u64 (seenInt IntKind.u64 W (addOpt a (6 : Nat))) (Bd.w (0
    : Int) (18446744073709551615 : Int) (seenInt_bd IntKind.u64 W (addOpt a (Int.toNat (6 : Int))))), SC.int false IntKind.i64 (smF (seenInt IntKind.u64 W (addOpt a (7 : Nat)))) Bd.any]
    (75 : Nat))] (48 : Nat)) rdB ∧ True) ∧ True) ∧ True) ∧ True) ∧ True) ∧ (∀ (K : KO XE), ((0 : Int) ≤ seenInt IntKind.u64 W (addOpt a (5 : Nat)) ∧ seenInt IntKind.u64 W (addOpt a (5 :
    Nat)) ≤ (18446744073709551615 : Int)) ∧ (∀ (z : Un), True → W = W ∧ (((0 : Int) ≤ seenInt IntKind.u64 W (addOpt a (7 : Nat)) ∧ seenInt IntKind.u64 W (addOpt a (7 : Nat)) ≤
    (18446744073709551615 : Int)) ∧ (∀ (z : Un), True → W = W ∧ (W = W ∧ K (SF.mk (53 : Nat) (ST.node (SV.c (SC.sliv a false len cap)) (ST.node (SV.tup []) (ST.node (SV.c (SC.ptr (15 :
    Nat) (0 : Nat))) (ST.node (SV.tup []) (ST.node (SV.c (SC.sliv a false len cap)) (ST.node (SV.c (SC.ptv (addOpt a (Int.toNat (6 : Int))))) ST.nil ST.nil) (ST.node (SV.tup []) ST.nil
    ST.nil)) (ST.node (SV.c (SC.ptv (addOpt a (Int.toNat (4 : Int))))) (ST.node (SV.tup []) ST.nil ST.nil) ST.nil)) (ST.node (SV.tup []) (ST.node (SV.c (SC.sliv a false len cap))
    (ST.node (SV.c (SC.int false IntKind.u64 (seenInt IntKind.u64 W (addOpt a (7 : Nat))) (Bd.w (0 : Int) (18446744073709551615 : Int) (seenInt_bd IntKind.u64 W (addOpt a (Int.toNat (7
    : Int))))))) ST.nil ST.nil) (ST.node (SV.tup []) ST.nil ST.nil)) (ST.node (SV.c (SC.ptv (addOpt a (Int.toNat (5 : Int))))) (ST.node (SV.tup []) ST.nil ST.nil) ST.nil))) (ST.node
    (SV.c (SC.ptr (46 : Nat) (0 : Nat))) (ST.node (SV.c (SC.int false IntKind.i64 (↑len : Int))) (ST.node (SV.c (SC.int false IntKind.u64 (seenInt IntKind.u64 W (addOpt a (2 : Nat)))
    (Bd.w (0 : Int) (18446744073709551615 : Int) (seenInt_bd IntKind.u64 W (addOpt a (Int.toNat (2 : Int))))))) (ST.node (SV.c (SC.sliv a false len cap)) ST.nil ST.nil) (ST.node (SV.tup
    []) ST.nil ST.nil)) (ST.node (SV.c (SC.int false IntKind.i64 (smF (seenInt IntKind.u64 W (addOpt a (4 : Nat)))) Bd.any)) (ST.node (SV.tup []) ST.nil ST.nil) ST.nil)) (ST.node (SV.c
    (SC.ptv (addOpt a (Int.toNat (1 : Int))))) (ST.node (SV.c (SC.int false IntKind.u64 (seenInt IntKind.u64 W (addOpt a (3 : Nat))) (Bd.w (0 : Int) (18446744073709551615 : Int)
    (seenInt_bd IntKind.u64 W (addOpt a (Int.toNat (3 : Int))))))) (ST.node (SV.agg [SC.int false IntKind.u64 (seenInt IntKind.u64 W (addOpt a (1 : Nat))) (Bd.w (0 : Int)
    (18446744073709551615 : Int) (seenInt_bd IntKind.u64 W (addOpt a (Int.toNat (1 : Int))))), SC.int false IntKind.i64 (smF (seenInt IntKind.u64 W (addOpt a (2 : Nat)))) Bd.any, SC.int
    false IntKind.u64 (seenInt IntKind.u64 W (addOpt a (3 : Nat))) (Bd.w (0 : Int) (18446744073709551615 : Int) (seenInt_bd IntKind.u64 W (addOpt a (Int.toNat (3 : Int))))), SC.int
    false IntKind.i64 (smF (seenInt IntKind.u64 W (addOpt a (4 : Nat)))) Bd.any, SC.int false IntKind.i64 (smF (seenInt IntKind.u64 W (addOpt a (5 : Nat)))) Bd.any, SC.int false
    IntKind.u64 (seenInt IntKind.u64 W (addOpt a (6 : Nat))) (Bd.w (0 : Int) (18446744073709551615 : Int) (seenInt_bd IntKind.u64 W (addOpt a (Int.toNat (6 : Int))))), SC.int false
    IntKind.i64 (smF (seenInt IntKind.u64 W (addOpt a (7 : Nat)))) Bd.any]) ST.nil ST.nil) ST.nil) (ST.node (SV.c (SC.int false IntKind.i64 (smF (seenInt IntKind.u64 W (addOpt a (5 :
    Nat)))) Bd.any)) (ST.node (SV.tup []) ST.nil ST.nil) ST.nil)))) (ST.node (SV.c (SC.int true IntKind.u64 (0 : Int))) (ST.node (SV.c (SC.boo true false)) (ST.node (SV.c (SC.sliv a
    false len cap)) (ST.node (SV.c (SC.ptv (addOpt a (Int.toNat (2 : Int))))) (ST.node (SV.c (SC.int false IntKind.u64 (seenInt IntKind.u64 W (addOpt a (6 : Nat))) (Bd.w (0 : Int)
    (18446744073709551615 : Int) (seenInt_bd IntKind.u64 W (addOpt a (Int.toNat (6 : Int))))))) ST.nil ST.nil) (ST.node (SV.tup []) ST.nil ST.nil)) (ST.node (SV.c (SC.int false
    IntKind.u64 (seenInt IntKind.u64 W (addOpt a (4 : Nat))) (Bd.w (0 : Int) (18446744073709551615 : Int) (seenInt_bd IntKind.u64 W (addOpt a (Int.toNat (4 : Int))))))) (ST.node (SV.tup
    []) ST.nil ST.nil) ST.nil)) (ST.node (SV.c (SC.sliv a false len cap)) (ST.node (SV.c (SC.ptv (addOpt a (Int.toNat (3 : Int))))) (ST.node (SV.c (SC.int false IntKind.i64 (smF
    (seenInt IntKind.u64 W (addOpt a (7 : Nat)))) Bd.any)) ST.nil ST.nil) (ST.node (SV.tup []) ST.nil ST.nil)) (ST.node (SV.c (SC.int false IntKind.u64 (seenInt IntKind.u64 W (addOpt a
    (5 : Nat))) (Bd.w (0 : Int) (18446744073709551615 : Int) (seenInt_bd IntKind.u64 W (addOpt a (Int.toNat (5 : Int))))))) (ST.node (SV.tup []) ST.nil ST.nil) ST.nil))) (ST.node
    (SV.tup []) (ST.node (SV.c (SC.boo true false)) (ST.node (SV.c (SC.int false IntKind.i64 (smF (seenInt IntKind.u64 W (addOpt a (2 : Nat)))) Bd.any)) (ST.node (SV.c (SC.ptv (addOpt a
    (Int.toNat (7 : Int))))) ST.nil ST.nil) (ST.node (SV.tup []) ST.nil ST.nil)) (ST.node (SV.c (SC.sliv a false len cap)) (ST.node (SV.tup []) ST.nil ST.nil) ST.nil)) (ST.node (SV.c
    (SC.int false IntKind.u64 (seenInt IntKind.u64 W (addOpt a (1 : Nat))) (Bd.w (0 : Int) (18446744073709551615 : Int) (seenInt_bd IntKind.u64 W (addOpt a (Int.toNat (1 : Int)))))))
    (ST.node (SV.c (SC.sliv a false len cap)) (ST.node (SV.tup []) ST.nil ST.nil) ST.nil) (ST.node (SV.c (SC.sliv a false len cap)) (ST.node (SV.tup []) ST.nil ST.nil) ST.nil))))) [])
    (Mem.mk [((0 : Nat), SO.seen W), ((15 : Nat), SO.cells [SC.int true IntKind.u64 (0 : Int), SC.int true IntKind.i64 (0 : Int), SC.int true IntKind.u64 (0 : Int), SC.int true
    IntKind.i64 (0 : Int), SC.int true IntKind.i64 (0 : Int), SC.int true IntKind.u64 (0 : Int), SC.int true IntKind.i64 (0 : Int)] (75 : Nat)), ((46 : Nat), SO.cells [SC.int false
    IntKind.u64 (seenInt IntKind.u64 W (addOpt a (1 : Nat))) (Bd.w (0 : Int) (18446744073709551615 : Int) (seenInt_bd IntKind.u64 W (addOpt a (Int.toNat (1 : Int))))), SC.int false
    IntKind.i64 (smF (seenInt IntKind.u64 W (addOpt a (2 : Nat)))) Bd.any, SC.int false IntKind.u64 (seenInt IntKind.u64 W (addOpt a (3 : Nat))) (Bd.w (0 : Int) (18446744073709551615 :
    Int) (seenInt_bd IntKind.u64 W (addOpt a (Int.toNat (3 : Int))))), SC.int false IntKind.i64 (smF (seenInt IntKind.u64 W (addOpt a (4 : Nat)))) Bd.any, SC.int false IntKind.i64 (smF
    (seenInt IntKind.u64 W (addOpt a (5 : Nat)))) Bd.any, SC.int false IntKind.u64 (seenInt IntKind.u64 W (addOpt a (6 : Nat))) (Bd.w (0 : Int) (18446744073709551615 : Int) (seenInt_bd
    IntKind.u64 W (addOpt a (Int.toNat (6 : Int))))), SC.int false IntKind.i64 (smF (seenInt IntKind.u64 W (addOpt a (7 : Nat)))) Bd.any] (75 : Nat))] (48 : Nat)) rdB ∧ True) ∧ True) ∧
    True) ∧ (∀ (K : KO XE), ((0 : Int) ≤ seenInt IntKind.u64 W (addOpt a (7 : Nat)) ∧ seenInt IntKind.u64 W (addOpt a (7 : Nat)) ≤ (18446744073709551615 : Int)) ∧ (∀ (z : Un), True → W
    = W ∧ (W = W ∧ K (SF.mk (53 : Nat) (ST.node (SV.c (SC.sliv a false len cap)) (ST.node (SV.tup []) (ST.node (SV.c (SC.ptr (15 : Nat) (0 : Nat))) (ST.node (SV.tup []) (ST.node (SV.c
    (SC.sliv a false len cap)) (ST.node (SV.c (SC.ptv (addOpt a (Int.toNat (6 : Int))))) ST.nil ST.nil) (ST.node (SV.tup []) ST.nil ST.nil)) (ST.node (SV.c (SC.ptv (addOpt a (Int.toNat
    (4 : Int))))) (ST.node (SV.tup []) ST.nil ST.nil) ST.nil)) (ST.node (SV.tup []) (ST.node (SV.c (SC.sliv a false len cap)) (ST.node (SV.c (SC.int false IntKind.u64 (seenInt
    IntKind.u64 W (addOpt a (7 : Nat))) (Bd.w (0 : Int) (18446744073709551615 : Int) (seenInt_bd IntKind.u64 W (addOpt a (Int.toNat (7 : Int))))))) ST.nil ST.nil) (ST.node (SV.tup [])
    ST.nil ST.nil)) (ST.node (SV.c (SC.ptv (addOpt a (Int.toNat (5 : Int))))) (ST.node (SV.tup []) ST.nil ST.nil) ST.nil))) (ST.node (SV.c (SC.ptr (46 : Nat) (0 : Nat))) (ST.node (SV.c
    (SC.int false IntKind.i64 (↑len : Int))) (ST.node (SV.c (SC.int false IntKind.u64 (seenInt IntKind.u64 W (addOpt a (2 : Nat))) (Bd.w (0 : Int) (18446744073709551615 : Int)
    (seenInt_bd IntKind.u64 W (addOpt a (Int.toNat (2 : Int))))))) (ST.node (SV.c (SC.sliv a false len cap)) ST.nil ST.nil) (ST.node (SV.tup []) ST.nil ST.nil)) (ST.node (SV.c (SC.int
    false IntKind.i64 (smF (seenInt IntKind.u64 W (addOpt a (4 : Nat)))) Bd.any)) (ST.node (SV.tup []) ST.nil ST.nil) ST.nil)) (ST.node (SV.c (SC.ptv (addOpt a (Int.toNat (1 : Int)))))
    (ST.node (SV.c (SC.int false IntKind.u64 (seenInt IntKind.u64 W (addOpt a (3 : Nat))) (Bd.w (0 : Int) (18446744073709551615 : Int) (seenInt_bd IntKind.u64 W (addOpt a (Int.toNat (3
    : Int))))))) (ST.node (SV.agg [SC.int false IntKind.u64 (seenInt IntKind.u64 W (addOpt a (1 : Nat))) (Bd.w (0 : Int) (18446744073709551615 : Int) (seenInt_bd IntKind.u64 W (addOpt a
    (Int.toNat (1 : Int))))), SC.int false IntKind.i64 (smF (seenInt IntKind.u64 W (addOpt a (2 : Nat)))) Bd.any, SC.int false IntKind.u64 (seenInt IntKind.u64 W (addOpt a (3 : Nat)))
    (Bd.w (0 : Int) (18446744073709551615 : Int) (seenInt_bd IntKind.u64 W (addOpt a (Int.toNat (3 : Int))))), SC.int false IntKind.i64 (smF (seenInt IntKind.u64 W (addOpt a (4 :
    Nat)))) Bd.any, SC.int false IntKind.i64 (smF (seenInt IntKind.u64 W (addOpt a (5 : Nat)))) Bd.any, SC.int false IntKind.u64 (seenInt IntKind.u64 W (addOpt a (6 : Nat))) (Bd.w (0 :
    Int) (18446744073709551615 : Int) (seenInt_bd IntKind.u64 W (addOpt a (Int.toNat (6 : Int))))), SC.int false IntKind.i64 (smF (seenInt IntKind.u64 W (addOpt a (7 : Nat)))) Bd.any])
    ST.nil ST.nil) ST.nil) (ST.node (SV.c (SC.int false IntKind.i64 (smF (seenInt IntKind.u64 W (addOpt a (5 : Nat)))) Bd.any)) (ST.node (SV.tup []) ST.nil ST.nil) ST.nil)))) (ST.node
    (SV.c (SC.int true IntKind.u64 (0 : Int))) (ST.node (SV.c (SC.boo true false)) (ST.node (SV.c (SC.sliv a false len cap)) (ST.node (SV.c (SC.ptv (addOpt a (Int.toNat (2 : Int)))))
    (ST.node (SV.c (SC.int false IntKind.u64 (seenInt IntKind.u64 W (addOpt a (6 : Nat))) (Bd.w (0 : Int) (18446744073709551615 : Int) (seenInt_bd IntKind.u64 W (addOpt a (Int.toNat (6
    : Int))))))) ST.nil ST.nil) (ST.node (SV.tup []) ST.nil ST.nil)) (ST.node (SV.c (SC.int false IntKind.u64 (seenInt IntKind.u64 W (addOpt a (4 : Nat))) (Bd.w (0 : Int)
    (18446744073709551615 : Int) (seenInt_bd IntKind.u64 W (addOpt a (Int.toNat (4 : Int))))))) (ST.node (SV.tup []) ST.nil ST.nil) ST.nil)) (ST.node (SV.c (SC.sliv a false len cap))
    (ST.node (SV.c (SC.ptv (addOpt a (Int.toNat (3 : Int))))) (ST.node (SV.c (SC.int false IntKind.i64 (smF (seenInt IntKind.u64 W (addOpt a (7 : Nat)))) Bd.any)) ST.nil ST.nil)
    (ST.node (SV.tup []) ST.nil ST.nil)) (ST.node (SV.c (SC.int false IntKind.u64 (seenInt IntKind.u64 W (addOpt a (5 : Nat))) (Bd.w (0 : Int) (18446744073709551615 : Int) (seenInt_bd
    IntKind.u64 W (addOpt a (Int.toNat (5 : Int))))))) (ST.node (SV.tup []) ST.nil ST.nil) ST.nil))) (ST.node (SV.tup []) (ST.node (SV.c (SC.boo true false)) (ST.node (SV.c (SC.int
    false IntKind.i64 (smF (seenInt IntKind.u64 W (addOpt a (2 : Nat)))) Bd.any)) (ST.node (SV.c (SC.ptv (addOpt a (Int.toNat (7 : Int))))) ST.nil ST.nil) (ST.node (SV.tup []) ST.nil
    ST.nil)) (ST.node (SV.c (SC.sliv a false len cap)) (ST.node (SV.tup []) ST.nil ST.nil) ST.nil)) (ST.node (SV.c (SC.int false IntKind.u64 (seenInt IntKind.u64 W (addOpt a (1 : Nat)))
    (Bd.w (0 : Int) (18446744073709551615 : Int) (seenInt_bd IntKind.u64 W (addOpt a (Int.toNat (1 : Int))))))) (ST.node (SV.c (SC.sliv a false len cap)) (ST.node (SV.tup []) ST.nil
    ST.nil) ST.nil) (ST.node (SV.c (SC.sliv a false len cap)) (ST.node (SV.tup []) ST.nil ST.nil) ST.nil))))) []) (Mem.mk [((0 : Nat), SO.seen W), ((15 : Nat), SO.cells [SC.int true
    IntKind.u64 (0 : Int), SC.int true IntKind.i64 (0 : Int), SC.int true IntKind.u64 (0 : Int), SC.int true IntKind.i64 (0 : Int), SC.int true IntKind.i64 (0 : Int), SC.int true
    IntKind.u64 (0 : Int), SC.int true IntKind.i64 (0 : Int)] (75 : Nat)), ((46 : Nat), SO.cells [SC.int false IntKind.u64 (seenInt IntKind.u64 W (addOpt a (1 : Nat))) (Bd.w (0 : Int)
    (18446744073709551615 : Int) (seenInt_bd IntKind.u64 W (addOpt a (Int.toNat (1 : Int))))), SC.int false IntKind.i64 (smF (seenInt IntKind.u64 W (addOpt a (2 : Nat)))) Bd.any, SC.int
    false IntKind.u64 (seenInt IntKind.u64 W (addOpt a (3 : Nat))) (Bd.w (0 : Int) (18446744073709551615 : Int) (seenInt_bd IntKind.u64 W (addOpt a (Int.toNat (3 : Int))))), SC.int
    false IntKind.i64 (smF (seenInt IntKind.u64 W (addOpt a (4 : Nat)))) Bd.any, SC.int false IntKind.i64 (smF (seenInt IntKind.u64 W (addOpt a (5 : Nat)))) Bd.any, SC.int false
    IntKind.u64 (seenInt IntKind.u64 W (addOpt a (6 : Nat))) (Bd.w (0 : Int) (18446744073709551615 : Int) (seenInt_bd IntKind.u64 W (addOpt a (Int.toNat (6 : Int))))), SC.int false
    IntKind.i64 (smF (seenInt IntKind.u64 W (addOpt a (7 : Nat)))) Bd.any] (75 : Nat))] (48 : Nat)) rdB ∧ True) ∧ True) ∧ True → W = W ∧ (((0 : Int) ≤ seenInt IntKind.u64 W (addOpt a (7
    : Nat)) ∧ seenInt IntKind.u64 W (addOpt a (7 : Nat)) ≤ (18446744073709551615 : Int)) ∧ (∀ (z : Un), True → W = W ∧ K (SF.mk (53 : Nat) (ST.node (SV.c (SC.sliv a false len cap))
    (ST.node (SV.tup []) (ST.node (SV.c (SC.ptr (15 : Nat) (0 : Nat))) (ST.node (SV.tup []) (ST.node (SV.c (SC.sliv a false len cap)) (ST.node (SV.c (SC.ptv (addOpt a (Int.toNat (6 :
    Int))))) ST.nil ST.nil) (ST.node (SV.tup []) ST.nil ST.nil)) (ST.node (SV.c (SC.ptv (addOpt a (Int.toNat (4 : Int))))) (ST.node (SV.tup []) ST.nil ST.nil) ST.nil)) (ST.node (SV.tup
    []) (ST.node (SV.c (SC.sliv a false len cap)) (ST.node (SV.c (SC.int false IntKind.u64 (seenInt IntKind.u64 W (addOpt a (7 : Nat))) (Bd.w (0 : Int) (18446744073709551615 : Int)
    (seenInt_bd IntKind.u64 W (addOpt a (Int.toNat (7 : Int))))))) ST.nil ST.nil) (ST.node (SV.tup []) ST.nil ST.nil)) (ST.node (SV.c (SC.ptv (addOpt a (Int.toNat (5 : Int))))) (ST.node
    (SV.tup []) ST.nil ST.nil) ST.nil))) (ST.node (SV.c (SC.ptr (46 : Nat) (0 : Nat))) (ST.node (SV.c (SC.int false IntKind.i64 (↑len : Int))) (ST.node (SV.c (SC.int false IntKind.u64
    (seenInt IntKind.u64 W (addOpt a (2 : Nat))) (Bd.w (0 : Int) (18446744073709551615 : Int) (seenInt_bd IntKind.u64 W (addOpt a (Int.toNat (2 : Int))))))) (ST.node (SV.c (SC.sliv a
    false len cap)) ST.nil ST.nil) (ST.node (SV.tup []) ST.nil ST.nil)) (ST.node (SV.c (SC.int false IntKind.i64 (smF (seenInt IntKind.u64 W (addOpt a (4 : Nat)))) Bd.any)) (ST.node
    (SV.tup []) ST.nil ST.nil) ST.nil)) (ST.node (SV.c (SC.ptv (addOpt a (Int.toNat (1 : Int))))) (ST.node (SV.c (SC.int false IntKind.u64 (seenInt IntKind.u64 W (addOpt a (3 : Nat)))
    (Bd.w (0 : Int) (18446744073709551615 : Int) (seenInt_bd IntKind.u64 W (addOpt a (Int.toNat (3 : Int))))))) (ST.node (SV.agg [SC.int false IntKind.u64 (seenInt IntKind.u64 W (addOpt
    a (1 : Nat))) (Bd.w (0 : Int) (18446744073709551615 : Int) (seenInt_bd IntKind.u64 W (addOpt a (Int.toNat (1 : Int))))), SC.int false IntKind.i64 (smF (seenInt IntKind.u64 W (addOpt
    a (2 : Nat)))) Bd.any, SC.int false IntKind.u64 (seenInt IntKind.u64 W (addOpt a (3 : Nat))) (Bd.w (0 : Int) (18446744073709551615 : Int) (seenInt_bd IntKind.u64 W (addOpt a
    (Int.toNat (3 : Int))))), SC.int false IntKind.i64 (smF (seenInt IntKind.u64 W (addOpt a (4 : Nat)))) Bd.any, SC.int false IntKind.i64 (smF (seenInt IntKind.u64 W (addOpt a (5 :
    Nat)))) Bd.any, SC.int false IntKind.u64 (seenInt IntKind.u64 W (addOpt a (6 : Nat))) (Bd.w (0 : Int) (18446744073709551615 : Int) (seenInt_bd IntKind.u64 W (addOpt a (Int.toNat (6
    : Int))))), SC.int false IntKind.i64 (smF (seenInt IntKind.u64 W (addOpt a (7 : Nat)))) Bd.any]) ST.nil ST.nil) ST.nil) (ST.node (SV.c (SC.int false IntKind.i64 (smF (seenInt
    IntKind.u64 W (addOpt a (5 : Nat)))) Bd.any)) (ST.node (SV.tup []) ST.nil ST.nil) ST.nil)))) (ST.node (SV.c (SC.int true IntKind.u64 (0 : Int))) (ST.node (SV.c (SC.boo true false))
    (ST.node (SV.c (SC.sliv a false len cap)) (ST.node (SV.c (SC.ptv (addOpt a (Int.toNat (2 : Int))))) (ST.node (SV.c (SC.int false IntKind.u64 (seenInt IntKind.u64 W (addOpt a (6 :
    Nat))) (Bd.w (0 : Int) (18446744073709551615 : Int) (seenInt_bd IntKind.u64 W (addOpt a (Int.toNat (6 : Int))))))) ST.nil ST.nil) (ST.node (SV.tup []) ST.nil ST.nil)) (ST.node (SV.c
    (SC.int false IntKind.u64 (seenInt IntKind.u64 W (addOpt a (4 : Nat))) (Bd.w (0 : Int) (18446744073709551615 : Int) (seenInt_bd IntKind.u64 W (addOpt a (Int.toNat (4 : Int)))))))
    (ST.node (SV.tup []) ST.nil ST.nil) ST.nil)) (ST.node (SV.c (SC.sliv a false len cap)) (ST.node (SV.c (SC.ptv (addOpt a (Int.toNat (3 : Int))))) (ST.node (SV.c (SC.int false
    IntKind.i64 (smF (seenInt IntKind.u64 W (addOpt a (7 : Nat)))) Bd.any)) ST.nil ST.nil) (ST.node (SV.tup []) ST.nil ST.nil)) (ST.node (SV.c (SC.int false IntKind.u64 (seenInt
    IntKind.u64 W (addOpt a (5 : Nat))) (Bd.w (0 : Int) (18446744073709551615 : Int) (seenInt_bd IntKind.u64 W (addOpt a (Int.toNat (5 : Int))))))) (ST.node (SV.tup []) ST.nil ST.nil)
    ST.nil))) (ST.node (SV.tup []) (ST.node (SV.c (SC.boo true false)) (ST.node (SV.c (SC.int false IntKind.i64 (smF (seenInt IntKind.u64 W (addOpt a (2 : Nat)))) Bd.any)) (ST.node
    (SV.c (SC.ptv (addOpt a (Int.toNat (7 : Int))))) ST.nil ST.nil) (ST.node (SV.tup []) ST.nil ST.nil)) (ST.node (SV.c (SC.sliv a false len cap)) (ST.node (SV.tup []) ST.nil ST.nil)
    ST.nil)) (ST.node (SV.c (SC.int false IntKind.u64 (seenInt IntKind.u64 W (addOpt a (1 : Nat))) (Bd.w (0 : Int) (18446744073709551615 : Int) (seenInt_bd IntKind.u64 W (addOpt a
    (Int.toNat (1 : Int))))))) (ST.node (SV.c (SC.sliv a false len cap)) (ST.node (SV.tup []) ST.nil ST.nil) ST.nil) (ST.node (SV.c (SC.sliv a false len cap)) (ST.node (SV.tup [])
    ST.nil ST.nil) ST.nil))))) []) (Mem.mk [((0 : Nat), SO.seen W), ((15 : Nat), SO.cells [SC.int true IntKind.u64 (0 : Int), SC.int true IntKind.i64 (0 : Int), SC.int true IntKind.u64
    (0 : Int), SC.int true IntKind.i64 (0 : Int), SC.int true IntKind.i64 (0 : Int), SC.int true IntKind.u64 (0 : Int), SC.int true IntKind.i64 (0 : Int)] (75 : Nat)), ((46 : Nat),
    SO.cells [SC.int false IntKind.u64 (seenInt IntKind.u64 W (addOpt a (1 : Nat))) (Bd.w (0 : Int) (18446744073709551615 : Int) (seenInt_bd IntKind.u64 W (addOpt a (Int.toNat (1 :
    Int))))), SC.int false IntKind.i64 (smF (seenInt IntKind.u64 W (addOpt a (2 : Nat)))) Bd.any, SC.int false IntKind.u64 (seenInt IntKind.u64 W (addOpt a (3 : Nat))) (Bd.w (0 : Int)
    (18446744073709551615 : Int) (seenInt_bd IntKind.u64 W (addOpt a (Int.toNat (3 : Int))))), SC.int false IntKind.i64 (smF (seenInt IntKind.u64 W (addOpt a (4 : Nat)))) Bd.any, SC.int
    false IntKind.i64 (smF (seenInt IntKind.u64 W (addOpt a (5 : Nat)))) Bd.any, SC.int false IntKind.u64 (seenInt IntKind.u64 W (addOpt a (6 : Nat))) (Bd.w (0 : Int)
    (18446744073709551615 : Int) (seenInt_bd IntKind.u64 W (addOpt a (Int.toNat (6 : Int))))), SC.int false IntKind.i64 (smF (seenInt IntKind.u64 W (addOpt a (7 : Nat)))) Bd.any] (75 :
    Nat))] (48 : Nat)) rdB ∧ True) ∧ True) ∧ True) ∧ True) ∧ True → W = W ∧ (((0 : Int) ≤ seenInt IntKind.u64 W (addOpt a (5 : Nat)) ∧ seenInt IntKind.u64 W (addOpt a (5 : Nat)) ≤
    (18446744073709551615 : Int)) ∧ (∀ (z : Un), True → W = W ∧ (((0 : Int) ≤ seenInt IntKind.u64 W (addOpt a (7 : Nat)) ∧ seenInt IntKind.u64 W (addOpt a (7 : Nat)) ≤
    (18446744073709551615 : Int)) ∧ (∀ (z : Un), True → W = W ∧ K (SF.mk (53 : Nat) (ST.node (SV.c (SC.sliv a false len cap)) (ST.node (SV.tup []) (ST.node (SV.c (SC.ptr (15 : Nat) (0 :
    Nat))) (ST.node (SV.tup []) (ST.node (SV.c (SC.sliv a false len cap)) (ST.node (SV.c (SC.ptv (addOpt a (Int.toNat (6 : Int))))) ST.nil ST.nil) (ST.node (SV.tup []) ST.nil ST.nil))
    (ST.node (SV.c (SC.ptv (addOpt a (Int.toNat (4 : Int))))) (ST.node (SV.tup []) ST.nil ST.nil) ST.nil)) (ST.node (SV.tup []) (ST.node (SV.c (SC.sliv a false len cap)) (ST.node (SV.c
    (SC.int false IntKind.u64 (seenInt IntKind.u64 W (addOpt a (7 : Nat))) (Bd.w (0 : Int) (18446744073709551615 : Int) (seenInt_bd IntKind.u64 W (addOpt a (Int.toNat (7 : Int)))))))
    ST.nil ST.nil) (ST.node (SV.tup []) ST.nil ST.nil)) (ST.node (SV.c (SC.ptv (addOpt a (Int.toNat (5 : Int))))) (ST.node (SV.tup []) ST.nil ST.nil) ST.nil))) (ST.node (SV.c (SC.ptr
    (46 : Nat) (0 : Nat))) (ST.node (SV.c (SC.int false IntKind.i64 (↑len : Int))) (ST.node (SV.c (SC.int false IntKind.u64 (seenInt IntKind.u64 W (addOpt a (2 : Nat))) (Bd.w (0 : Int)
    (18446744073709551615 : Int) (seenInt_bd IntKind.u64 W (addOpt a (Int.toNat (2 : Int))))))) (ST.node (SV.c (SC.sliv a false len cap)) ST.nil ST.nil) (ST.node (SV.tup []) ST.nil
    ST.nil)) (ST.node (SV.c (SC.int false IntKind.i64 (smF (seenInt IntKind.u64 W (addOpt a (4 : Nat)))) Bd.any)) (ST.node (SV.tup []) ST.nil ST.nil) ST.nil)) (ST.node (SV.c (SC.ptv
    (addOpt a (Int.toNat (1 : Int))))) (ST.node (SV.c (SC.int false IntKind.u64 (seenInt IntKind.u64 W (addOpt a (3 : Nat))) (Bd.w (0 : Int) (18446744073709551615 : Int) (seenInt_bd
    IntKind.u64 W (addOpt a (Int.toNat (3 : Int))))))) (ST.node (SV.agg [SC.int false IntKind.u64 (seenInt IntKind.u64 W (addOpt a (1 : Nat))) (Bd.w (0 : Int) (18446744073709551615 :
    Int) (seenInt_bd IntKind.u64 W (addOpt a (Int.toNat (1 : Int))))), SC.int false IntKind.i64 (smF (seenInt IntKind.u64 W (addOpt a (2 : Nat)))) Bd.any, SC.int false IntKind.u64
    (seenInt IntKind.u64 W (addOpt a (3 : Nat))) (Bd.w (0 : Int) (18446744073709551615 : Int) (seenInt_bd IntKind.u64 W (addOpt a (Int.toNat (3 : Int))))), SC.int false IntKind.i64 (smF
    (seenInt IntKind.u64 W (addOpt a (4 : Nat)))) Bd.any, SC.int false IntKind.i64 (smF (seenInt IntKind.u64 W (addOpt a (5 : Nat)))) Bd.any, SC.int false IntKind.u64 (seenInt
    IntKind.u64 W (addOpt a (6 : Nat))) (Bd.w (0 : Int) (18446744073709551615 : Int) (seenInt_bd IntKind.u64 W (addOpt a (Int.toNat (6 : Int))))), SC.int false IntKind.i64 (smF (seenInt
    IntKind.u64 W (addOpt a (7 : Nat)))) Bd.any]) ST.nil ST.nil) ST.nil) (ST.node (SV.c (SC.int false IntKind.i64 (smF (seenInt IntKind.u64 W (addOpt a (5 : Nat)))) Bd.any)) (ST.node
    (SV.tup []) ST.nil ST.nil) ST.nil)))) (ST.node (SV.c (SC.int true IntKind.u64 (0 : Int))) (ST.node (SV.c (SC.boo true false)) (ST.node (SV.c (SC.sliv a false len cap)) (ST.node
    (SV.c (SC.ptv (addOpt a (Int.toNat (2 : Int))))) (ST.node (SV.c (SC.int false IntKind.u64 (seenInt IntKind.u64 W (addOpt a (6 : Nat))) (Bd.w (0 : Int) (18446744073709551615 : Int)
    (seenInt_bd IntKind.u64 W (addOpt a (Int.toNat (6 : Int))))))) ST.nil ST.nil) (ST.node (SV.tup []) ST.nil ST.nil)) (ST.node (SV.c (SC.int false IntKind.u64 (seenInt IntKind.u64 W
    (addOpt a (4 : Nat))) (Bd.w (0 : Int) (18446744073709551615 : Int) (seenInt_bd IntKind.u64 W (addOpt a (Int.toNat (4 : Int))))))) (ST.node (SV.tup []) ST.nil ST.nil) ST.nil))
    (ST.node (SV.c (SC.sliv a false len cap)) (ST.node (SV.c (SC.ptv (addOpt a (Int.toNat (3 : Int))))) (ST.node (SV.c (SC.int false IntKind.i64 (smF (seenInt IntKind.u64 W (addOpt a (7
    : Nat)))) Bd.any)) ST.nil ST.nil) (ST.node (SV.tup []) ST.nil ST.nil)) (ST.node (SV.c (SC.int false IntKind.u64 (seenInt IntKind.u64 W (addOpt a (5 : Nat))) (Bd.w (0 : Int)
    (18446744073709551615 : Int) (seenInt_bd IntKind.u64 W (addOpt a (Int.toNat (5 : Int))))))) (ST.node (SV.tup []) ST.nil ST.nil) ST.nil))) (ST.node (SV.tup []) (ST.node (SV.c (SC.boo
    true false)) (ST.node (SV.c (SC.int false IntKind.i64 (smF (seenInt IntKind.u64 W (addOpt a (2 : Nat)))) Bd.any)) (ST.node (SV.c (SC.ptv (addOpt a (Int.toNat (7 : Int))))) ST.nil
    ST.nil) (ST.node (SV.tup []) ST.nil ST.nil)) (ST.node (SV.c (SC.sliv a false len cap)) (ST.node (SV.tup []) ST.nil ST.nil) ST.nil)) (ST.node (SV.c (SC.int false IntKind.u64 (seenInt
    IntKind.u64 W (addOpt a (1 : Nat))) (Bd.w (0 : Int) (18446744073709551615 : Int) (seenInt_bd IntKind.u64 W (addOpt a (Int.toNat (1 : Int))))))) (ST.node (SV.c (SC.sliv a false len
    cap)) (ST.node (SV.tup []) ST.nil ST.nil) ST.nil) (ST.node (SV.c (SC.sliv a false len cap)) (ST.node (SV.tup []) ST.nil ST.nil) ST.nil))))) []) (Mem.mk [((0 : Nat), SO.seen W), ((15
    : Nat), SO.cells [SC.int true IntKind.u64 (0 : Int), SC.int true IntKind.i64 (0 : Int), SC.int true IntKind.u64 (0 : Int), SC.int true IntKind.i64 (0 : Int), SC.int true IntKind.i64
    (0 : Int), SC.int true IntKind.u64 (0 : Int), SC.int true IntKind.i64 (0 : Int)] (75 : Nat)), ((46 : Nat), SO.cells [SC.int false IntKind.u64 (seenInt IntKind.u64 W (addOpt a (1 :
    Nat))) (Bd.w (0 : Int) (18446744073709551615 : Int) (seenInt_bd IntKind.u64 W (addOpt a (Int.toNat (1 : Int))))), SC.int false IntKind.i64 (smF (seenInt IntKind.u64 W (addOpt a (2 :
    Nat)))) Bd.any, SC.int false IntKind.u64 (seenInt IntKind.u64 W (addOpt a (3 : Nat))) (Bd.w (0 : Int) (18446744073709551615 : Int) (seenInt_bd IntKind.u64 W (addOpt a (Int.toNat (3
    : Int))))), SC.int false IntKind.i64 (smF (seenInt IntKind.u64 W (addOpt a (4 : Nat)))) Bd.any, SC.int false IntKind.i64 (smF (seenInt IntKind.u64 W (addOpt a (5 : Nat)))) Bd.any,
    SC.int false IntKind.u64 (seenInt IntKind.u64 W (addOpt a (6 : Nat))) (Bd.w (0 : Int) (18446744073709551615 : Int) (seenInt_bd IntKind.u64 W (addOpt a (Int.toNat (6 : Int))))),
    SC.int false IntKind.i64 (smF (seenInt IntKind.u64 W (addOpt a (7 : Nat)))) Bd.any] (75 : Nat))] (48 : Nat)) rdB ∧ True) ∧ True) ∧ True) ∧ True) ∧ True) ∧ True) ∧ True) ∧ (∀ (K : KO
    XE), ((0 : Int) ≤ seenInt IntKind.u64 W (addOpt a (4 : Nat)) ∧ seenInt IntKind.u64 W (addOpt a (4 : Nat)) ≤ (18446744073709551615 : Int)) ∧ (∀ (z : Un), True → W = W ∧ (((0 : Int) ≤
    seenInt IntKind.u64 W (addOpt a (5 : Nat)) ∧ seenInt IntKind.u64 W (addOpt a (5 : Nat)) ≤ (18446744073709551615 : Int)) ∧ (∀ (z : Un), True → W = W ∧ (((0 : Int) ≤ seenInt
    IntKind.u64 W (addOpt a (7 : Nat)) ∧ seenInt IntKind.u64 W (addOpt a (7 : Nat)) ≤ (18446744073709551615 : Int)) ∧ (∀ (z : Un), True → W = W ∧ (W = W ∧ K (SF.mk (53 : Nat) (ST.node
    (SV.c (SC.sliv a false len cap)) (ST.node (SV.tup []) (ST.node (SV.c (SC.ptr (15 : Nat) (0 : Nat))) (ST.node (SV.tup []) (ST.node (SV.c (SC.sliv a false len cap)) (ST.node (SV.c
    (SC.ptv (addOpt a (Int.toNat (6 : Int))))) ST.nil ST.nil) (ST.node (SV.tup []) ST.nil ST.nil)) (ST.node (SV.c (SC.ptv (addOpt a (Int.toNat (4 : Int))))) (ST.node (SV.tup []) ST.nil
    ST.nil) ST.nil)) (ST.node (SV.tup []) (ST.node (SV.c (SC.sliv a false len cap)) (ST.node (SV.c (SC.int false IntKind.u64 (seenInt IntKind.u64 W (addOpt a (7 : Nat))) (Bd.w (0 : Int)
    (18446744073709551615 : Int) (seenInt_bd IntKind.u64 W (addOpt a (Int.toNat (7 : Int))))))) ST.nil ST.nil) (ST.node (SV.tup []) ST.nil ST.nil)) (ST.node (SV.c (SC.ptv (addOpt a
    (Int.toNat (5 : Int))))) (ST.node (SV.tup []) ST.nil ST.nil) ST.nil))) (ST.node (SV.c (SC.ptr (46 : Nat) (0 : Nat))) (ST.node (SV.c (SC.int false IntKind.i64 (↑len : Int))) (ST.node
    (SV.c (SC.int false IntKind.u64 (seenInt IntKind.u64 W (addOpt a (2 : Nat))) (Bd.w (0 : Int) (18446744073709551615 : Int) (seenInt_bd IntKind.u64 W (addOpt a (Int.toNat (2 :
    Int))))))) (ST.node (SV.c (SC.sliv a false len cap)) ST.nil ST.nil) (ST.node (SV.tup []) ST.nil ST.nil)) (ST.node (SV.c (SC.int false IntKind.i64 (smF (seenInt IntKind.u64 W (addOpt
    a (4 : Nat)))) Bd.any)) (ST.node (SV.tup []) ST.nil ST.nil) ST.nil)) (ST.node (SV.c (SC.ptv (addOpt a (Int.toNat (1 : Int))))) (ST.node (SV.c (SC.int false IntKind.u64 (seenInt
    IntKind.u64 W (addOpt a (3 : Nat))) (Bd.w (0 : Int) (18446744073709551615 : Int) (seenInt_bd IntKind.u64 W (addOpt a (Int.toNat (3 : Int))))))) (ST.node (SV.agg [SC.int false
    IntKind.u64 (seenInt IntKind.u64 W (addOpt a (1 : Nat))) (Bd.w (0 : Int) (18446744073709551615 : Int) (seenInt_bd IntKind.u64 W (addOpt a (Int.toNat (1 : Int))))), SC.int false
    IntKind.i64 (smF (seenInt IntKind.u64 W (addOpt a (2 : Nat)))) Bd.any, SC.int false IntKind.u64 (seenInt IntKind.u64 W (addOpt a (3 : Nat))) (Bd.w (0 : Int) (18446744073709551615 :
    Int) (seenInt_bd IntKind.u64 W (addOpt a (Int.toNat (3 : Int))))), SC.int false IntKind.i64 (smF (seenInt IntKind.u64 W (addOpt a (4 : Nat)))) Bd.any, SC.int false IntKind.i64 (smF
    (seenInt IntKind.u64 W (addOpt a (5 : Nat)))) Bd.any, SC.int false IntKind.u64 (seenInt IntKind.u64 W (addOpt a (6 : Nat))) (Bd.w (0 : Int) (18446744073709551615 : Int) (seenInt_bd
    IntKind.u64 W (addOpt a (Int.toNat (6 : Int))))), SC.int false IntKind.i64 (smF (seenInt IntKind.u64 W (addOpt a (7 : Nat)))) Bd.any]) ST.nil ST.nil) ST.nil) (ST.node (SV.c (SC.int
    false IntKind.i64 (smF (seenInt IntKind.u64 W (addOpt a (5 : Nat)))) Bd.any)) (ST.node (SV.tup []) ST.nil ST.nil) ST.nil)))) (ST.node (SV.c (SC.int true IntKind.u64 (0 : Int)))
    (ST.node (SV.c (SC.boo true false)) (ST.node (SV.c (SC.sliv a false len cap)) (ST.node (SV.c (SC.ptv (addOpt a (Int.toNat (2 : Int))))) (ST.node (SV.c (SC.int false IntKind.u64
    (seenInt IntKind.u64 W (addOpt a (6 : Nat))) (Bd.w (0 : Int) (18446744073709551615 : Int) (seenInt_bd IntKind.u64 W (addOpt a (Int.toNat (6 : Int))))))) ST.nil ST.nil) (ST.node
    (SV.tup []) ST.nil ST.nil)) (ST.node (SV.c (SC.int false IntKind.u64 (seenInt IntKind.u64 W (addOpt a (4 : Nat))) (Bd.w (0 : Int) (18446744073709551615 : Int) (seenInt_bd
    IntKind.u64 W (addOpt a (Int.toNat (4 : Int))))))) (ST.node (SV.tup []) ST.nil ST.nil) ST.nil)) (ST.node (SV.c (SC.sliv a false len cap)) (ST.node (SV.c (SC.ptv (addOpt a (Int.toNat
    (3 : Int))))) (ST.node (SV.c (SC.int false IntKind.i64 (smF (seenInt IntKind.u64 W (addOpt a (7 : Nat)))) Bd.any)) ST.nil ST.nil) (ST.node (SV.tup []) ST.nil ST.nil)) (ST.node (SV.c
    (SC.int false IntKind.u64 (seenInt IntKind.u64 W (addOpt a (5 : Nat))) (Bd.w (0 : Int) (18446744073709551615 : Int) (seenInt_bd IntKind.u64 W (addOpt a (Int.toNat (5 : Int)))))))
    (ST.node (SV.tup []) ST.nil ST.nil) ST.nil))) (ST.node (SV.tup []) (ST.node (SV.c (SC.boo true false)) (ST.node (SV.c (SC.int false IntKind.i64 (smF (seenInt IntKind.u64 W (addOpt a
    (2 : Nat)))) Bd.any)) (ST.node (SV.c (SC.ptv (addOpt a (Int.toNat (7 : Int))))) ST.nil ST.nil) (ST.node (SV.tup []) ST.nil ST.nil)) (ST.node (SV.c (SC.sliv a false len cap))
    (ST.node (SV.tup []) ST.nil ST.nil) ST.nil)) (ST.node (SV.c (SC.int false IntKind.u64 (seenInt IntKind.u64 W (addOpt a (1 : Nat))) (Bd.w (0 : Int) (18446744073709551615 : Int)
    (seenInt_bd IntKind.u64 W (addOpt a (Int.toNat (1 : Int))))))) (ST.node (SV.c (SC.sliv a false len cap)) (ST.node (SV.tup []) ST.nil ST.nil) ST.nil) (ST.node (SV.c (SC.sliv a false
    len cap)) (ST.node (SV.tup []) ST.nil ST.nil) ST.nil))))) []) (Mem.mk [((0 : Nat), SO.seen W), ((15 : Nat), SO.cells [SC.int true IntKind.u64 (0 : Int), SC.int true IntKind.i64 (0 :
    Int), SC.int true IntKind.u64 (0 : Int), SC.int true IntKind.i64 (0 : Int), SC.int true IntKind.i64 (0 : Int), SC.int true IntKind.u64 (0 : Int), SC.int true IntKind.i64 (0 : Int)]
    (75 : Nat)), ((46 : Nat), SO.cells [SC.int false IntKind.u64 (seenInt IntKind.u64 W (addOpt a (1 : Nat))) (Bd.w (0 : Int) (18446744073709551615 : Int) (seenInt_bd IntKind.u64 W
    (addOpt a (Int.toNat (1 : Int))))), SC.int false IntKind.i64 (smF (seenInt IntKind.u64 W (addOpt a (2 : Nat)))) Bd.any, SC.int false IntKind.u64 (seenInt IntKind.u64 W (addOpt a (3
    : Nat))) (Bd.w (0 : Int) (18446744073709551615 : Int) (seenInt_bd IntKind.u64 W (addOpt a (Int.toNat (3 : Int))))), SC.int false IntKind.i64 (smF (seenInt IntKind.u64 W (addOpt a (4
    : Nat)))) Bd.any, SC.int false IntKind.i64 (smF (seenInt IntKind.u64 W (addOpt a (5 : Nat)))) Bd.any, SC.int false IntKind.u64 (seenInt IntKind.u64 W (addOpt a (6 : Nat))) (Bd.w (0
    : Int) (18446744073709551615 : Int) (seenInt_bd IntKind.u64 W (addOpt a (Int.toNat (6 : Int))))), SC.int false IntKind.i64 (smF (seenInt IntKind.u64 W (addOpt a (7 : Nat)))) Bd.any]
    (75 : Nat))] (48 : Nat)) rdB ∧ True) ∧ True) ∧ True) ∧ (∀ (K : KO XE), ((0 : Int) ≤ seenInt IntKind.u64 W (addOpt a (7 : Nat)) ∧ seenInt IntKind.u64 W (addOpt a (7 : Nat)) ≤
    (18446744073709551615 : Int)) ∧ (∀ (z : Un), True → W = W ∧ (W = W ∧ K (SF.mk (53 : Nat) (ST.node (SV.c (SC.sliv a false len cap)) (ST.node (SV.tup []) (ST.node (SV.c (SC.ptr (15 :
    Nat) (0 : Nat))) (ST.node (SV.tup []) (ST.node (SV.c (SC.sliv a false len cap)) (ST.node (SV.c (SC.ptv (addOpt a (Int.toNat (6 : Int))))) ST.nil ST.nil) (ST.node (SV.tup []) ST.nil
    ST.nil)) (ST.node (SV.c (SC.ptv (addOpt a (Int.toNat (4 : Int))))) (ST.node (SV.tup []) ST.nil ST.nil) ST.nil)) (ST.node (SV.tup []) (ST.node (SV.c (SC.sliv a false len cap))
    (ST.node (SV.c (SC.int false IntKind.u64 (seenInt IntKind.u64 W (addOpt a (7 : Nat))) (Bd.w (0 : Int) (18446744073709551615 : Int) (seenInt_bd IntKind.u64 W (addOpt a (Int.toNat (7
    : Int))))))) ST.nil ST.nil) (ST.node (SV.tup []) ST.nil ST.nil)) (ST.node (SV.c (SC.ptv (addOpt a (Int.toNat (5 : Int))))) (ST.node (SV.tup []) ST.nil ST.nil) ST.nil))) (ST.node
    (SV.c (SC.ptr (46 : Nat) (0 : Nat))) (ST.node (SV.c (SC.int false IntKind.i64 (↑len : Int))) (ST.node (SV.c (SC.int false IntKind.u64 (seenInt IntKind.u64 W (addOpt a (2 : Nat)))
    (Bd.w (0 : Int) (18446744073709551615 : Int) (seenInt_bd IntKind.u64 W (addOpt a (Int.toNat (2 : Int))))))) (ST.node (SV.c (SC.sliv a false len cap)) ST.nil ST.nil) (ST.node (SV.tup
    []) ST.nil ST.nil)) (ST.node (SV.c (SC.int false IntKind.i64 (smF (seenInt IntKind.u64 W (addOpt a (4 : Nat)))) Bd.any)) (ST.node (SV.tup []) ST.nil ST.nil) ST.nil)) (ST.node (SV.c
    (SC.ptv (addOpt a (Int.toNat (1 : Int))))) (ST.node (SV.c (SC.int false IntKind.u64 (seenInt IntKind.u64 W (addOpt a (3 : Nat))) (Bd.w (0 : Int) (18446744073709551615 : Int)
    (seenInt_bd IntKind.u64 W (addOpt a (Int.toNat (3 : Int))))))) (ST.node (SV.agg [SC.int false IntKind.u64 (seenInt IntKind.u64 W (addOpt a (1 : Nat))) (Bd.w (0 : Int)
    (18446744073709551615 : Int) (seenInt_bd IntKind.u64 W (addOpt a (Int.toNat (1 : Int))))), SC.int false IntKind.i64 (smF (seenInt IntKind.u64 W (addOpt a (2 : Nat)))) Bd.any, SC.int
    false IntKind.u64 (seenInt IntKind.u64 W (addOpt a (3 : Nat))) (Bd.w (0 : Int) (18446744073709551615 : Int) (seenInt_bd IntKind.u64 W (addOpt a (Int.toNat (3 : Int))))), SC.int
    false IntKind.i64 (smF (seenInt IntKind.u64 W (addOpt a (4 : Nat)))) Bd.any, SC.int false IntKind.i64 (smF (seenInt IntKind.u64 W (addOpt a (5 : Nat)))) Bd.any, SC.int false
    IntKind.u64 (seenInt IntKind.u64 W (addOpt a (6 : Nat))) (Bd.w (0 : Int) (18446744073709551615 : Int) (seenInt_bd IntKind.u64 W (addOpt a (Int.toNat (6 : Int))))), SC.int false
    IntKind.i64 (smF (seenInt IntKind.u64 W (addOpt a (7 : Nat)))) Bd.any]) ST.nil ST.nil) ST.nil) (ST.node (SV.c (SC.int false IntKind.i64 (smF (seenInt IntKind.u64 W (addOpt a (5 :
    Nat)))) Bd.any)) (ST.node (SV.tup []) ST.nil ST.nil) ST.nil)))) (ST.node (SV.c (SC.int true IntKind.u64 (0 : Int))) (ST.node (SV.c (SC.boo true false)) (ST.node (SV.c (SC.sliv a
    false len cap)) (ST.node (SV.c (SC.ptv (addOpt a (Int.toNat (2 : Int))))) (ST.node (SV.c (SC.int false IntKind.u64 (seenInt IntKind.u64 W (addOpt a (6 : Nat))) (Bd.w (0 : Int)
    (18446744073709551615 : Int) (seenInt_bd IntKind.u64 W (addOpt a (Int.toNat (6 : Int))))))) ST.nil ST.nil) (ST.node (SV.tup []) ST.nil ST.nil)) (ST.node (SV.c (SC.int false
    IntKind.u64 (seenInt IntKind.u64 W (addOpt a (4 : Nat))) (Bd.w (0 : Int) (18446744073709551615 : Int) (seenInt_bd IntKind.u64 W (addOpt a (Int.toNat (4 : Int))))))) (ST.node (SV.tup
    []) ST.nil ST.nil) ST.nil)) (ST.node (SV.c (SC.sliv a false len cap)) (ST.node (SV.c (SC.ptv (addOpt a (Int.toNat (3 : Int))))) (ST.node (SV.c (SC.int false IntKind.i64 (smF
    (seenInt IntKind.u64 W (addOpt a (7 : Nat)))) Bd.any)) ST.nil ST.nil) (ST.node (SV.tup []) ST.nil ST.nil)) (ST.node (SV.c (SC.int false IntKind.u64 (seenInt IntKind.u64 W (addOpt a
    (5 : Nat))) (Bd.w (0 : Int) (18446744073709551615 : Int) (seenInt_bd IntKind.u64 W (addOpt a (Int.toNat (5 : Int))))))) (ST.node (SV.tup []) ST.nil ST.nil) ST.nil))) (ST.node
    (SV.tup []) (ST.node (SV.c (SC.boo true false)) (ST.node (SV.c (SC.int false IntKind.i64 (smF (seenInt IntKind.u64 W (addOpt a (2 : Nat)))) Bd.any)) (ST.node (SV.c (SC.ptv (addOpt a
    (Int.toNat (7 : Int))))) ST.nil ST.nil) (ST.node (SV.tup []) ST.nil ST.nil)) (ST.node (SV.c (SC.sliv a false len cap)) (ST.node (SV.tup []) ST.nil ST.nil) ST.nil)) (ST.node (SV.c
    (SC.int false IntKind.u64 (seenInt IntKind.u64 W (addOpt a (1 : Nat))) (Bd.w (0 : Int) (18446744073709551615 : Int) (seenInt_bd IntKind.u64 W (addOpt a (Int.toNat (1 : Int)))))))
    (ST.node (SV.c (SC.sliv a false len cap)) (ST.node (SV.tup []) ST.nil ST.nil) ST.nil) (ST.node (SV.c (SC.sliv a false len cap)) (ST.node (SV.tup []) ST.nil ST.nil) ST.nil))))) [])
    (Mem.mk [((0 : Nat), SO.seen W), ((15 : Nat), SO.cells [SC.int true IntKind.u64 (0 : Int), SC.int true IntKind.i64 (0 : Int), SC.int true IntKind.u64 (0 : Int), SC.int true
    IntKind.i64 (0 : Int), SC.int true IntKind.i64 (0 : Int), SC.int true IntKind.u64 (0 : Int), SC.int true IntKind.i64 (0 : Int)] (75 : Nat)), ((46 : Nat), SO.cells [SC.int false
    IntKind.u64 (seenInt IntKind.u64 W (addOpt a (1 : Nat))) (Bd.w (0 : Int) (18446744073709551615 : Int) (seenInt_bd IntKind.u64 W (addOpt a (Int.toNat (1 : Int))))), SC.int false
    IntKind.i64 (smF (seenInt IntKind.u64 W (addOpt a (2 : Nat)))) Bd.any, SC.int false IntKind.u64 (seenInt IntKind.u64 W (addOpt a (3 : Nat))) (Bd.w (0 : Int) (18446744073709551615 :
    Int) (seenInt_bd IntKind.u64 W (addOpt a (Int.toNat (3 : Int))))), SC.int false IntKind.i64 (smF (seenInt IntKind.u64 W (addOpt a (4 : Nat)))) Bd.any, SC.int false IntKind.i64 (smF
    (seenInt IntKind.u64 W (addOpt a (5 : Nat)))) Bd.any, SC.int false IntKind.u64 (seenInt IntKind.u64 W (addOpt a (6 : Nat))) (Bd.w (0 : Int) (18446744073709551615 : Int) (seenInt_bd
    IntKind.u64 W (addOpt a (Int.toNat (6 : Int))))), SC.int false IntKind.i64 (smF (seenInt IntKind.u64 W (addOpt a (7 : Nat)))) Bd.any] (75 : Nat))] (48 : Nat)) rdB ∧ True) ∧ True) ∧
    True → W = W ∧ (((0 : Int) ≤ seenInt IntKind.u64 W (addOpt a (7 : Nat)) ∧ seenInt IntKind.u64 W (addOpt a (7 : Nat)) ≤ (18446744073709551615 : Int)) ∧ (∀ (z : Un), True → W = W ∧ K
    (SF.mk (53 : Nat) (ST.node (SV.c (SC.sliv a false len cap)) (ST.node (SV.tup []) (ST.node (SV.c (SC.ptr (15 : Nat) (0 : Nat))) (ST.node (SV.tup []) (ST.node (SV.c (SC.sliv a false
    len cap)) (ST.node (SV.c (SC.ptv (addOpt a (Int.toNat (6 : Int))))) ST.nil ST.nil) (ST.node (SV.tup []) ST.nil ST.nil)) (ST.node (SV.c (SC.ptv (addOpt a (Int.toNat (4 : Int)))))
    (ST.node (SV.tup []) ST.nil ST.nil) ST.nil)) (ST.node (SV.tup []) (ST.node (SV.c (SC.sliv a false len cap)) (ST.node (SV.c (SC.int false IntKind.u64 (seenInt IntKind.u64 W (addOpt a
    (7 : Nat))) (Bd.w (0 : Int) (18446744073709551615 : Int) (seenInt_bd IntKind.u64 W (addOpt a (Int.toNat (7 : Int))))))) ST.nil ST.nil) (ST.node (SV.tup []) ST.nil ST.nil)) (ST.node
    (SV.c (SC.ptv (addOpt a (Int.toNat (5 : Int))))) (ST.node (SV.tup []) ST.nil ST.nil) ST.nil))) (ST.node (SV.c (SC.ptr (46 : Nat) (0 : Nat))) (ST.node (SV.c (SC.int false IntKind.i64
    (↑len : Int))) (ST.node (SV.c (SC.int false IntKind.u64 (seenInt IntKind.u64 W (addOpt a (2 : Nat))) (Bd.w (0 : Int) (18446744073709551615 : Int) (seenInt_bd IntKind.u64 W (addOpt a
    (Int.toNat (2 : Int))))))) (ST.node (SV.c (SC.sliv a false len cap)) ST.nil ST.nil) (ST.node (SV.tup []) ST.nil ST.nil)) (ST.node (SV.c (SC.int false IntKind.i64 (smF (seenInt
    IntKind.u64 W (addOpt a (4 : Nat)))) Bd.any)) (ST.node (SV.tup []) ST.nil ST.nil) ST.nil)) (ST.node (SV.c (SC.ptv (addOpt a (Int.toNat (1 : Int))))) (ST.node (SV.c (SC.int false
    IntKind.u64 (seenInt IntKind.u64 W (addOpt a (3 : Nat))) (Bd.w (0 : Int) (18446744073709551615 : Int) (seenInt_bd IntKind.u64 W (addOpt a (Int.toNat (3 : Int))))))) (ST.node (SV.agg
    [SC.int false IntKind.u64 (seenInt IntKind.u64 W (addOpt a (1 : Nat))) (Bd.w (0 : Int) (18446744073709551615 : Int) (seenInt_bd IntKind.u64 W (addOpt a (Int.toNat (1 : Int))))),
    SC.int false IntKind.i64 (smF (seenInt IntKind.u64 W (addOpt a (2 : Nat)))) Bd.any, SC.int false IntKind.u64 (seenInt IntKind.u64 W (addOpt a (3 : Nat))) (Bd.w (0 : Int)
    (18446744073709551615 : Int) (seenInt_bd IntKind.u64 W (addOpt a (Int.toNat (3 : Int))))), SC.int false IntKind.i64 (smF (seenInt IntKind.u64 W (addOpt a (4 : Nat)))) Bd.any, SC.int
    false IntKind.i64 (smF (seenInt IntKind.u64 W (addOpt a (5 : Nat)))) Bd.any, SC.int false IntKind.u64 (seenInt IntKind.u64 W (addOpt a (6 : Nat))) (Bd.w (0 : Int)
    (18446744073709551615 : Int) (seenInt_bd IntKind.u64 W (addOpt a (Int.toNat (6 : Int))))), SC.int false IntKind.i64 (smF (seenInt IntKind.u64 W (addOpt a (7 : Nat)))) Bd.any])
    ST.nil ST.nil) ST.nil) (ST.node (SV.c (SC.int false IntKind.i64 (smF (seenInt IntKind.u64 W (addOpt a (5 : Nat)))) Bd.any)) (ST.node (SV.tup []) ST.nil ST.nil) ST.nil)))) (ST.node
    (SV.c (SC.int true IntKind.u64 (0 : Int))) (ST.node (SV.c (SC.boo true false)) (ST.node (SV.c (SC.sliv a false len cap)) (ST.node (SV.c (SC.ptv (addOpt a (Int.toNat (2 : Int)))))
    (ST.node (SV.c (SC.int false IntKind.u64 (seenInt IntKind.u64 W (addOpt a (6 : Nat))) (Bd.w (0 : Int) (18446744073709551615 : Int) (seenInt_bd IntKind.u64 W (addOpt a (Int.toNat (6
    : Int))))))) ST.nil ST.nil) (ST.node (SV.tup []) ST.nil ST.nil)) (ST.node (SV.c (SC.int false IntKind.u64 (seenInt IntKind.u64 W (addOpt a (4 : Nat))) (Bd.w (0 : Int)
    (18446744073709551615 : Int) (seenInt_bd IntKind.u64 W (addOpt a (Int.toNat (4 : Int))))))) (ST.node (SV.tup []) ST.nil ST.nil) ST.nil)) (ST.node (SV.c (SC.sliv a false len cap))
    (ST.node (SV.c (SC.ptv (addOpt a (Int.toNat (3 : Int))))) (ST.node (SV.c (SC.int false IntKind.i64 (smF (seenInt IntKind.u64 W (addOpt a (7 : Nat)))) Bd.any)) ST.nil ST.nil)
    (ST.node (SV.tup []) ST.nil ST.nil)) (ST.node (SV.c (SC.int false IntKind.u64 (seenInt IntKind.u64 W (addOpt a (5 : Nat))) (Bd.w (0 : Int) (18446744073709551615 : Int) (seenInt_bd
    IntKind.u64 W (addOpt a (Int.toNat (5 : Int))))))) (ST.node (SV.tup []) ST.nil ST.nil) ST.nil))) (ST.node (SV.tup []) (ST.node (SV.c (SC.boo true false)) (ST.node (SV.c (SC.int
    false IntKind.i64 (smF (seenInt IntKind.u64 W (addOpt a (2 : Nat)))) Bd.any)) (ST.node (SV.c (SC.ptv (addOpt a (Int.toNat (7 : Int))))) ST.nil ST.nil) (ST.node (SV.tup []) ST.nil
    ST.nil)) (ST.node (SV.c (SC.sliv a false len cap)) (ST.node (SV.tup []) ST.nil ST.nil) ST.nil)) (ST.node (SV.c (SC.int false IntKind.u64 (seenInt IntKind.u64 W (addOpt a (1 : Nat)))
    (Bd.w (0 : Int) (18446744073709551615 : Int) (seenInt_bd IntKind.u64 W (addOpt a (Int.toNat (1 : Int))))))) (ST.node (SV.c (SC.sliv a false len cap)) (ST.node (SV.tup []) ST.nil
    ST.nil) ST.nil) (ST.node (SV.c (SC.sliv a false len cap)) (ST.node (SV.tup []) ST.nil ST.nil) ST.nil))))) []) (Mem.mk [((0 : Nat), SO.seen W), ((15 : Nat), SO.cells [SC.int true
    IntKind.u64 (0 : Int), SC.int true IntKind.i64 (0 : Int), SC.int true IntKind.u64 (0 : Int), SC.int true IntKind.i64 (0 : Int), SC.int true IntKind.i64 (0 : Int), SC.int true
    IntKind.u64 (0 : Int), SC.int true IntKind.i64 (0 : Int)] (75 : Nat)), ((46 : Nat), SO.cells [SC.int false IntKind.u64 (seenInt IntKind.u64 W (addOpt a (1 : Nat))) (Bd.w (0 : Int)
    (18446744073709551615 : Int) (seenInt_bd IntKind.u64 W (addOpt a (Int.toNat (1 : Int))))), SC.int false IntKind.i64 (smF (seenInt IntKind.u64 W (addOpt a (2 : Nat)))) Bd.any, SC.int
    false IntKind.u64 (seenInt IntKind.u64 W (addOpt a (3 : Nat))) (Bd.w (0 : Int) (18446744073709551615 : Int) (seenInt_bd IntKind.u64 W (addOpt a (Int.toNat (3 : Int))))), SC.int
    false IntKind.i64 (smF (seenInt IntKind.u64 W (addOpt a (4 : Nat)))) Bd.any, SC.int false IntKind.i64 (smF (seenInt IntKind.u64 W (addOpt a (5 : Nat)))) Bd.any, SC.int false
    IntKind.u64 (seenInt IntKind.u64 W (addOpt a (6 : Nat))) (Bd.w (0 : Int) (18446744073709551615 : Int) (seenInt_bd IntKind.u64 W (addOpt a (Int.toNat (6 : Int))))), SC.int false
    IntKind.i64 (smF (seenInt IntKind.u64 W (addOpt a (7 : Nat)))) Bd.any] (75 : Nat))] (48 : Nat)) rdB ∧ True) ∧ True) ∧ True) ∧ True) ∧ True) ∧ (∀ (K : KO XE), ((0 : Int) ≤ seenInt
    IntKind.u64 W (addOpt a (5 : Nat)) ∧ seenInt IntKind.u64 W (addOpt a (5 : Nat)) ≤ (18446744073709551615 : Int)) ∧ (∀ (z : Un), True → W = W ∧ (((0 : Int) ≤ seenInt IntKind.u64 W
    (addOpt a (7 : Nat)) ∧ seenInt IntKind.u64 W (addOpt a (7 : Nat)) ≤ (18446744073709551615 : Int)) ∧ (∀ (z : Un), True → W = W ∧ (W = W ∧ K (SF.mk (53 : Nat) (ST.node (SV.c (SC.sliv
    a false len cap)) (ST.node (SV.tup []) (ST.node (SV.c (SC.ptr (15 : Nat) (0 : Nat))) (ST.node (SV.tup []) (ST.node (SV.c (SC.sliv a false len cap)) (ST.node (SV.c (SC.ptv (addOpt a
    (Int.toNat (6 : Int))))) ST.nil ST.nil) (ST.node (SV.tup []) ST.nil ST.nil)) (ST.node (SV.c (SC.ptv (addOpt a (Int.toNat (4 : Int))))) (ST.node (SV.tup []) ST.nil ST.nil) ST.nil))
    (ST.node (SV.tup []) (ST.node (SV.c (SC.sliv a false len cap)) (ST.node (SV.c (SC.int false IntKind.u64 (seenInt IntKind.u64 W (addOpt a (7 : Nat))) (Bd.w (0 : Int)
    (18446744073709551615 : Int) (seenInt_bd IntKind.u64 W (addOpt a (Int.toNat (7 : Int))))))) ST.nil ST.nil) (ST.node (SV.tup []) ST.nil ST.nil)) (ST.node (SV.c (SC.ptv (addOpt a
    (Int.toNat (5 : Int))))) (ST.node (SV.tup []) ST.nil ST.nil) ST.nil))) (ST.node (SV.c (SC.ptr (46 : Nat) (0 : Nat))) (ST.node (SV.c (SC.int false IntKind.i64 (↑len : Int))) (ST.node
    (SV.c (SC.int false IntKind.u64 (seenInt IntKind.u64 W (addOpt a (2 : Nat))) (Bd.w (0 : Int) (18446744073709551615 : Int) (seenInt_bd IntKind.u64 W (addOpt a (Int.toNat (2 :
    Int))))))) (ST.node (SV.c (SC.sliv a false len cap)) ST.nil ST.nil) (ST.node (SV.tup []) ST.nil ST.nil)) (ST.node (SV.c (SC.int false IntKind.i64 (smF (seenInt IntKind.u64 W (addOpt
    a (4 : Nat)))) Bd.any)) (ST.node (SV.tup []) ST.nil ST.nil) ST.nil)) (ST.node (SV.c (SC.ptv (addOpt a (Int.toNat (1 : Int))))) (ST.node (SV.c (SC.int false IntKind.u64 (seenInt
    IntKind.u64 W (addOpt a (3 : Nat))) (Bd.w (0 : Int) (18446744073709551615 : Int) (seenInt_bd IntKind.u64 W (addOpt a (Int.toNat (3 : Int))))))) (ST.node (SV.agg [SC.int false
    IntKind.u64 (seenInt IntKind.u64 W (addOpt a (1 : Nat))) (Bd.w (0 : Int) (18446744073709551615 : Int) (seenInt_bd IntKind.u64 W (addOpt a (Int.toNat (1 : Int))))), SC.int false
    IntKind.i64 (smF (seenInt IntKind.u64 W (addOpt a (2 : Nat)))) Bd.any, SC.int false IntKind.u64 (seenInt IntKind.u64 W (addOpt a (3 : Nat))) (Bd.w (0 : Int) (18446744073709551615 :
    Int) (seenInt_bd IntKind.u64 W (addOpt a (Int.toNat (3 : Int))))), SC.int false IntKind.i64 (smF (seenInt IntKind.u64 W (addOpt a (4 : Nat)))) Bd.any, SC.int false IntKind.i64 (smF
    (seenInt IntKind.u64 W (addOpt a (5 : Nat)))) Bd.any, SC.int false IntKind.u64 (seenInt IntKind.u64 W (addOpt a (6 : Nat))) (Bd.w (0 : Int) (18446744073709551615 : Int) (seenInt_bd
    IntKind.u64 W (addOpt a (Int.toNat (6 : Int))))), SC.int false IntKind.i64 (smF (seenInt IntKind.u64 W (addOpt a (7 : Nat)))) Bd.any]) ST.nil ST.nil) ST.nil) (ST.node (SV.c (SC.int
    false IntKind.i64 (smF (seenInt IntKind.u64 W (addOpt a (5 : Nat)))) Bd.any)) (ST.node (SV.tup []) ST.nil ST.nil) ST.nil)))) (ST.node (SV.c (SC.int true IntKind.u64 (0 : Int)))
    (ST.node (SV.c (SC.boo true false)) (ST.node (SV.c (SC.sliv a false len cap)) (ST.node (SV.c (SC.ptv (addOpt a (Int.toNat (2 : Int))))) (ST.node (SV.c (SC.int false IntKind.u64
    (seenInt IntKind.u64 W (addOpt a (6 : Nat))) (Bd.w (0 : Int) (18446744073709551615 : Int) (seenInt_bd IntKind.u64 W (addOpt a (Int.toNat (6 : Int))))))) ST.nil ST.nil) (ST.node
    (SV.tup []) ST.nil ST.nil)) (ST.node (SV.c (SC.int false IntKind.u64 (seenInt IntKind.u64 W (addOpt a (4 : Nat))) (Bd.w (0 : Int) (18446744073709551615 : Int) (seenInt_bd
    IntKind.u64 W (addOpt a (Int.toNat (4 : Int))))))) (ST.node (SV.tup []) ST.nil ST.nil) ST.nil)) (ST.node (SV.c (SC.sliv a false len cap)) (ST.node (SV.c (SC.ptv (addOpt a (Int.toNat
    (3 : Int))))) (ST.node (SV.c (SC.int false IntKind.i64 (smF (seenInt IntKind.u64 W (addOpt a (7 : Nat)))) Bd.any)) ST.nil ST.nil) (ST.node (SV.tup []) ST.nil ST.nil)) (ST.node (SV.c
    (SC.int false IntKind.u64 (seenInt IntKind.u64 W (addOpt a (5 : Nat))) (Bd.w (0 : Int) (18446744073709551615 : Int) (seenInt_bd IntKind.u64 W (addOpt a (Int.toNat (5 : Int)))))))
    (ST.node (SV.tup []) ST.nil ST.nil) ST.nil))) (ST.node (SV.tup []) (ST.node (SV.c (SC.boo true false)) (ST.node (SV.c (SC.int false IntKind.i64 (smF (seenInt IntKind.u64 W (addOpt a
    (2 : Nat)))) Bd.any)) (ST.node (SV.c (SC.ptv (addOpt a (Int.toNat (7 : Int))))) ST.nil ST.nil) (ST.node (SV.tup []) ST.nil ST.nil)) (ST.node (SV.c (SC.sliv a false len cap))
    (ST.node (SV.tup []) ST.nil ST.nil) ST.nil)) (ST.node (SV.c (SC.int false IntKind.u64 (seenInt IntKind.u64 W (addOpt a (1 : Nat))) (Bd.w (0 : Int) (18446744073709551615 : Int)
    (seenInt_bd IntKind.u64 W (addOpt a (Int.toNat (1 : Int))))))) (ST.node (SV.c (SC.sliv a false len cap)) (ST.node (SV.tup []) ST.nil ST.nil) ST.nil) (ST.node (SV.c (SC.sliv a false
    len cap)) (ST.node (SV.tup []) ST.nil ST.nil) ST.nil))))) []) (Mem.mk [((0 : Nat), SO.seen W), ((15 : Nat), SO.cells [SC.int true IntKind.u64 (0 : Int), SC.int true IntKind.i64 (0 :
    Int), SC.int true IntKind.u64 (0 : Int), SC.int true IntKind.i64 (0 : Int), SC.int true IntKind.i64 (0 : Int), SC.int true IntKind.u64 (0 : Int), SC.int true IntKind.i64 (0 : Int)]
    (75 : Nat)), ((46 : Nat), SO.cells [SC.int false IntKind.u64 (seenInt IntKind.u64 W (addOpt a (1 : Nat))) (Bd.w (0 : Int) (18446744073709551615 : Int) (seenInt_bd IntKind.u64 W
    (addOpt a (Int.toNat (1 : Int))))), SC.int false IntKind.i64 (smF (seenInt IntKind.u64 W (addOpt a (2 : Nat)))) Bd.any, SC.int false IntKind.u64 (seenInt IntKind.u64 W (addOpt a (3
    : Nat))) (Bd.w (0 : Int) (18446744073709551615 : Int) (seenInt_bd IntKind.u64 W (addOpt a (Int.toNat (3 : Int))))), SC.int false IntKind.i64 (smF (seenInt IntKind.u64 W (addOpt a (4
    : Nat)))) Bd.any, SC.int false IntKind.i64 (smF (seenInt IntKind.u64 W (addOpt a (5 : Nat)))) Bd.any, SC.int false IntKind.u64 (seenInt IntKind.u64 W (addOpt a (6 : Nat))) (Bd.w (0
    : Int) (18446744073709551615 : Int) (seenInt_bd IntKind.u64 W (addOpt a (Int.toNat (6 : Int))))), SC.int false IntKind.i64 (smF (seenInt IntKind.u64 W (addOpt a (7 : Nat)))) Bd.any]
    (75 : Nat))] (48 : Nat)) rdB ∧ True) ∧ True) ∧ True) ∧ (∀ (K : KO XE), ((0 : Int) ≤ seenInt IntKind.u64 W (addOpt a (7 : Nat)) ∧ seenInt IntKind.u64 W (addOpt a (7 : Nat)) ≤
    (18446744073709551615 : Int)) ∧ (∀ (z : Un), True → W = W ∧ (W = W ∧ K (SF.mk (53 : Nat) (ST.node (SV.c (SC.sliv a false len cap)) (ST.node (SV.tup []) (ST.node (SV.c (SC.ptr (15 :
    Nat) (0 : Nat))) (ST.node (SV.tup []) (ST.node (SV.c (SC.sliv a false len cap)) (ST.node (SV.c (SC.ptv (addOpt a (Int.toNat (6 : Int))))) ST.nil ST.nil) (ST.node (SV.tup []) ST.nil
    ST.nil)) (ST.node (SV.c (SC.ptv (addOpt a (Int.toNat (4 : Int))))) (ST.node (SV.tup []) ST.nil ST.nil) ST.nil)) (ST.node (SV.tup []) (ST.node (SV.c (SC.sliv a false len cap))
    (ST.node (SV.c (SC.int false IntKind.u64 (seenInt IntKind.u64 W (addOpt a (7 : Nat))) (Bd.w (0 : Int) (18446744073709551615 : Int) (seenInt_bd IntKind.u64 W (addOpt a (Int.toNat (7
    : Int))))))) ST.nil ST.nil) (ST.node (SV.tup []) ST.nil ST.nil)) (ST.node (SV.c (SC.ptv (addOpt a (Int.toNat (5 : Int))))) (ST.node (SV.tup []) ST.nil ST.nil) ST.nil))) (ST.node
    (SV.c (SC.ptr (46 : Nat) (0 : Nat))) (ST.node (SV.c (SC.int false IntKind.i64 (↑len : Int))) (ST.node (SV.c (SC.int false IntKind.u64 (seenInt IntKind.u64 W (addOpt a (2 : Nat)))
    (Bd.w (0 : Int) (18446744073709551615 : Int) (seenInt_bd IntKind.u64 W (addOpt a (Int.toNat (2 : Int))))))) (ST.node (SV.c (SC.sliv a false len cap)) ST.nil ST.nil) (ST.node (SV.tup
    []) ST.nil ST.nil)) (ST.node (SV.c (SC.int false IntKind.i64 (smF (seenInt IntKind.u64 W (addOpt a (4 : Nat)))) Bd.any)) (ST.node (SV.tup []) ST.nil ST.nil) ST.nil)) (ST.node (SV.c
    (SC.ptv (addOpt a (Int.toNat (1 : Int))))) (ST.node (SV.c (SC.int false IntKind.u64 (seenInt IntKind.u64 W (addOpt a (3 : Nat))) (Bd.w (0 : Int) (18446744073709551615 : Int)
    (seenInt_bd IntKind.u64 W (addOpt a (Int.toNat (3 : Int))))))) (ST.node (SV.agg [SC.int false IntKind.u64 (seenInt IntKind.u64 W (addOpt a (1 : Nat))) (Bd.w (0 : Int)
    (18446744073709551615 : Int) (seenInt_bd IntKind.u64 W (addOpt a (Int.toNat (1 : Int))))), SC.int false IntKind.i64 (smF (seenInt IntKind.u64 W (addOpt a (2 : Nat)))) Bd.any, SC.int
    false IntKind.u64 (seenInt IntKind.u64 W (addOpt a (3 : Nat))) (Bd.w (0 : Int) (18446744073709551615 : Int) (seenInt_bd IntKind.u64 W (addOpt a (Int.toNat (3 : Int))))), SC.int
    false IntKind.i64 (smF (seenInt IntKind.u64 W (addOpt a (4 : Nat)))) Bd.any, SC.int false IntKind.i64 (smF (seenInt IntKind.u64 W (addOpt a (5 : Nat)))) Bd.any, SC.int false
    IntKind.u64 (seenInt IntKind.u64 W (addOpt a (6 : Nat))) (Bd.w (0 : Int) (18446744073709551615 : Int) (seenInt_bd IntKind.u64 W (addOpt a (Int.toNat (6 : Int))))), SC.int false
    IntKind.i64 (smF (seenInt IntKind.u64 W (addOpt a (7 : Nat)))) Bd.any]) ST.nil ST.nil) ST.nil) (ST.node (SV.c (SC.int false IntKind.i64 (smF (seenInt IntKind.u64 W (addOpt a (5 :
    Nat)))) Bd.any)) (ST.node (SV.tup []) ST.nil ST.nil) ST.nil)))) (ST.node (SV.c (SC.int true IntKind.u64 (0 : Int))) (ST.node (SV.c (SC.boo true false)) (ST.node (SV.c (SC.sliv a
    false len cap)) (ST.node (SV.c (SC.ptv (addOpt a (Int.toNat (2 : Int))))) (ST.node (SV.c (SC.int false IntKind.u64 (seenInt IntKind.u64 W (addOpt a (6 : Nat))) (Bd.w (0 : Int)
    (18446744073709551615 : Int) (seenInt_bd IntKind.u64 W (addOpt a (Int.toNat (6 : Int))))))) ST.nil ST.nil) (ST.node (SV.tup []) ST.nil ST.nil)) (ST.node (SV.c (SC.int false
    IntKind.u64 (seenInt IntKind.u64 W (addOpt a (4 : Nat))) (Bd.w (0 : Int) (18446744073709551615 : Int) (seenInt_bd IntKind.u64 W (addOpt a (Int.toNat (4 : Int))))))) (ST.node (SV.tup
    []) ST.nil ST.nil) ST.nil)) (ST.node (SV.c (SC.sliv a false len cap)) (ST.node (SV.c (SC.ptv (addOpt a (Int.toNat (3 : Int))))) (ST.node (SV.c (SC.int false IntKind.i64 (smF
    (seenInt IntKind.u64 W (addOpt a (7 : Nat)))) Bd.any)) ST.nil ST.nil) (ST.node (SV.tup []) ST.nil ST.nil)) (ST.node (SV.c (SC.int false IntKind.u64 (seenInt IntKind.u64 W (addOpt a
    (5 : Nat))) (Bd.w (0 : Int) (18446744073709551615 : Int) (seenInt_bd IntKind.u64 W (addOpt a (Int.toNat (5 : Int))))))) (ST.node (SV.tup []) ST.nil ST.nil) ST.nil))) (ST.node
    (SV.tup []) (ST.node (SV.c (SC.boo true false)) (ST.node (SV.c (SC.int false IntKind.i64 (smF (seenInt IntKind.u64 W (addOpt a (2 : Nat)))) Bd.any)) (ST.node (SV.c (SC.ptv (addOpt a
    (Int.toNat (7 : Int))))) ST.nil ST.nil) (ST.node (SV.tup []) ST.nil ST.nil)) (ST.node (SV.c (SC.sliv a false len cap)) (ST.node (SV.tup []) ST.nil ST.nil) ST.nil)) (ST.node (SV.c
    (SC.int false IntKind.u64 (seenInt IntKind.u64 W (addOpt a (1 : Nat))) (Bd.w (0 : Int) (18446744073709551615 : Int) (seenInt_bd IntKind.u64 W (addOpt a (Int.toNat (1 : Int)))))))
    (ST.node (SV.c (SC.sliv a false len cap)) (ST.node (SV.tup []) ST.nil ST.nil) ST.nil) (ST.node (SV.c (SC.sliv a false len cap)) (ST.node (SV.tup []) ST.nil ST.nil) ST.nil))))) [])
    (Mem.mk [((0 : Nat), SO.seen W), ((15 : Nat), SO.cells [SC.int true IntKind.u64 (0 : Int), SC.int true IntKind.i64 (0 : Int), SC.int true IntKind.u64 (0 : Int), SC.int true
    IntKind.i64 (0 : Int), SC.int true IntKind.i64 (0 : Int), SC.int true IntKind.u64 (0 : Int), SC.int true IntKind.i64 (0 : Int)] (75 : Nat)), ((46 : Nat), SO.cells [SC.int false
    IntKind.u64 (seenInt IntKind.u64 W (addOpt a (1 : Nat))) (Bd.w (0 : Int) (18446744073709551615 : Int) (seenInt_bd IntKind.u64 W (addOpt a (Int.toNat (1 : Int))))), SC.int false
    IntKind.i64 (smF (seenInt IntKind.u64 W (addOpt a (2 : Nat)))) Bd.any, SC.int false IntKind.u64 (seenInt IntKind.u64 W (addOpt a (3 : Nat))) (Bd.w (0 : Int) (18446744073709551615 :
    Int) (seenInt_bd IntKind.u64 W (addOpt a (Int.toNat (3 : Int))))), SC.int false IntKind.i64 (smF (seenInt IntKind.u64 W (addOpt a (4 : Nat)))) Bd.any, SC.int false IntKind.i64 (smF
    (seenInt IntKind.u64 W (addOpt a (5 : Nat)))) Bd.any, SC.int false IntKind.u64 (seenInt IntKind.u64 W (addOpt a (6 : Nat))) (Bd.w (0 : Int) (18446744073709551615 : Int) (seenInt_bd
    IntKind.u64 W (addOpt a (Int.toNat (6 : Int))))), SC.int false IntKind.i64 (smF (seenInt IntKind.u64 W (addOpt a (7 : Nat)))) Bd.any] (75 : Nat))] (48 : Nat)) rdB ∧ True) ∧ True) ∧
    True → W = W ∧ (((0 : Int) ≤ seenInt IntKind.u64 W (addOpt a (7 : Nat)) ∧ seenInt IntKind.u64 W (addOpt a (7 : Nat)) ≤ (18446744073709551615 : Int)) ∧ (∀ (z : Un), True → W = W ∧ K
    (SF.mk (53 : Nat) (ST.node (SV.c (SC.sliv a false len cap)) (ST.node (SV.tup []) (ST.node (SV.c (SC.ptr (15 : Nat) (0 : Nat))) (ST.node (SV.tup []) (ST.node (SV.c (SC.sliv a false
    len cap)) (ST.node (SV.c (SC.ptv (addOpt a (Int.toNat (6 : Int))))) ST.nil ST.nil) (ST.node (SV.tup []) ST.nil ST.nil)) (ST.node (SV.c (SC.ptv (addOpt a (Int.toNat (4 : Int)))))
    (ST.node (SV.tup []) ST.nil ST.nil) ST.nil)) (ST.node (SV.tup []) (ST.node (SV.c (SC.sliv a false len cap)) (ST.node (SV.c (SC.int false IntKind.u64 (seenInt IntKind.u64 W (addOpt a
    (7 : Nat))) (Bd.w (0 : Int) (18446744073709551615 : Int) (seenInt_bd IntKind.u64 W (addOpt a (Int.toNat (7 : Int))))))) ST.nil ST.nil) (ST.node (SV.tup []) ST.nil ST.nil)) (ST.node
    (SV.c (SC.ptv (addOpt a (Int.toNat (5 : Int))))) (ST.node (SV.tup []) ST.nil ST.nil) ST.nil))) (ST.node (SV.c (SC.ptr (46 : Nat) (0 : Nat))) (ST.node (SV.c (SC.int false IntKind.i64
    (↑len : Int))) (ST.node (SV.c (SC.int false IntKind.u64 (seenInt IntKind.u64 W (addOpt a (2 : Nat))) (Bd.w (0 : Int) (18446744073709551615 : Int) (seenInt_bd IntKind.u64 W (addOpt a
    (Int.toNat (2 : Int))))))) (ST.node (SV.c (SC.sliv a false len cap)) ST.nil ST.nil) (ST.node (SV.tup []) ST.nil ST.nil)) (ST.node (SV.c (SC.int false IntKind.i64 (smF (seenInt
    IntKind.u64 W (addOpt a (4 : Nat)))) Bd.any)) (ST.node (SV.tup []) ST.nil ST.nil) ST.nil)) (ST.node (SV.c (SC.ptv (addOpt a (Int.toNat (1 : Int))))) (ST.node (SV.c (SC.int false
    IntKind.u64 (seenInt IntKind.u64 W (addOpt a (3 : Nat))) (Bd.w (0 : Int) (18446744073709551615 : Int) (seenInt_bd IntKind.u64 W (addOpt a (Int.toNat (3 : Int))))))) (ST.node (SV.agg
    [SC.int false IntKind.u64 (seenInt IntKind.u64 W (addOpt a (1 : Nat))) (Bd.w (0 : Int) (18446744073709551615 : Int) (seenInt_bd IntKind.u64 W (addOpt a (Int.toNat (1 : Int))))),
    SC.int false IntKind.i64 (smF (seenInt IntKind.u64 W (addOpt a (2 : Nat)))) Bd.any, SC.int false IntKind.u64 (seenInt IntKind.u64 W (addOpt a (3 : Nat))) (Bd.w (0 : Int)
    (18446744073709551615 : Int) (seenInt_bd IntKind.u64 W (addOpt a (Int.toNat (3 : Int))))), SC.int false IntKind.i64 (smF (seenInt IntKind.u64 W (addOpt a (4 : Nat)))) Bd.any, SC.int
    false IntKind.i64 (smF (seenInt IntKind.u64 W (addOpt a (5 : Nat)))) Bd.any, SC.int false IntKind.u64 (seenInt IntKind.u64 W (addOpt a (6 : Nat))) (Bd.w (0 : Int)
    (18446744073709551615 : Int) (seenInt_bd IntKind.u64 W (addOpt a (Int.toNat (6 : Int))))), SC.int false IntKind.i64 (smF (seenInt IntKind.u64 W (addOpt a (7 : Nat)))) Bd.any])
    ST.nil ST.nil) ST.nil) (ST.node (SV.c (SC.int false IntKind.i64 (smF (seenInt IntKind.u64 W (addOpt a (5 : Nat)))) Bd.any)) (ST.node (SV.tup []) ST.nil ST.nil) ST.nil)))) (ST.node
    (SV.c (SC.int true IntKind.u64 (0 : Int))) (ST.node (SV.c (SC.boo true false)) (ST.node (SV.c (SC.sliv a false len cap)) (ST.node (SV.c (SC.ptv (addOpt a (Int.toNat (2 : Int)))))
    (ST.node (SV.c (SC.int false IntKind.u64 (seenInt IntKind.u64 W (addOpt a (6 : Nat))) (Bd.w (0 : Int) (18446744073709551615 : Int) (seenInt_bd IntKind.u64 W (addOpt a (Int.toNat (6
    : Int))))))) ST.nil ST.nil) (ST.node (SV.tup []) ST.nil ST.nil)) (ST.node (SV.c (SC.int false IntKind.u64 (seenInt IntKind.u64 W (addOpt a (4 : Nat))) (Bd.w (0 : Int)
    (18446744073709551615 : Int) (seenInt_bd IntKind.u64 W (addOpt a (Int.toNat (4 : Int))))))) (ST.node (SV.tup []) ST.nil ST.nil) ST.nil)) (ST.node (SV.c (SC.sliv a false len cap))
    (ST.node (SV.c (SC.ptv (addOpt a (Int.toNat (3 : Int))))) (ST.node (SV.c (SC.int false IntKind.i64 (smF (seenInt IntKind.u64 W (addOpt a (7 : Nat)))) Bd.any)) ST.nil ST.nil)
    (ST.node (SV.tup []) ST.nil ST.nil)) (ST.node (SV.c (SC.int false IntKind.u64 (seenInt IntKind.u64 W (addOpt a (5 : Nat))) (Bd.w (0 : Int) (18446744073709551615 : Int) (seenInt_bd
    IntKind.u64 W (addOpt a (Int.toNat (5 : Int))))))) (ST.node (SV.tup []) ST.nil ST.nil) ST.nil))) (ST.node (SV.tup []) (ST.node (SV.c (SC.boo true false)) (ST.node (SV.c (SC.int
    false IntKind.i64 (smF (seenInt IntKind.u64 W (addOpt a (2 : Nat)))) Bd.any)) (ST.node (SV.c (SC.ptv (addOpt a (Int.toNat (7 : Int))))) ST.nil ST.nil) (ST.node (SV.tup []) ST.nil
    ST.nil)) (ST.node (SV.c (SC.sliv a false len cap)) (ST.node (SV.tup []) ST.nil ST.nil) ST.nil)) (ST.node (SV.c (SC.int false IntKind.u64 (seenInt IntKind.u64 W (addOpt a (1 : Nat)))
    (Bd.w (0 : Int) (18446744073709551615 : Int) (seenInt_bd IntKind.u64 W (addOpt a (Int.toNat (1 : Int))))))) (ST.node (SV.c (SC.sliv a false len cap)) (ST.node (SV.tup []) ST.nil
    ST.nil) ST.nil) (ST.node (SV.c (SC.sliv a false len cap)) (ST.node (SV.tup []) ST.nil ST.nil) ST.nil))))) []) (Mem.mk [((0 : Nat), SO.seen W), ((15 : Nat), SO.cells [SC.int true
    IntKind.u64 (0 : Int), SC.int true IntKind.i64 (0 : Int), SC.int true IntKind.u64 (0 : Int), SC.int true IntKind.i64 (0 : Int), SC.int true IntKind.i64 (0 : Int), SC.int true
    IntKind.u64 (0 : Int), SC.int true IntKind.i64 (0 : Int)] (75 : Nat)), ((46 : Nat), SO.cells [SC.int false IntKind.u64 (seenInt IntKind.u64 W (addOpt a (1 : Nat))) (Bd.w (0 : Int)
    (18446744073709551615 : Int) (seenInt_bd IntKind.u64 W (addOpt a (Int.toNat (1 : Int))))), SC.int false IntKind.i64 (smF (seenInt IntKind.u64 W (addOpt a (2 : Nat)))) Bd.any, SC.int
    false IntKind.u64 (seenInt IntKind.u64 W (addOpt a (3 : Nat))) (Bd.w (0 : Int) (18446744073709551615 : Int) (seenInt_bd IntKind.u64 W (addOpt a (Int.toNat (3 : Int))))), SC.int
    false IntKind.i64 (smF (seenInt IntKind.u64 W (addOpt a (4 : Nat)))) Bd.any, SC.int false IntKind.i64 (smF (seenInt IntKind.u64 W (addOpt a (5 : Nat)))) Bd.any, SC.int false
    IntKind.u64 (seenInt IntKind.u64 W (addOpt a (6 : Nat))) (Bd.w (0 : Int) (18446744073709551615 : Int) (seenInt_bd IntKind.u64 W (addOpt a (Int.toNat (6 : Int))))), SC.int false
    IntKind.i64 (smF (seenInt IntKind.u64 W (addOpt a (7 : Nat)))) Bd.any] (75 : Nat))] (48 : Nat)) rdB ∧ True) ∧ True) ∧ True) ∧ True) ∧ True → W = W ∧ (((0 : Int) ≤ seenInt
    IntKind.u64 W (addOpt a (5 : Nat)) ∧ seenInt IntKind.u64 W (addOpt a (5 : Nat)) ≤ (18446744073709551615 : Int)) ∧ (∀ (z : Un), True → W = W ∧ (((0 : Int) ≤ seenInt IntKind.u64 W
    (addOpt a (7 : Nat)) ∧ seenInt IntKind.u64 W (addOpt a (7 : Nat)) ≤ (18446744073709551615 : Int)) ∧ (∀ (z : Un), True → W = W ∧ K (SF.mk (53 : Nat) (ST.node (SV.c (SC.sliv a false
    len cap)) (ST.node (SV.tup []) (ST.node (SV.c (SC.ptr (15 : Nat) (0 : Nat))) (ST.node (SV.tup []) (ST.node (SV.c (SC.sliv a false len cap)) (ST.node (SV.c (SC.ptv (addOpt a
    (Int.toNat (6 : Int))))) ST.nil ST.nil) (ST.node (SV.tup []) ST.nil ST.nil)) (ST.node (SV.c (SC.ptv (addOpt a (Int.toNat (4 : Int))))) (ST.node (SV.tup []) ST.nil ST.nil) ST.nil))
    (ST.node (SV.tup []) (ST.node (SV.c (SC.sliv a false len cap)) (ST.node (SV.c (SC.int false IntKind.u64 (seenInt IntKind.u64 W (addOpt a (7 : Nat))) (Bd.w (0 : Int)
    (18446744073709551615 : Int) (seenInt_bd IntKind.u64 W (addOpt a (Int.toNat (7 : Int))))))) ST.nil ST.nil) (ST.node (SV.tup []) ST.nil ST.nil)) (ST.node (SV.c (SC.ptv (addOpt a
    (Int.toNat (5 : Int))))) (ST.node (SV.tup []) ST.nil ST.nil) ST.nil))) (ST.node (SV.c (SC.ptr (46 : Nat) (0 : Nat))) (ST.node (SV.c (SC.int false IntKind.i64 (↑len : Int))) (ST.node
    (SV.c (SC.int false IntKind.u64 (seenInt IntKind.u64 W (addOpt a (2 : Nat))) (Bd.w (0 : Int) (18446744073709551615 : Int) (seenInt_bd IntKind.u64 W (addOpt a (Int.toNat (2 :
    Int))))))) (ST.node (SV.c (SC.sliv a false len cap)) ST.nil ST.nil) (ST.node (SV.tup []) ST.nil ST.nil)) (ST.node (SV.c (SC.int false IntKind.i64 (smF (seenInt IntKind.u64 W (addOpt
    a (4 : Nat)))) Bd.any)) (ST.node (SV.tup []) ST.nil ST.nil) ST.nil)) (ST.node (SV.c (SC.ptv (addOpt a (Int.toNat (1 : Int))))) (ST.node (SV.c (SC.int false IntKind.u64 (seenInt
    IntKind.u64 W (addOpt a (3 : Nat))) (Bd.w (0 : Int) (18446744073709551615 : Int) (seenInt_bd IntKind.u64 W (addOpt a (Int.toNat (3 : Int))))))) (ST.node (SV.agg [SC.int false
    IntKind.u64 (seenInt IntKind.u64 W (addOpt a (1 : Nat))) (Bd.w (0 : Int) (18446744073709551615 : Int) (seenInt_bd IntKind.u64 W (addOpt a (Int.toNat (1 : Int))))), SC.int false
    IntKind.i64 (smF (seenInt IntKind.u64 W (addOpt a (2 : Nat)))) Bd.any, SC.int false IntKind.u64 (seenInt IntKind.u64 W (addOpt a (3 : Nat))) (Bd.w (0 : Int) (18446744073709551615 :
    Int) (seenInt_bd IntKind.u64 W (addOpt a (Int.toNat (3 : Int))))), SC.int false IntKind.i64 (smF (seenInt IntKind.u64 W (addOpt a (4 : Nat)))) Bd.any, SC.int false IntKind.i64 (smF
    (seenInt IntKind.u64 W (addOpt a (5 : Nat)))) Bd.any, SC.int false IntKind.u64 (seenInt IntKind.u64 W (addOpt a (6 : Nat))) (Bd.w (0 : Int) (18446744073709551615 : Int) (seenInt_bd
    IntKind.u64 W (addOpt a (Int.toNat (6 : Int))))), SC.int false IntKind.i64 (smF (seenInt IntKind.u64 W (addOpt a (7 : Nat)))) Bd.any]) ST.nil ST.nil) ST.nil) (ST.node (SV.c (SC.int
    false IntKind.i64 (smF (seenInt IntKind.u64 W (addOpt a (5 : Nat)))) Bd.any)) (ST.node (SV.tup []) ST.nil ST.nil) ST.nil)))) (ST.node (SV.c (SC.int true IntKind.u64 (0 : Int)))
    (ST.node (SV.c (SC.boo true false)) (ST.node (SV.c (SC.sliv a false len cap)) (ST.node (SV.c (SC.ptv (addOpt a (Int.toNat (2 : Int))))) (ST.node (SV.c (SC.int false IntKind.u64
    (seenInt IntKind.u64 W (addOpt a (6 : Nat))) (Bd.w (0 : Int) (18446744073709551615 : Int) (seenInt_bd IntKind.u64 W (addOpt a (Int.toNat (6 : Int))))))) ST.nil ST.nil) (ST.node
    (SV.tup []) ST.nil ST.nil)) (ST.node (SV.c (SC.int false IntKind.u64 (seenInt IntKind.u64 W (addOpt a (4 : Nat))) (Bd.w (0 : Int) (18446744073709551615 : Int) (seenInt_bd
    IntKind.u64 W (addOpt a (Int.toNat (4 : Int))))))) (ST.node (SV.tup []) ST.nil ST.nil) ST.nil)) (ST.node (SV.c (SC.sliv a false len cap)) (ST.node (SV.c (SC.ptv (addOpt a (Int.toNat
    (3 : Int))))) (ST.node (SV.c (SC.int false IntKind.i64 (smF (seenInt IntKind.u64 W (addOpt a (7 : Nat)))) Bd.any)) ST.nil ST.nil) (ST.node (SV.tup []) ST.nil ST.nil)) (ST.node (SV.c
    (SC.int false IntKind.u64 (seenInt IntKind.u64 W (addOpt a (5 : Nat))) (Bd.w (0 : Int) (18446744073709551615 : Int) (seenInt_bd IntKind.u64 W (addOpt a (Int.toNat (5 : Int)))))))
    (ST.node (SV.tup []) ST.nil ST.nil) ST.nil))) (ST.node (SV.tup []) (ST.node (SV.c (SC.boo true false)) (ST.node (SV.c (SC.int false IntKind.i64 (smF (seenInt IntKind.u64 W (addOpt a
    (2 : Nat)))) Bd.any)) (ST.node (SV.c (SC.ptv (addOpt a (Int.toNat (7 : Int))))) ST.nil ST.nil) (ST.node (SV.tup []) ST.nil ST.nil)) (ST.node (SV.c (SC.sliv a false len cap))
    (ST.node (SV.tup []) ST.nil ST.nil) ST.nil)) (ST.node (SV.c (SC.int false IntKind.u64 (seenInt IntKind.u64 W (addOpt a (1 : Nat))) (Bd.w (0 : Int) (18446744073709551615 : Int)
    (seenInt_bd IntKind.u64 W (addOpt a (Int.toNat (1 : Int))))))) (ST.node (SV.c (SC.sliv a false len cap)) (ST.node (SV.tup []) ST.nil ST.nil) ST.nil) (ST.node (SV.c (SC.sliv a false
    len cap)) (ST.node (SV.tup []) ST.nil ST.nil) ST.nil))))) []) (Mem.mk [((0 : Nat), SO.seen W), ((15 : Nat), SO.cells [SC.int true IntKind.u64 (0 : Int), SC.int true IntKind.i64 (0 :
    Int), SC.int true IntKind.u64 (0 : Int), SC.int true IntKind.i64 (0 : Int), SC.int true IntKind.i64 (0 : Int), SC.int true IntKind.u64 (0 : Int), SC.int true IntKind.i64 (0 : Int)]
    (75 : Nat)), ((46 : Nat), SO.cells [SC.int false IntKind.u64 (seenInt IntKind.u64 W (addOpt a (1 : Nat))) (Bd.w (0 : Int) (18446744073709551615 : Int) (seenInt_bd IntKind.u64 W
    (addOpt a (Int.toNat (1 : Int))))), SC.int false IntKind.i64 (smF (seenInt IntKind.u64 W (addOpt a (2 : Nat)))) Bd.any, SC.int false IntKind.u64 (seenInt IntKind.u64 W (addOpt a (3
    : Nat))) (Bd.w (0 : Int) (18446744073709551615 : Int) (seenInt_bd IntKind.u64 W (addOpt a (Int.toNat (3 : Int))))), SC.int false IntKind.i64 (smF (seenInt IntKind.u64 W (addOpt a (4
    : Nat)))) Bd.any, SC.int false IntKind.i64 (smF (seenInt IntKind.u64 W (addOpt a (5 : Nat)))) Bd.any, SC.int false IntKind.u64 (seenInt IntKind.u64 W (addOpt a (6 : Nat))) (Bd.w (0
    : Int) (18446744073709551615 : Int) (seenInt_bd IntKind.u64 W (addOpt a (Int.toNat (6 : Int))))), SC.int false IntKind.i64 (smF (seenInt IntKind.u64 W (addOpt a (7 : Nat)))) Bd.any]
    (75 : Nat))] (48 : Nat)) rdB ∧ True) ∧ True) ∧ True) ∧ True) ∧ True) ∧ True) ∧ True → W = W ∧ (((0 : Int) ≤ seenInt IntKind.u64 W (addOpt a (4 : Nat)) ∧ seenInt IntKind.u64 W
    (addOpt a (4 : Nat)) ≤ (18446744073709551615 : Int)) ∧ (∀ (z : Un), True → W = W ∧ (((0 : Int) ≤ seenInt IntKind.u64 W (addOpt a (5 : Nat)) ∧ seenInt IntKind.u64 W (addOpt a (5 :
    Nat)) ≤ (18446744073709551615 : Int)) ∧ (∀ (z : Un), True → W = W ∧ (((0 : Int) ≤ seenInt IntKind.u64 W (addOpt a (7 : Nat)) ∧ seenInt IntKind.u64 W (addOpt a (7 : Nat)) ≤
    (18446744073709551615 : Int)) ∧ (∀ (z : Un), True → W = W ∧ K (SF.mk (53 : Nat) (ST.node (SV.c (SC.sliv a false len cap)) (ST.node (SV.tup []) (ST.node (SV.c (SC.ptr (15 : Nat) (0 :
    Nat))) (ST.node (SV.tup []) (ST.node (SV.c (SC.sliv a false len cap)) (ST.node (SV.c (SC.ptv (addOpt a (Int.toNat (6 : Int))))) ST.nil ST.nil) (ST.node (SV.tup []) ST.nil ST.nil))
    (ST.node (SV.c (SC.ptv (addOpt a (Int.toNat (4 : Int))))) (ST.node (SV.tup []) ST.nil ST.nil) ST.nil)) (ST.node (SV.tup []) (ST.node (SV.c (SC.sliv a false len cap)) (ST.node (SV.c
    (SC.int false IntKind.u64 (seenInt IntKind.u64 W (addOpt a (7 : Nat))) (Bd.w (0 : Int) (18446744073709551615 : Int) (seenInt_bd IntKind.u64 W (addOpt a (Int.toNat (7 : Int)))))))
    ST.nil ST.nil) (ST.node (SV.tup []) ST.nil ST.nil)) (ST.node (SV.c (SC.ptv (addOpt a (Int.toNat (5 : Int))))) (ST.node (SV.tup []) ST.nil ST.nil) ST.nil))) (ST.node (SV.c (SC.ptr
    (46 : Nat) (0 : Nat))) (ST.node (SV.c (SC.int false IntKind.i64 (↑len : Int))) (ST.node (SV.c (SC.int false IntKind.u64 (seenInt IntKind.u64 W (addOpt a (2 : Nat))) (Bd.w (0 : Int)
    (18446744073709551615 : Int) (seenInt_bd IntKind.u64 W (addOpt a (Int.toNat (2 : Int))))))) (ST.node (SV.c (SC.sliv a false len cap)) ST.nil ST.nil) (ST.node (SV.tup []) ST.nil
    ST.nil)) (ST.node (SV.c (SC.int false IntKind.i64 (smF (seenInt IntKind.u64 W (addOpt a (4 : Nat)))) Bd.any)) (ST.node (SV.tup []) ST.nil ST.nil) ST.nil)) (ST.node (SV.c (SC.ptv
    (addOpt a (Int.toNat (1 : Int))))) (ST.node (SV.c (SC.int false IntKind.u64 (seenInt IntKind.u64 W (addOpt a (3 : Nat))) (Bd.w (0 : Int) (18446744073709551615 : Int) (seenInt_bd
    IntKind.u64 W (addOpt a (Int.toNat (3 : Int))))))) (ST.node (SV.agg [SC.int false IntKind.u64 (seenInt IntKind.u64 W (addOpt a (1 : Nat))) (Bd.w (0 : Int) (18446744073709551615 :
    Int) (seenInt_bd IntKind.u64 W (addOpt a (Int.toNat (1 : Int))))), SC.int false IntKind.i64 (smF (seenInt IntKind.u64 W (addOpt a (2 : Nat)))) Bd.any, SC.int false IntKind.u64
    (seenInt IntKind.u64 W (addOpt a (3 : Nat))) (Bd.w (0 : Int) (18446744073709551615 : Int) (seenInt_bd IntKind.u64 W (addOpt a (Int.toNat (3 : Int))))), SC.int false IntKind.i64 (smF
    (seenInt IntKind.u64 W (addOpt a (4 : Nat)))) Bd.any, SC.int false IntKind.i64 (smF (seenInt IntKind.u64 W (addOpt a (5 : Nat)))) Bd.any, SC.int false IntKind.u64 (seenInt
    IntKind.u64 W (addOpt a (6 : Nat))) (Bd.w (0 : Int) (18446744073709551615 : Int) (seenInt_bd IntKind.u64 W (addOpt a (Int.toNat (6 : Int))))), SC.int false IntKind.i64 (smF (seenInt
    IntKind.u64 W (addOpt a (7 : Nat)))) Bd.any]) ST.nil ST.nil) ST.nil) (ST.node (SV.c (SC.int false IntKind.i64 (smF (seenInt IntKind.u64 W (addOpt a (5 : Nat)))) Bd.any)) (ST.node
    (SV.tup []) ST.nil ST.nil) ST.nil)))) (ST.node (SV.c (SC.int true IntKind.u64 (0 : Int))) (ST.node (SV.c (SC.boo true false)) (ST.node (SV.c (SC.sliv a false len cap)) (ST.node
    (SV.c (SC.ptv (addOpt a (Int.toNat (2 : Int))))) (ST.node (SV.c (SC.int false IntKind.u64 (seenInt IntKind.u64 W (addOpt a (6 : Nat))) (Bd.w (0 : Int) (18446744073709551615 : Int)
    (seenInt_bd IntKind.u64 W (addOpt a (Int.toNat (6 : Int))))))) ST.nil ST.nil) (ST.node (SV.tup []) ST.nil ST.nil)) (ST.node (SV.c (SC.int false IntKind.u64 (seenInt IntKind.u64 W
    (addOpt a (4 : Nat))) (Bd.w (0 : Int) (18446744073709551615 : Int) (seenInt_bd IntKind.u64 W (addOpt a (Int.toNat (4 : Int))))))) (ST.node (SV.tup []) ST.nil ST.nil) ST.nil))
    (ST.node (SV.c (SC.sliv a false len cap)) (ST.node (SV.c (SC.ptv (addOpt a (Int.toNat (3 : Int))))) (ST.node (SV.c (SC.int false IntKind.i64 (smF (seenInt IntKind.u64 W (addOpt a (7
    : Nat)))) Bd.any)) ST.nil ST.nil) (ST.node (SV.tup []) ST.nil ST.nil)) (ST.node (SV.c (SC.int false IntKind.u64 (seenInt IntKind.u64 W (addOpt a (5 : Nat))) (Bd.w (0 : Int)
    (18446744073709551615 : Int) (seenInt_bd IntKind.u64 W (addOpt a (Int.toNat (5 : Int))))))) (ST.node (SV.tup []) ST.nil ST.nil) ST.nil))) (ST.node (SV.tup []) (ST.node (SV.c (SC.boo
    true false)) (ST.node (SV.c (SC.int false IntKind.i64 (smF (seenInt IntKind.u64 W (addOpt a (2 : Nat)))) Bd.any)) (ST.node (SV.c (SC.ptv (addOpt a (Int.toNat (7 : Int))))) ST.nil
    ST.nil) (ST.node (SV.tup []) ST.nil ST.nil)) (ST.node (SV.c (SC.sliv a false len cap)) (ST.node (SV.tup []) ST.nil ST.nil) ST.nil)) (ST.node (SV.c (SC.int false IntKind.u64 (seenInt
    IntKind.u64 W (addOpt a (1 : Nat))) (Bd.w (0 : Int) (18446744073709551615 : Int) (seenInt_bd IntKind.u64 W (addOpt a (Int.toNat (1 : Int))))))) (ST.node (SV.c (SC.sliv a false len
    cap)) (ST.node (SV.tup []) ST.nil ST.nil) ST.nil) (ST.node (SV.c (SC.sliv a false len cap)) (ST.node (SV.tup []) ST.nil ST.nil) ST.nil))))) []) (Mem.mk [((0 : Nat), SO.seen W), ((15
    : Nat), SO.cells [SC.int true IntKind.u64 (0 : Int), SC.int true IntKind.i64 (0 : Int), SC.int true IntKind.u64 (0 : Int), SC.int true IntKind.i64 (0 : Int), SC.int true IntKind.i64
    (0 : Int), SC.int true IntKind.u64 (0 : Int), SC.int true IntKind.i64 (0 : Int)] (75 : Nat)), ((46 : Nat), SO.cells [SC.int false IntKind.u64 (seenInt IntKind.u64 W (addOpt a (1 :
    Nat))) (Bd.w (0 : Int) (18446744073709551615 : Int) (seenInt_bd IntKind.u64 W (addOpt a (Int.toNat (1 : Int))))), SC.int false IntKind.i64 (smF (seenInt IntKind.u64 W (addOpt a (2 :
    Nat)))) Bd.any, SC.int false IntKind.u64 (seenInt IntKind.u64 W (addOpt a (3 : Nat))) (Bd.w (0 : Int) (18446744073709551615 : Int) (seenInt_bd IntKind.u64 W (addOpt a (Int.toNat (3
    : Int))))), SC.int false IntKind.i64 (smF (seenInt IntKind.u64 W (addOpt a (4 : Nat)))) Bd.any, SC.int false IntKind.i64 (smF (seenInt IntKind.u64 W (addOpt a (5 : Nat)))) Bd.any,
    SC.int false IntKind.u64 (seenInt IntKind.u64 W (addOpt a (6 : Nat))) (Bd.w (0 : Int) (18446744073709551615 : Int) (seenInt_bd IntKind.u64 W (addOpt a (Int.toNat (6 : Int))))),
    SC.int false IntKind.i64 (smF (seenInt IntKind.u64 W (addOpt a (7 : Nat)))) Bd.any] (75 : Nat))] (48 : Nat)) rdB ∧ True) ∧ True) ∧ True) ∧ True) ∧ True) ∧ True) ∧ True) ∧ True) ∧
    True) ∧ (∀ (K : KO XE), ((0 : Int) ≤ seenInt IntKind.u64 W (addOpt a (2 : Nat)) ∧ seenInt IntKind.u64 W (addOpt a (2 : Nat)) ≤ (18446744073709551615 : Int)) ∧ (∀ (z : Un), True → W
    = W ∧ (((0 : Int) ≤ seenInt IntKind.u64 W (addOpt a (4 : Nat)) ∧ seenInt IntKind.u64 W (addOpt a (4 : Nat)) ≤ (18446744073709551615 : Int)) ∧ (∀ (z : Un), True → W = W ∧ (((0 : Int)
    ≤ seenInt IntKind.u64 W (addOpt a (5 : Nat)) ∧ seenInt IntKind.u64 W (addOpt a (5 : Nat)) ≤ (18446744073709551615 : Int)) ∧ (∀ (z : Un), True → W = W ∧ (((0 : Int) ≤ seenInt
    IntKind.u64 W (addOpt a (7 : Nat)) ∧ seenInt IntKind.u64 W (addOpt a (7 : Nat)) ≤ (18446744073709551615 : Int)) ∧ (∀ (z : Un), True → W = W ∧ (W = W ∧ K (SF.mk (53 : Nat) (ST.node
    (SV.c (SC.sliv a false len cap)) (ST.node (SV.tup []) (ST.node (SV.c (SC.ptr (15 : Nat) (0 : Nat))) (ST.node (SV.tup []) (ST.node (SV.c (SC.sliv a false len cap)) (ST.node (SV.c
    (SC.ptv (addOpt a (Int.toNat (6 : Int))))) ST.nil ST.nil) (ST.node (SV.tup []) ST.nil ST.nil)) (ST.node (SV.c (SC.ptv (addOpt a (Int.toNat (4 : Int))))) (ST.node (SV.tup []) ST.nil
    ST.nil) ST.nil)) (ST.node (SV.tup []) (ST.node (SV.c (SC.sliv a false len cap)) (ST.node (SV.c (SC.int false IntKind.u64 (seenInt IntKind.u64 W (addOpt a (7 : Nat))) (Bd.w (0 : Int)
    (18446744073709551615 : Int) (seenInt_bd IntKind.u64 W (addOpt a (Int.toNat (7 : Int))))))) ST.nil ST.nil) (ST.node (SV.tup []) ST.nil ST.nil)) (ST.node (SV.c (SC.ptv (addOpt a
    (Int.toNat (5 : Int))))) (ST.node (SV.tup []) ST.nil ST.nil) ST.nil))) (ST.node (SV.c (SC.ptr (46 : Nat) (0 : Nat))) (ST.node (SV.c (SC.int false IntKind.i64 (↑len : Int))) (ST.node
    (SV.c (SC.int false IntKind.u64 (seenInt IntKind.u64 W (addOpt a (2 : Nat))) (Bd.w (0 : Int) (18446744073709551615 : Int) (seenInt_bd IntKind.u64 W (addOpt a (Int.toNat (2 :
    Int))))))) (ST.node (SV.c (SC.sliv a false len cap)) ST.nil ST.nil) (ST.node (SV.tup []) ST.nil ST.nil)) (ST.node (SV.c (SC.int false IntKind.i64 (smF (seenInt IntKind.u64 W (addOpt
    a (4 : Nat)))) Bd.any)) (ST.node (SV.tup []) ST.nil ST.nil) ST.nil)) (ST.node (SV.c (SC.ptv (addOpt a (Int.toNat (1 : Int))))) (ST.node (SV.c (SC.int false IntKind.u64 (seenInt
    IntKind.u64 W (addOpt a (3 : Nat))) (Bd.w (0 : Int) (18446744073709551615 : Int) (seenInt_bd IntKind.u64 W (addOpt a (Int.toNat (3 : Int))))))) (ST.node (SV.agg [SC.int false
    IntKind.u64 (seenInt IntKind.u64 W (addOpt a (1 : Nat))) (Bd.w (0 : Int) (18446744073709551615 : Int) (seenInt_bd IntKind.u64 W (addOpt a (Int.toNat (1 : Int))))), SC.int false
    IntKind.i64 (smF (seenInt IntKind.u64 W (addOpt a (2 : Nat)))) Bd.any, SC.int false IntKind.u64 (seenInt IntKind.u64 W (addOpt a (3 : Nat))) (Bd.w (0 : Int) (18446744073709551615 :
    Int) (seenInt_bd IntKind.u64 W (addOpt a (Int.toNat (3 : Int))))), SC.int false IntKind.i64 (smF (seenInt IntKind.u64 W (addOpt a (4 : Nat)))) Bd.any, SC.int false IntKind.i64 (smF
    (seenInt IntKind.u64 W (addOpt a (5 : Nat)))) Bd.any, SC.int false IntKind.u64 (seenInt IntKind.u64 W (addOpt a (6 : Nat))) (Bd.w (0 : Int) (18446744073709551615 : Int) (seenInt_bd
    IntKind.u64 W (addOpt a (Int.toNat (6 : Int))))), SC.int false IntKind.i64 (smF (seenInt IntKind.u64 W (addOpt a (7 : Nat)))) Bd.any]) ST.nil ST.nil) ST.nil) (ST.node (SV.c (SC.int
    false IntKind.i64 (smF (seenInt IntKind.u64 W (addOpt a (5 : Nat)))) Bd.any)) (ST.node (SV.tup []) ST.nil ST.nil) ST.nil)))) (ST.node (SV.c (SC.int true IntKind.u64 (0 : Int)))
    (ST.node (SV.c (SC.boo true false)) (ST.node (SV.c (SC.sliv a false len cap)) (ST.node (SV.c (SC.ptv (addOpt a (Int.toNat (2 : Int))))) (ST.node (SV.c (SC.int false IntKind.u64
    (seenInt IntKind.u64 W (addOpt a (6 : Nat))) (Bd.w (0 : Int) (18446744073709551615 : Int) (seenInt_bd IntKind.u64 W (addOpt a (Int.toNat (6 : Int))))))) ST.nil ST.nil) (ST.node
    (SV.tup []) ST.nil ST.nil)) (ST.node (SV.c (SC.int false IntKind.u64 (seenInt IntKind.u64 W (addOpt a (4 : Nat))) (Bd.w (0 : Int) (18446744073709551615 : Int) (seenInt_bd
    IntKind.u64 W (addOpt a (Int.toNat (4 : Int))))))) (ST.node (SV.tup []) ST.nil ST.nil) ST.nil)) (ST.node (SV.c (SC.sliv a false len cap)) (ST.node (SV.c (SC.ptv (addOpt a (Int.toNat
    (3 : Int))))) (ST.node (SV.c (SC.int false IntKind.i64 (smF (seenInt IntKind.u64 W (addOpt a (7 : Nat)))) Bd.any)) ST.nil ST.nil) (ST.node (SV.tup []) ST.nil ST.nil)) (ST.node (SV.c
    (SC.int false IntKind.u64 (seenInt IntKind.u64 W (addOpt a (5 : Nat))) (Bd.w (0 : Int) (18446744073709551615 : Int) (seenInt_bd IntKind.u64 W (addOpt a (Int.toNat (5 : Int)))))))
    (ST.node (SV.tup []) ST.nil ST.nil) ST.nil))) (ST.node (SV.tup []) (ST.node (SV.c (SC.boo true false)) (ST.node (SV.c (SC.int false IntKind.i64 (smF (seenInt IntKind.u64 W (addOpt a
    (2 : Nat)))) Bd.any)) (ST.node (SV.c (SC.ptv (addOpt a (Int.toNat (7 : Int))))) ST.nil ST.nil) (ST.node (SV.tup []) ST.nil ST.nil)) (ST.node (SV.c (SC.sliv a false len cap))
    (ST.node (SV.tup []) ST.nil ST.nil) ST.nil)) (ST.node (SV.c (SC.int false IntKind.u64 (seenInt IntKind.u64 W (addOpt a (1 : Nat))) (Bd.w (0 : Int) (18446744073709551615 : Int)
    (seenInt_bd IntKind.u64 W (addOpt a (Int.toNat (1 : Int))))))) (ST.node (SV.c (SC.sliv a false len cap)) (ST.node (SV.tup []) ST.nil ST.nil) ST.nil) (ST.node (SV.c (SC.sliv a false
    len cap)) (ST.node (SV.tup []) ST.nil ST.nil) ST.nil))))) []) (Mem.mk [((0 : Nat), SO.seen W), ((15 : Nat), SO.cells [SC.int true IntKind.u64 (0 : Int), SC.int true IntKind.i64 (0 :
    Int), SC.int true IntKind.u64 (0 : Int), SC.int true IntKind.i64 (0 : Int), SC.int true IntKind.i64 (0 : Int), SC.int true IntKind.u64 (0 : Int), SC.int true IntKind.i64 (0 : Int)]
    (75 : Nat)), ((46 : Nat), SO.cells [SC.int false IntKind.u64 (seenInt IntKind.u64 W (addOpt a (1 : Nat))) (Bd.w (0 : Int) (18446744073709551615 : Int) (seenInt_bd IntKind.u64 W
    (addOpt a (Int.toNat (1 : Int))))), SC.int false IntKind.i64 (smF (seenInt IntKind.u64 W (addOpt a (2 : Nat)))) Bd.any, SC.int false IntKind.u64 (seenInt IntKind.u64 W (addOpt a (3
    : Nat))) (Bd.w (0 : Int) (18446744073709551615 : Int) (seenInt_bd IntKind.u64 W (addOpt a (Int.toNat (3 : Int))))), SC.int false IntKind.i64 (smF (seenInt IntKind.u64 W (addOpt a (4
    : Nat)))) Bd.any, SC.int false IntKind.i64 (smF (seenInt IntKind.u64 W (addOpt a (5 : Nat)))) Bd.any, SC.int false IntKind.u64 (seenInt IntKind.u64 W (addOpt a (6 : Nat))) (Bd.w (0
    : Int) (18446744073709551615 : Int) (seenInt_bd IntKind.u64 W (addOpt a (Int.toNat (6 : Int))))), SC.int false IntKind.i64 (smF (seenInt IntKind.u64 W (addOpt a (7 : Nat)))) Bd.any]
    (75 : Nat))] (48 : Nat)) rdB ∧ True) ∧ True) ∧ True) ∧ (∀ (K : KO XE), ((0 : Int) ≤ seenInt IntKind.u64 W (addOpt a (7 : Nat)) ∧ seenInt IntKind.u64 W (addOpt a (7 : Nat)) ≤
    (18446744073709551615 : Int)) ∧ (∀ (z : Un), True → W = W ∧ (W = W ∧ K (SF.mk (53 : Nat) (ST.node (SV.c (SC.sliv a false len cap)) (ST.node (SV.tup []) (ST.node (SV.c (SC.ptr (15 :
    Nat) (0 : Nat))) (ST.node (SV.tup []) (ST.node (SV.c (SC.sliv a false len cap)) (ST.node (SV.c (SC.ptv (addOpt a (Int.toNat (6 : Int))))) ST.nil ST.nil) (ST.node (SV.tup []) ST.nil
    ST.nil)) (ST.node (SV.c (SC.ptv (addOpt a (Int.toNat (4 : Int))))) (ST.node (SV.tup []) ST.nil ST.nil) ST.nil)) (ST.node (SV.tup []) (ST.node (SV.c (SC.sliv a false len cap))
    (ST.node (SV.c (SC.int false IntKind.u64 (seenInt IntKind.u64 W (addOpt a (7 : Nat))) (Bd.w (0 : Int) (18446744073709551615 : Int) (seenInt_bd IntKind.u64 W (addOpt a (Int.toNat (7
    : Int))))))) ST.nil ST.nil) (ST.node (SV.tup []) ST.nil ST.nil)) (ST.node (SV.c (SC.ptv (addOpt a (Int.toNat (5 : Int))))) (ST.node (SV.tup []) ST.nil ST.nil) ST.nil))) (ST.node
    (SV.c (SC.ptr (46 : Nat) (0 : Nat))) (ST.node (SV.c (SC.int false IntKind.i64 (↑len : Int))) (ST.node (SV.c (SC.int false IntKind.u64 (seenInt IntKind.u64 W (addOpt a (2 : Nat)))
    (Bd.w (0 : Int) (18446744073709551615 : Int) (seenInt_bd IntKind.u64 W (addOpt a (Int.toNat (2 : Int))))))) (ST.node (SV.c (SC.sliv a false len cap)) ST.nil ST.nil) (ST.node (SV.tup
    []) ST.nil ST.nil)) (ST.node (SV.c (SC.int false IntKind.i64 (smF (seenInt IntKind.u64 W (addOpt a (4 : Nat)))) Bd.any)) (ST.node (SV.tup []) ST.nil ST.nil) ST.nil)) (ST.node (SV.c
    (SC.ptv (addOpt a (Int.toNat (1 : Int))))) (ST.node (SV.c (SC.int false IntKind.u64 (seenInt IntKind.u64 W (addOpt a (3 : Nat))) (Bd.w (0 : Int) (18446744073709551615 : Int)
    (seenInt_bd IntKind.u64 W (addOpt a (Int.toNat (3 : Int))))))) (ST.node (SV.agg [SC.int false IntKind.u64 (seenInt IntKind.u64 W (addOpt a (1 : Nat))) (Bd.w (0 : Int)
    (18446744073709551615 : Int) (seenInt_bd IntKind.u64 W (addOpt a (Int.toNat (1 : Int))))), SC.int false IntKind.i64 (smF (seenInt IntKind.u64 W (addOpt a (2 : Nat)))) Bd.any, SC.int
    false IntKind.u64 (seenInt IntKind.u64 W (addOpt a (3 : Nat))) (Bd.w (0 : Int) (18446744073709551615 : Int) (seenInt_bd IntKind.u64 W (addOpt a (Int.toNat (3 : Int))))), SC.int
    false IntKind.i64 (smF (seenInt IntKind.u64 W (addOpt a (4 : Nat)))) Bd.any, SC.int false IntKind.i64 (smF (seenInt IntKind.u64 W (addOpt a (5 : Nat)))) Bd.any, SC.int false
    IntKind.u64 (seenInt IntKind.u64 W (addOpt a (6 : Nat))) (Bd.w (0 : Int) (18446744073709551615 : Int) (seenInt_bd IntKind.u64 W (addOpt a (Int.toNat (6 : Int))))), SC.int false
    IntKind.i64 (smF (seenInt IntKind.u64 W (addOpt a (7 : Nat)))) Bd.any]) ST.nil ST.nil) ST.nil) (ST.node (SV.c (SC.int false IntKind.i64 (smF (seenInt IntKind.u64 W (addOpt a (5 :
    Nat)))) Bd.any)) (ST.node (SV.tup []) ST.nil ST.nil) ST.nil)))) (ST.node (SV.c (SC.int true IntKind.u64 (0 : Int))) (ST.node (SV.c (SC.boo true false)) (ST.node (SV.c (SC.sliv a
    false len cap)) (ST.node (SV.c (SC.ptv (addOpt a (Int.toNat (2 : Int))))) (ST.node (SV.c (SC.int false IntKind.u64 (seenInt IntKind.u64 W (addOpt a (6 : Nat))) (Bd.w (0 : Int)
    (18446744073709551615 : Int) (seenInt_bd IntKind.u64 W (addOpt a (Int.toNat (6 : Int))))))) ST.nil ST.nil) (ST.node (SV.tup []) ST.nil ST.nil)) (ST.node (SV.c (SC.int false
    IntKind.u64 (seenInt IntKind.u64 W (addOpt a (4 : Nat))) (Bd.w (0 : Int) (18446744073709551615 : Int) (seenInt_bd IntKind.u64 W (addOpt a (Int.toNat (4 : Int))))))) (ST.node (SV.tup
    []) ST.nil ST.nil) ST.nil)) (ST.node (SV.c (SC.sliv a false len cap)) (ST.node (SV.c (SC.ptv (addOpt a (Int.toNat (3 : Int))))) (ST.node (SV.c (SC.int false IntKind.i64 (smF
    (seenInt IntKind.u64 W (addOpt a (7 : Nat)))) Bd.any)) ST.nil ST.nil) (ST.node (SV.tup []) ST.nil ST.nil)) (ST.node (SV.c (SC.int false IntKind.u64 (seenInt IntKind.u64 W (addOpt a
    (5 : Nat))) (Bd.w (0 : Int) (18446744073709551615 : Int) (seenInt_bd IntKind.u64 W (addOpt a (Int.toNat (5 : Int))))))) (ST.node (SV.tup []) ST.nil ST.nil) ST.nil))) (ST.node
    (SV.tup []) (ST.node (SV.c (SC.boo true false)) (ST.node (SV.c (SC.int false IntKind.i64 (smF (seenInt IntKind.u64 W (addOpt a (2 : Nat)))) Bd.any)) (ST.node (SV.c (SC.ptv (addOpt a
    (Int.toNat (7 : Int))))) ST.nil ST.nil) (ST.node (SV.tup []) ST.nil ST.nil)) (ST.node (SV.c (SC.sliv a false len cap)) (ST.node (SV.tup []) ST.nil ST.nil) ST.nil)) (ST.node (SV.c
    (SC.int false IntKind.u64 (seenInt IntKind.u64 W (addOpt a (1 : Nat))) (Bd.w (0 : Int) (18446744073709551615 : Int) (seenInt_bd IntKind.u64 W (addOpt a (Int.toNat (1 : Int)))))))
    (ST.node (SV.c (SC.sliv a false len cap)) (ST.node (SV.tup []) ST.nil ST.nil) ST.nil) (ST.node (SV.c (SC.sliv a false len cap)) (ST.node (SV.tup []) ST.nil ST.nil) ST.nil))))) [])
    (Mem.mk [((0 : Nat), SO.seen W), ((15 : Nat), SO.cells [SC.int true IntKind.u64 (0 : Int), SC.int true IntKind.i64 (0 : Int), SC.int true IntKind.u64 (0 : Int), SC.int true
    IntKind.i64 (0 : Int), SC.int true IntKind.i64 (0 : Int), SC.int true IntKind.u64 (0 : Int), SC.int true IntKind.i64 (0 : Int)] (75 : Nat)), ((46 : Nat), SO.cells [SC.int false
    IntKind.u64 (seenInt IntKind.u64 W (addOpt a (1 : Nat))) (Bd.w (0 : Int) (18446744073709551615 : Int) (seenInt_bd IntKind.u64 W (addOpt a (Int.toNat (1 : Int))))), SC.int false
    IntKind.i64 (smF (seenInt IntKind.u64 W (addOpt a (2 : Nat)))) Bd.any, SC.int false IntKind.u64 (seenInt IntKind.u64 W (addOpt a (3 : Nat))) (Bd.w (0 : Int) (18446744073709551615 :
    Int) (seenInt_bd IntKind.u64 W (addOpt a (Int.toNat (3 : Int))))), SC.int false IntKind.i64 (smF (seenInt IntKind.u64 W (addOpt a (4 : Nat)))) Bd.any, SC.int false IntKind.i64 (smF
    (seenInt IntKind.u64 W (addOpt a (5 : Nat)))) Bd.any, SC.int false IntKind.u64 (seenInt IntKind.u64 W (addOpt a (6 : Nat))) (Bd.w (0 : Int) (18446744073709551615 : Int) (seenInt_bd
    IntKind.u64 W (addOpt a (Int.toNat (6 : Int))))), SC.int false IntKind.i64 (smF (seenInt IntKind.u64 W (addOpt a (7 : Nat)))) Bd.any] (75 : Nat))] (48 : Nat)) rdB ∧ True) ∧ True) ∧
    True → W = W ∧ (((0 : Int) ≤ seenInt IntKind.u64 W (addOpt a (7 : Nat)) ∧ seenInt IntKind.u64 W (addOpt a (7 : Nat)) ≤ (18446744073709551615 : Int)) ∧ (∀ (z : Un), True → W = W ∧ K
    (SF.mk (53 : Nat) (ST.node (SV.c (SC.sliv a false len cap)) (ST.node (SV.tup []) (ST.node (SV.c (SC.ptr (15 : Nat) (0 : Nat))) (ST.node (SV.tup []) (ST.node (SV.c (SC.sliv a false
    len cap)) (ST.node (SV.c (SC.ptv (addOpt a (Int.toNat (6 : Int))))) ST.nil ST.nil) (ST.node (SV.tup []) ST.nil ST.nil)) (ST.node (SV.c (SC.ptv (addOpt a (Int.toNat (4 : Int)))))
    (ST.node (SV.tup []) ST.nil ST.nil) ST.nil)) (ST.node (SV.tup []) (ST.node (SV.c (SC.sliv a false len cap)) (ST.node (SV.c (SC.int false IntKind.u64 (seenInt IntKind.u64 W (addOpt a
    (7 : Nat))) (Bd.w (0 : Int) (18446744073709551615 : Int) (seenInt_bd IntKind.u64 W (addOpt a (Int.toNat (7 : Int))))))) ST.nil ST.nil) (ST.node (SV.tup []) ST.nil ST.nil)) (ST.node
    (SV.c (SC.ptv (addOpt a (Int.toNat (5 : Int))))) (ST.node (SV.tup []) ST.nil ST.nil) ST.nil))) (ST.node (SV.c (SC.ptr (46 : Nat) (0 : Nat))) (ST.node (SV.c (SC.int false IntKind.i64
    (↑len : Int))) (ST.node (SV.c (SC.int false IntKind.u64 (seenInt IntKind.u64 W (addOpt a (2 : Nat))) (Bd.w (0 : Int) (18446744073709551615 : Int) (seenInt_bd IntKind.u64 W (addOpt a
    (Int.toNat (2 : Int))))))) (ST.node (SV.c (SC.sliv a false len cap)) ST.nil ST.nil) (ST.node (SV.tup []) ST.nil ST.nil)) (ST.node (SV.c (SC.int false IntKind.i64 (smF (seenInt
    IntKind.u64 W (addOpt a (4 : Nat)))) Bd.any)) (ST.node (SV.tup []) ST.nil ST.nil) ST.nil)) (ST.node (SV.c (SC.ptv (addOpt a (Int.toNat (1 : Int))))) (ST.node (SV.c (SC.int false
    IntKind.u64 (seenInt IntKind.u64 W (addOpt a (3 : Nat))) (Bd.w (0 : Int) (18446744073709551615 : Int) (seenInt_bd IntKind.u64 W (addOpt a (Int.toNat (3 : Int))))))) (ST.node (SV.agg
    [SC.int false IntKind.u64 (seenInt IntKind.u64 W (addOpt a (1 : Nat))) (Bd.w (0 : Int) (18446744073709551615 : Int) (seenInt_bd IntKind.u64 W (addOpt a (Int.toNat (1 : Int))))),
    SC.int false IntKind.i64 (smF (seenInt IntKind.u64 W (addOpt a (2 : Nat)))) Bd.any, SC.int false IntKind.u64 (seenInt IntKind.u64 W (addOpt a (3 : Nat))) (Bd.w (0 : Int)
    (18446744073709551615 : Int) (seenInt_bd IntKind.u64 W (addOpt a (Int.toNat (3 : Int))))), SC.int false IntKind.i64 (smF (seenInt IntKind.u64 W (addOpt a (4 : Nat)))) Bd.any, SC.int
    false IntKind.i64 (smF (seenInt IntKind.u64 W (addOpt a (5 : Nat)))) Bd.any, SC.int false IntKind.u64 (seenInt IntKind.u64 W (addOpt a (6 : Nat))) (Bd.w (0 : Int)
    (18446744073709551615 : Int) (seenInt_bd IntKind.u64 W (addOpt a (Int.toNat (6 : Int))))), SC.int false IntKind.i64 (smF (seenInt IntKind.u64 W (addOpt a (7 : Nat)))) Bd.any])
    ST.nil ST.nil) ST.nil) (ST.node (SV.c (SC.int false IntKind.i64 (smF (seenInt IntKind.u64 W (addOpt a (5 : Nat)))) Bd.any)) (ST.node (SV.tup []) ST.nil ST.nil) ST.nil)))) (ST.node
    (SV.c (SC.int true IntKind.u64 (0 : Int))) (ST.node (SV.c (SC.boo true false)) (ST.node (SV.c (SC.sliv a false len cap)) (ST.node (SV.c (SC.ptv (addOpt a (Int.toNat (2 : Int)))))
    (ST.node (SV.c (SC.int false IntKind.u64 (seenInt IntKind.u64 W (addOpt a (6 : Nat))) (Bd.w (0 : Int) (18446744073709551615 : Int) (seenInt_bd IntKind.u64 W (addOpt a (Int.toNat (6
    : Int))))))) ST.nil ST.nil) (ST.node (SV.tup []) ST.nil ST.nil)) (ST.node (SV.c (SC.int false IntKind.u64 (seenInt IntKind.u64 W (addOpt a (4 : Nat))) (Bd.w (0 : Int)
    (18446744073709551615 : Int) (seenInt_bd IntKind.u64 W (addOpt a (Int.toNat (4 : Int))))))) (ST.node (SV.tup []) ST.nil ST.nil) ST.nil)) (ST.node (SV.c (SC.sliv a false len cap))
    (ST.node (SV.c (SC.ptv (addOpt a (Int.toNat (3 : Int))))) (ST.node (SV.c (SC.int false IntKind.i64 (smF (seenInt IntKind.u64 W (addOpt a (7 : Nat)))) Bd.any)) ST.nil ST.nil)
    (ST.node (SV.tup []) ST.nil ST.nil)) (ST.node (SV.c (SC.int false IntKind.u64 (seenInt IntKind.u64 W (addOpt a (5 : Nat))) (Bd.w (0 : Int) (18446744073709551615 : Int) (seenInt_bd
    IntKind.u64 W (addOpt a (Int.toNat (5 : Int))))))) (ST.node (SV.tup []) ST.nil ST.nil) ST.nil))) (ST.node (SV.tup []) (ST.node (SV.c (SC.boo true false)) (ST.node (SV.c (SC.int
    false IntKind.i64 (smF (seenInt IntKind.u64 W (addOpt a (2 : Nat)))) Bd.any)) (ST.node (SV.c (SC.ptv (addOpt a (Int.toNat (7 : Int))))) ST.nil ST.nil) (ST.node (SV.tup []) ST.nil
    ST.nil)) (ST.node (SV.c (SC.sliv a false len cap)) (ST.node (SV.tup []) ST.nil ST.nil) ST.nil)) (ST.node (SV.c (SC.int false IntKind.u64 (seenInt IntKind.u64 W (addOpt a (1 : Nat)))
    (Bd.w (0 : Int) (18446744073709551615 : Int) (seenInt_bd IntKind.u64 W (addOpt a (Int.toNat (1 : Int))))))) (ST.node (SV.c (SC.sliv a false len cap)) (ST.node (SV.tup []) ST.nil
    ST.nil) ST.nil) (ST.node (SV.c (SC.sliv a false len cap)) (ST.node (SV.tup []) ST.nil ST.nil) ST.nil))))) []) (Mem.mk [((0 : Nat), SO.seen W), ((15 : Nat), SO.cells [SC.int true
    IntKind.u64 (0 : Int), SC.int true IntKind.i64 (0 : Int), SC.int true IntKind.u64 (0 : Int), SC.int true IntKind.i64 (0 : Int), SC.int true IntKind.i64 (0 : Int), SC.int true
    IntKind.u64 (0 : Int), SC.int true IntKind.i64 (0 : Int)] (75 : Nat)), ((46 : Nat), SO.cells [SC.int false IntKind.u64 (seenInt IntKind.u64 W (addOpt a (1 : Nat))) (Bd.w (0 : Int)
    (18446744073709551615 : Int) (seenInt_bd IntKind.u64 W (addOpt a (Int.toNat (1 : Int))))), SC.int false IntKind.i64 (smF (seenInt IntKind.u64 W (addOpt a (2 : Nat)))) Bd.any, SC.int
    false IntKind.u64 (seenInt IntKind.u64 W (addOpt a (3 : Nat))) (Bd.w (0 : Int) (18446744073709551615 : Int) (seenInt_bd IntKind.u64 W (addOpt a (Int.toNat (3 : Int))))), SC.int
    false IntKind.i64 (smF (seenInt IntKind.u64 W (addOpt a (4 : Nat)))) Bd.any, SC.int false IntKind.i64 (smF (seenInt IntKind.u64 W (addOpt a (5 : Nat)))) Bd.any, SC.int false
    IntKind.u64 (seenInt IntKind.u64 W (addOpt a (6 : Nat))) (Bd.w (0 : Int) (18446744073709551615 : Int) (seenInt_bd IntKind.u64 W (addOpt a (Int.toNat (6 : Int))))), SC.int false
    IntKind.i64 (smF (seenInt IntKind.u64 W (addOpt a (7 : Nat)))) Bd.any] (75 : Nat))] (48 : Nat)) rdB ∧ True) ∧ True) ∧ True) ∧ True) ∧ True) ∧ (∀ (K : KO XE), ((0 : Int) ≤ seenInt
    IntKind.u64 W (addOpt a (5 : Nat)) ∧ seenInt IntKind.u64 W (addOpt a (5 : Nat)) ≤ (18446744073709551615 : Int)) ∧ (∀ (z : Un), True → W = W ∧ (((0 : Int) ≤ seenInt IntKind.u64 W
    (addOpt a (7 : Nat)) ∧ seenInt IntKind.u64 W (addOpt a (7 : Nat)) ≤ (18446744073709551615 : Int)) ∧ (∀ (z : Un), True → W = W ∧ (W = W ∧ K (SF.mk (53 : Nat) (ST.node (SV.c (SC.sliv
    a false len cap)) (ST.node (SV.tup []) (ST.node (SV.c (SC.ptr (15 : Nat) (0 : Nat))) (ST.node (SV.tup []) (ST.node (SV.c (SC.sliv a false len cap)) (ST.node (SV.c (SC.ptv (addOpt a
    (Int.toNat (6 : Int))))) ST.nil ST.nil) (ST.node (SV.tup []) ST.nil ST.nil)) (ST.node (SV.c (SC.ptv (addOpt a (Int.toNat (4 : Int))))) (ST.node (SV.tup []) ST.nil ST.nil) ST.nil))
    (ST.node (SV.tup []) (ST.node (SV.c (SC.sliv a false len cap)) (ST.node (SV.c (SC.int false IntKind.u64 (seenInt IntKind.u64 W (addOpt a (7 : Nat))) (Bd.w (0 : Int)
    (18446744073709551615 : Int) (seenInt_bd IntKind.u64 W (addOpt a (Int.toNat (7 : Int))))))) ST.nil ST.nil) (ST.node (SV.tup []) ST.nil ST.nil)) (ST.node (SV.c (SC.ptv (addOpt a
    (Int.toNat (5 : Int))))) (ST.node (SV.tup []) ST.nil ST.nil) ST.nil))) (ST.node (SV.c (SC.ptr (46 : Nat) (0 : Nat))) (ST.node (SV.c (SC.int false IntKind.i64 (↑len : Int))) (ST.node
    (SV.c (SC.int false IntKind.u64 (seenInt IntKind.u64 W (addOpt a (2 : Nat))) (Bd.w (0 : Int) (18446744073709551615 : Int) (seenInt_bd IntKind.u64 W (addOpt a (Int.toNat (2 :
    Int))))))) (ST.node (SV.c (SC.sliv a false len cap)) ST.nil ST.nil) (ST.node (SV.tup []) ST.nil ST.nil)) (ST.node (SV.c (SC.int false IntKind.i64 (smF (seenInt IntKind.u64 W (addOpt
    a (4 : Nat)))) Bd.any)) (ST.node (SV.tup []) ST.nil ST.nil) ST.nil)) (ST.node (SV.c (SC.ptv (addOpt a (Int.toNat (1 : Int))))) (ST.node (SV.c (SC.int false IntKind.u64 (seenInt
    IntKind.u64 W (addOpt a (3 : Nat))) (Bd.w (0 : Int) (18446744073709551615 : Int) (seenInt_bd IntKind.u64 W (addOpt a (Int.toNat (3 : Int))))))) (ST.node (SV.agg [SC.int false
    IntKind.u64 (seenInt IntKind.u64 W (addOpt a (1 : Nat))) (Bd.w (0 : Int) (18446744073709551615 : Int) (seenInt_bd IntKind.u64 W (addOpt a (Int.toNat (1 : Int))))), SC.int false
    IntKind.i64 (smF (seenInt IntKind.u64 W (addOpt a (2 : Nat)))) Bd.any, SC.int false IntKind.u64 (seenInt IntKind.u64 W (addOpt a (3 : Nat))) (Bd.w (0 : Int) (18446744073709551615 :
    Int) (seenInt_bd IntKind.u64 W (addOpt a (Int.toNat (3 : Int))))), SC.int false IntKind.i64 (smF (seenInt IntKind.u64 W (addOpt a (4 : Nat)))) Bd.any, SC.int false IntKind.i64 (smF
    (seenInt IntKind.u64 W (addOpt a (5 : Nat)))) Bd.any, SC.int false IntKind.u64 (seenInt IntKind.u64 W (addOpt a (6 : Nat))) (Bd.w (0 : Int) (18446744073709551615 : Int) (seenInt_bd
    IntKind.u64 W (addOpt a (Int.toNat (6 : Int))))), SC.int false IntKind.i64 (smF (seenInt IntKind.u64 W (addOpt a (7 : Nat)))) Bd.any]) ST.nil ST.nil) ST.nil) (ST.node (SV.c (SC.int
    false IntKind.i64 (smF (seenInt IntKind.u64 W (addOpt a (5 : Nat)))) Bd.any)) (ST.node (SV.tup []) ST.nil ST.nil) ST.nil)))) (ST.node (SV.c (SC.int true IntKind.u64 (0 : Int)))
    (ST.node (SV.c (SC.boo true false)) (ST.node (SV.c (SC.sliv a false len cap)) (ST.node (SV.c (SC.ptv (addOpt a (Int.toNat (2 : Int))))) (ST.node (SV.c (SC.int false IntKind.u64
    (seenInt IntKind.u64 W (addOpt a (6 : Nat))) (Bd.w (0 : Int) (18446744073709551615 : Int) (seenInt_bd IntKind.u64 W (addOpt a (Int.toNat (6 : Int))))))) ST.nil ST.nil) (ST.node
    (SV.tup []) ST.nil ST.nil)) (ST.node (SV.c (SC.int false IntKind.u64 (seenInt IntKind.u64 W (addOpt a (4 : Nat))) (Bd.w (0 : Int) (18446744073709551615 : Int) (seenInt_bd
    IntKind.u64 W (addOpt a (Int.toNat (4 : Int))))))) (ST.node (SV.tup []) ST.nil ST.nil) ST.nil)) (ST.node (SV.c (SC.sliv a false len cap)) (ST.node (SV.c (SC.ptv (addOpt a (Int.toNat
    (3 : Int))))) (ST.node (SV.c (SC.int false IntKind.i64 (smF (seenInt IntKind.u64 W (addOpt a (7 : Nat)))) Bd.any)) ST.nil ST.nil) (ST.node (SV.tup []) ST.nil ST.nil)) (ST.node (SV.c
    (SC.int false IntKind.u64 (seenInt IntKind.u64 W (addOpt a (5 : Nat))) (Bd.w (0 : Int) (18446744073709551615 : Int) (seenInt_bd IntKind.u64 W (addOpt a (Int.toNat (5 : Int)))))))
    (ST.node (SV.tup []) ST.nil ST.nil) ST.nil))) (ST.node (SV.tup []) (ST.node (SV.c (SC.boo true false)) (ST.node (SV.c (SC.int false IntKind.i64 (smF (seenInt IntKind.u64 W (addOpt a
    (2 : Nat)))) Bd.any)) (ST.node (SV.c (SC.ptv (addOpt a (Int.toNat (7 : Int))))) ST.nil ST.nil) (ST.node (SV.tup []) ST.nil ST.nil)) (ST.node (SV.c (SC.sliv a false len cap))
    (ST.node (SV.tup []) ST.nil ST.nil) ST.nil)) (ST.node (SV.c (SC.int false IntKind.u64 (seenInt IntKind.u64 W (addOpt a (1 : Nat))) (Bd.w (0 : Int) (18446744073709551615 : Int)
    (seenInt_bd IntKind.u64 W (addOpt a (Int.toNat (1 : Int))))))) (ST.node (SV.c (SC.sliv a false len cap)) (ST.node (SV.tup []) ST.nil ST.nil) ST.nil) (ST.node (SV.c (SC.sliv a false
    len cap)) (ST.node (SV.tup []) ST.nil ST.nil) ST.nil))))) []) (Mem.mk [((0 : Nat), SO.seen W), ((15 : Nat), SO.cells [SC.int true IntKind.u64 (0 : Int), SC.int true IntKind.i64 (0 :
    Int), SC.int true IntKind.u64 (0 : Int), SC.int true IntKind.i64 (0 : Int), SC.int true IntKind.i64 (0 : Int), SC.int true IntKind.u64 (0 : Int), SC.int true IntKind.i64 (0 : Int)]
    (75 : Nat)), ((46 : Nat), SO.cells [SC.int false IntKind.u64 (seenInt IntKind.u64 W (addOpt a (1 : Nat))) (Bd.w (0 : Int) (18446744073709551615 : Int) (seenInt_bd IntKind.u64 W
    (addOpt a (Int.toNat (1 : Int))))), SC.int false IntKind.i64 (smF (seenInt IntKind.u64 W (addOpt a (2 : Nat)))) Bd.any, SC.int false IntKind.u64 (seenInt IntKind.u64 W (addOpt a (3
    : Nat))) (Bd.w (0 : Int) (18446744073709551615 : Int) (seenInt_bd IntKind.u64 W (addOpt a (Int.toNat (3 : Int))))), SC.int false IntKind.i64 (smF (seenInt IntKind.u64 W (addOpt a (4
    : Nat)))) Bd.any, SC.int false IntKind.i64 (smF (seenInt IntKind.u64 W (addOpt a (5 : Nat)))) Bd.any, SC.int false IntKind.u64 (seenInt IntKind.u64 W (addOpt a (6 : Nat))) (Bd.w (0
    : Int) (18446744073709551615 : Int) (seenInt_bd IntKind.u64 W (addOpt a (Int.toNat (6 : Int))))), SC.int false IntKind.i64 (smF (seenInt IntKind.u64 W (addOpt a (7 : Nat)))) Bd.any]
    (75 : Nat))] (48 : Nat)) rdB ∧ True) ∧ True) ∧ True) ∧ (∀ (K : KO XE), ((0 : Int) ≤ seenInt IntKind.u64 W (addOpt a (7 : Nat)) ∧ seenInt IntKind.u64 W (addOpt a (7 : Nat)) ≤
    (18446744073709551615 : Int)) ∧ (∀ (z : Un), True → W = W ∧ (W = W ∧ K (SF.mk (53 : Nat) (ST.node (SV.c (SC.sliv a false len cap)) (ST.node (SV.tup []) (ST.node (SV.c (SC.ptr (15 :
    Nat) (0 : Nat))) (ST.node (SV.tup []) (ST.node (SV.c (SC.sliv a false len cap)) (ST.node (SV.c (SC.ptv (addOpt a (Int.toNat (6 : Int))))) ST.nil ST.nil) (ST.node (SV.tup []) ST.nil
    ST.nil)) (ST.node (SV.c (SC.ptv (addOpt a (Int.toNat (4 : Int))))) (ST.node (SV.tup []) ST.nil ST.nil) ST.nil)) (ST.node (SV.tup []) (ST.node (SV.c (SC.sliv a false len cap))
    (ST.node (SV.c (SC.int false IntKind.u64 (seenInt IntKind.u64 W (addOpt a (7 : Nat))) (Bd.w (0 : Int) (18446744073709551615 : Int) (seenInt_bd IntKind.u64 W (addOpt a (Int.toNat (7
    : Int))))))) ST.nil ST.nil) (ST.node (SV.tup []) ST.nil ST.nil)) (ST.node (SV.c (SC.ptv (addOpt a (Int.toNat (5 : Int))))) (ST.node (SV.tup []) ST.nil ST.nil) ST.nil))) (ST.node
    (SV.c (SC.ptr (46 : Nat) (0 : Nat))) (ST.node (SV.c (SC.int false IntKind.i64 (↑len : Int))) (ST.node (SV.c (SC.int false IntKind.u64 (seenInt IntKind.u64 W (addOpt a (2 : Nat)))
    (Bd.w (0 : Int) (18446744073709551615 : Int) (seenInt_bd IntKind.u64 W (addOpt a (Int.toNat (2 : Int))))))) (ST.node (SV.c (SC.sliv a false len cap)) ST.nil ST.nil) (ST.node (SV.tup
    []) ST.nil ST.nil)) (ST.node (SV.c (SC.int false IntKind.i64 (smF (seenInt IntKind.u64 W (addOpt a (4 : Nat)))) Bd.any)) (ST.node (SV.tup []) ST.nil ST.nil) ST.nil)) (ST.node (SV.c
    (SC.ptv (addOpt a (Int.toNat (1 : Int))))) (ST.node (SV.c (SC.int false IntKind.u64 (seenInt IntKind.u64 W (addOpt a (3 : Nat))) (Bd.w (0 : Int) (18446744073709551615 : Int)
    (seenInt_bd IntKind.u64 W (addOpt a (Int.toNat (3 : Int))))))) (ST.node (SV.agg [SC.int false IntKind.u64 (seenInt IntKind.u64 W (addOpt a (1 : Nat))) (Bd.w (0 : Int)
    (18446744073709551615 : Int) (seenInt_bd IntKind.u64 W (addOpt a (Int.toNat (1 : Int))))), SC.int false IntKind.i64 (smF (seenInt IntKind.u64 W (addOpt a (2 : Nat)))) Bd.any, SC.int
    false IntKind.u64 (seenInt IntKind.u64 W (addOpt a (3 : Nat))) (Bd.w (0 : Int) (18446744073709551615 : Int) (seenInt_bd IntKind.u64 W (addOpt a (Int.toNat (3 : Int))))), SC.int
    false IntKind.i64 (smF (seenInt IntKind.u64 W (addOpt a (4 : Nat)))) Bd.any, SC.int false IntKind.i64 (smF (seenInt IntKind.u64 W (addOpt a (5 : Nat)))) Bd.any, SC.int false
    IntKind.u64 (seenInt IntKind.u64 W (addOpt a (6 : Nat))) (Bd.w (0 : Int) (18446744073709551615 : Int) (seenInt_bd IntKind.u64 W (addOpt a (Int.toNat (6 : Int))))), SC.int false
    IntKind.i64 (smF (seenInt IntKind.u64 W (addOpt a (7 : Nat)))) Bd.any]) ST.nil ST.nil) ST.nil) (ST.node (SV.c (SC.int false IntKind.i64 (smF (seenInt IntKind.u64 W (addOpt a (5 :
    Nat)))) Bd.any)) (ST.node (SV.tup []) ST.nil ST.nil) ST.nil)))) (ST.node (SV.c (SC.int true IntKind.u64 (0 : Int))) (ST.node (SV.c (SC.boo true false)) (ST.node (SV.c (SC.sliv a
    false len cap)) (ST.node (SV.c (SC.ptv (addOpt a (Int.toNat (2 : Int))))) (ST.node (SV.c (SC.int false IntKind.u64 (seenInt IntKind.u64 W (addOpt a (6 : Nat))) (Bd.w (0 : Int)
    (18446744073709551615 : Int) (seenInt_bd IntKind.u64 W (addOpt a (Int.toNat (6 : Int))))))) ST.nil ST.nil) (ST.node (SV.tup []) ST.nil ST.nil)) (ST.node (SV.c (SC.int false
    IntKind.u64 (seenInt IntKind.u64 W (addOpt a (4 : Nat))) (Bd.w (0 : Int) (18446744073709551615 : Int) (seenInt_bd IntKind.u64 W (addOpt a (Int.toNat (4 : Int))))))) (ST.node (SV.tup
    []) ST.nil ST.nil) ST.nil)) (ST.node (SV.c (SC.sliv a false len cap)) (ST.node (SV.c (SC.ptv (addOpt a (Int.toNat (3 : Int))))) (ST.node (SV.c (SC.int false IntKind.i64 (smF
    (seenInt IntKind.u64 W (addOpt a (7 : Nat)))) Bd.any)) ST.nil ST.nil) (ST.node (SV.tup []) ST.nil ST.nil)) (ST.node (SV.c (SC.int false IntKind.u64 (seenInt IntKind.u64 W (addOpt a
    (5 : Nat))) (Bd.w (0 : Int) (18446744073709551615 : Int) (seenInt_bd IntKind.u64 W (addOpt a (Int.toNat (5 : Int))))))) (ST.node (SV.tup []) ST.nil ST.nil) ST.nil))) (ST.node
    (SV.tup []) (ST.node (SV.c (SC.boo true false)) (ST.node (SV.c (SC.int false IntKind.i64 (smF (seenInt IntKind.u64 W (addOpt a (2 : Nat)))) Bd.any)) (ST.node (SV.c (SC.ptv (addOpt a
    (Int.toNat (7 : Int))))) ST.nil ST.nil) (ST.node (SV.tup []) ST.nil ST.nil)) (ST.node (SV.c (SC.sliv a false len cap)) (ST.node (SV.tup []) ST.nil ST.nil) ST.nil)) (ST.node (SV.c
    (SC.int false IntKind.u64 (seenInt IntKind.u64 W (addOpt a (1 : Nat))) (Bd.w (0 : Int) (18446744073709551615 : Int) (seenInt_bd IntKind.u64 W (addOpt a (Int.toNat (1 : Int)))))))
    (ST.node (SV.c (SC.sliv a false len cap)) (ST.node (SV.tup []) ST.nil ST.nil) ST.nil) (ST.node (SV.c (SC.sliv a false len cap)) (ST.node (SV.tup []) ST.nil ST.nil) ST.nil))))) [])
    (Mem.mk [((0 : Nat), SO.seen W), ((15 : Nat), SO.cells [SC.int true IntKind.u64 (0 : Int), SC.int true IntKind.i64 (0 : Int), SC.int true IntKind.u64 (0 : Int), SC.int true
    IntKind.i64 (0 : Int), SC.int true IntKind.i64 (0 : Int), SC.int true IntKind.u64 (0 : Int), SC.int true IntKind.i64 (0 : Int)] (75 : Nat)), ((46 : Nat), SO.cells [SC.int false
    IntKind.u64 (seenInt IntKind.u64 W (addOpt a (1 : Nat))) (Bd.w (0 : Int) (18446744073709551615 : Int) (seenInt_bd IntKind.u64 W (addOpt a (Int.toNat (1 : Int))))), SC.int false
    IntKind.i64 (smF (seenInt IntKind.u64 W (addOpt a (2 : Nat)))) Bd.any, SC.int false IntKind.u64 (seenInt IntKind.u64 W (addOpt a (3 : Nat))) (Bd.w (0 : Int) (18446744073709551615 :
    Int) (seenInt_bd IntKind.u64 W (addOpt a (Int.toNat (3 : Int))))), SC.int false IntKind.i64 (smF (seenInt IntKind.u64 W (addOpt a (4 : Nat)))) Bd.any, SC.int false IntKind.i64 (smF
    (seenInt IntKind.u64 W (addOpt a (5 : Nat)))) Bd.any, SC.int false IntKind.u64 (seenInt IntKind.u64 W (addOpt a (6 : Nat))) (Bd.w (0 : Int) (18446744073709551615 : Int) (seenInt_bd
    IntKind.u64 W (addOpt a (Int.toNat (6 : Int))))), SC.int false IntKind.i64 (smF (seenInt IntKind.u64 W (addOpt a (7 : Nat)))) Bd.any] (75 : Nat))] (48 : Nat)) rdB ∧ True) ∧ True) ∧
    True → W = W ∧ (((0 : Int) ≤ seenInt IntKind.u64 W (addOpt a (7 : Nat)) ∧ seenInt IntKind.u64 W (addOpt a (7 : Nat)) ≤ (18446744073709551615 : Int)) ∧ (∀ (z : Un), True → W = W ∧ K
    (SF.mk (53 : Nat) (ST.node (SV.c (SC.sliv a false len cap)) (ST.node (SV.tup []) (ST.node (SV.c (SC.ptr (15 : Nat) (0 : Nat))) (ST.node (SV.tup []) (ST.node (SV.c (SC.sliv a false
    len cap)) (ST.node (SV.c (SC.ptv (addOpt a (Int.toNat (6 : Int))))) ST.nil ST.nil) (ST.node (SV.tup []) ST.nil ST.nil)) (ST.node (SV.c (SC.ptv (addOpt a (Int.toNat (4 : Int)))))
    (ST.node (SV.tup []) ST.nil ST.nil) ST.nil)) (ST.node (SV.tup []) (ST.node (SV.c (SC.sliv a false len cap)) (ST.node (SV.c (SC.int false IntKind.u64 (seenInt IntKind.u64 W (addOpt a
    (7 : Nat))) (Bd.w (0 : Int) (18446744073709551615 : Int) (seenInt_bd IntKind.u64 W (addOpt a (Int.toNat (7 : Int))))))) ST.nil ST.nil) (ST.node (SV.tup []) ST.nil ST.nil)) (ST.node
    (SV.c (SC.ptv (addOpt a (Int.toNat (5 : Int))))) (ST.node (SV.tup []) ST.nil ST.nil) ST.nil))) (ST.node (SV.c (SC.ptr (46 : Nat) (0 : Nat))) (ST.node (SV.c (SC.int false IntKind.i64
    (↑len : Int))) (ST.node (SV.c (SC.int false IntKind.u64 (seenInt IntKind.u64 W (addOpt a (2 : Nat))) (Bd.w (0 : Int) (18446744073709551615 : Int) (seenInt_bd IntKind.u64 W (addOpt a
    (Int.toNat (2 : Int))))))) (ST.node (SV.c (SC.sliv a false len cap)) ST.nil ST.nil) (ST.node (SV.tup []) ST.nil ST.nil)) (ST.node (SV.c (SC.int false IntKind.i64 (smF (seenInt
    IntKind.u64 W (addOpt a (4 : Nat)))) Bd.any)) (ST.node (SV.tup []) ST.nil ST.nil) ST.nil)) (ST.node (SV.c (SC.ptv (addOpt a (Int.toNat (1 : Int))))) (ST.node (SV.c (SC.int false
    IntKind.u64 (seenInt IntKind.u64 W (addOpt a (3 : Nat))) (Bd.w (0 : Int) (18446744073709551615 : Int) (seenInt_bd IntKind.u64 W (addOpt a (Int.toNat (3 : Int))))))) (ST.node (SV.agg
    [SC.int false IntKind.u64 (seenInt IntKind.u64 W (addOpt a (1 : Nat))) (Bd.w (0 : Int) (18446744073709551615 : Int) (seenInt_bd IntKind.u64 W (addOpt a (Int.toNat (1 : Int))))),
    SC.int false IntKind.i64 (smF (seenInt IntKind.u64 W (addOpt a (2 : Nat)))) Bd.any, SC.int false IntKind.u64 (seenInt IntKind.u64 W (addOpt a (3 : Nat))) (Bd.w (0 : Int)
    (18446744073709551615 : Int) (seenInt_bd IntKind.u64 W (addOpt a (Int.toNat (3 : Int))))), SC.int false IntKind.i64 (smF (seenInt IntKind.u64 W (addOpt a (4 : Nat)))) Bd.any, SC.int
    false IntKind.i64 (smF (seenInt IntKind.u64 W (addOpt a (5 : Nat)))) Bd.any, SC.int false IntKind.u64 (seenInt IntKind.u64 W (addOpt a (6 : Nat))) (Bd.w (0 : Int)
    (18446744073709551615 : Int) (seenInt_bd IntKind.u64 W (addOpt a (Int.toNat (6 : Int))))), SC.int false IntKind.i64 (smF (seenInt IntKind.u64 W (addOpt a (7 : Nat)))) Bd.any])
    ST.nil ST.nil) ST.nil) (ST.node (SV.c (SC.int false IntKind.i64 (smF (seenInt IntKind.u64 W (addOpt a (5 : Nat)))) Bd.any)) (ST.node (SV.tup []) ST.nil ST.nil) ST.nil)))) (ST.node
    (SV.c (SC.int true IntKind.u64 (0 : Int))) (ST.node (SV.c (SC.boo true false)) (ST.node (SV.c (SC.sliv a false len cap)) (ST.node (SV.c (SC.ptv (addOpt a (Int.toNat (2 : Int)))))
    (ST.node (SV.c (SC.int false IntKind.u64 (seenInt IntKind.u64 W (addOpt a (6 : Nat))) (Bd.w (0 : Int) (18446744073709551615 : Int) (seenInt_bd IntKind.u64 W (addOpt a (Int.toNat (6
    : Int))))))) ST.nil ST.nil) (ST.node (SV.tup []) ST.nil ST.nil)) (ST.node (SV.c (SC.int false IntKind.u64 (seenInt IntKind.u64 W (addOpt a (4 : Nat))) (Bd.w (0 : Int)
    (18446744073709551615 : Int) (seenInt_bd IntKind.u64 W (addOpt a (Int.toNat (4 : Int))))))) (ST.node (SV.tup []) ST.nil ST.nil) ST.nil)) (ST.node (SV.c (SC.sliv a false len cap))
    (ST.node (SV.c (SC.ptv (addOpt a (Int.toNat (3 : Int))))) (ST.node (SV.c (SC.int false IntKind.i64 (smF (seenInt IntKind.u64 W (addOpt a (7 : Nat)))) Bd.any)) ST.nil ST.nil)
    (ST.node (SV.tup []) ST.nil ST.nil)) (ST.node (SV.c (SC.int false IntKind.u64 (seenInt IntKind.u64 W (addOpt a (5 : Nat))) (Bd.w (0 : Int) (18446744073709551615 : Int) (seenInt_bd
    IntKind.u64 W (addOpt a (Int.toNat (5 : Int))))))) (ST.node (SV.tup []) ST.nil ST.nil) ST.nil))) (ST.node (SV.tup []) (ST.node (SV.c (SC.boo true false)) (ST.node (SV.c (SC.int
    false IntKind.i64 (smF (seenInt IntKind.u64 W (addOpt a (2 : Nat)))) Bd.any)) (ST.node (SV.c (SC.ptv (addOpt a (Int.toNat (7 : Int))))) ST.nil ST.nil) (ST.node (SV.tup []) ST.nil
    ST.nil)) (ST.node (SV.c (SC.sliv a false len cap)) (ST.node (SV.tup []) ST.nil ST.nil) ST.nil)) (ST.node (SV.c (SC.int false IntKind.u64 (seenInt IntKind.u64 W (addOpt a (1 : Nat)))
    (Bd.w (0 : Int) (18446744073709551615 : Int) (seenInt_bd IntKind.u64 W (addOpt a (Int.toNat (1 : Int))))))) (ST.node (SV.c (SC.sliv a false len cap)) (ST.node (SV.tup []) ST.nil
    ST.nil) ST.nil) (ST.node (SV.c (SC.sliv a false len cap)) (ST.node (SV.tup []) ST.nil ST.nil) ST.nil))))) []) (Mem.mk [((0 : Nat), SO.seen W), ((15 : Nat), SO.cells [SC.int true
    IntKind.u64 (0 : Int), SC.int true IntKind.i64 (0 : Int), SC.int true IntKind.u64 (0 : Int), SC.int true IntKind.i64 (0 : Int), SC.int true IntKind.i64 (0 : Int), SC.int true
    IntKind.u64 (0 : Int), SC.int true IntKind.i64 (0 : Int)] (75 : Nat)), ((46 : Nat), SO.cells [SC.int false IntKind.u64 (seenInt IntKind.u64 W (addOpt a (1 : Nat))) (Bd.w (0 : Int)
    (18446744073709551615 : Int) (seenInt_bd IntKind.u64 W (addOpt a (Int.toNat (1 : Int))))), SC.int false IntKind.i64 (smF (seenInt IntKind.u64 W (addOpt a (2 : Nat)))) Bd.any, SC.int
    false IntKind.u64 (seenInt IntKind.u64 W (addOpt a (3 : Nat))) (Bd.w (0 : Int) (18446744073709551615 : Int) (seenInt_bd IntKind.u64 W (addOpt a (Int.toNat (3 : Int))))), SC.int
    false IntKind.i64 (smF (seenInt IntKind.u64 W (addOpt a (4 : Nat)))) Bd.any, SC.int false IntKind.i64 (smF (seenInt IntKind.u64 W (addOpt a (5 : Nat)))) Bd.any, SC.int false
    IntKind.u64 (seenInt IntKind.u64 W (addOpt a (6 : Nat))) (Bd.w (0 : Int) (18446744073709551615 : Int) (seenInt_bd IntKind.u64 W (addOpt a (Int.toNat (6 : Int))))), SC.int false
    IntKind.i64 (smF (seenInt IntKind.u64 W (addOpt a (7 : Nat)))) Bd.any] (75 : Nat))] (48 : Nat)) rdB ∧ True) ∧ True) ∧ True) ∧ True) ∧ True → W = W ∧ (((0 : Int) ≤ seenInt
    IntKind.u64 W (addOpt a (5 : Nat)) ∧ seenInt IntKind.u64 W (addOpt a (5 : Nat)) ≤ (18446744073709551615 : Int)) ∧ (∀ (z : Un), True → W = W ∧ (((0 : Int) ≤ seenInt IntKind.u64 W
    (addOpt a (7 : Nat)) ∧ seenInt IntKind.u64 W (addOpt a (7 : Nat)) ≤ (18446744073709551615 : Int)) ∧ (∀ (z : Un), True → W = W ∧ K (SF.mk (53 : Nat) (ST.node (SV.c (SC.sliv a false
    len cap)) (ST.node (SV.tup []) (ST.node (SV.c (SC.ptr (15 : Nat) (0 : Nat))) (ST.node (SV.tup []) (ST.node (SV.c (SC.sliv a false len cap)) (ST.node (SV.c (SC.ptv (addOpt a
    (Int.toNat (6 : Int))))) ST.nil ST.nil) (ST.node (SV.tup []) ST.nil ST.nil)) (ST.node (SV.c (SC.ptv (addOpt a (Int.toNat (4 : Int))))) (ST.node (SV.tup []) ST.nil ST.nil) ST.nil))
    (ST.node (SV.tup []) (ST.node (SV.c (SC.sliv a false len cap)) (ST.node (SV.c (SC.int false IntKind.u64 (seenInt IntKind.u64 W (addOpt a (7 : Nat))) (Bd.w (0 : Int)
    (18446744073709551615 : Int) (seenInt_bd IntKind.u64 W (addOpt a (Int.toNat (7 : Int))))))) ST.nil ST.nil) (ST.node (SV.tup []) ST.nil ST.nil)) (ST.node (SV.c (SC.ptv (addOpt a
    (Int.toNat (5 : Int))))) (ST.node (SV.tup []) ST.nil ST.nil) ST.nil))) (ST.node (SV.c (SC.ptr (46 : Nat) (0 : Nat))) (ST.node (SV.c (SC.int false IntKind.i64 (↑len : Int))) (ST.node
    (SV.c (SC.int false IntKind.u64 (seenInt IntKind.u64 W (addOpt a (2 : Nat))) (Bd.w (0 : Int) (18446744073709551615 : Int) (seenInt_bd IntKind.u64 W (addOpt a (Int.toNat (2 :
    Int))))))) (ST.node (SV.c (SC.sliv a false len cap)) ST.nil ST.nil) (ST.node (SV.tup []) ST.nil ST.nil)) (ST.node (SV.c (SC.int false IntKind.i64 (smF (seenInt IntKind.u64 W (addOpt
    a (4 : Nat)))) Bd.any)) (ST.node (SV.tup []) ST.nil ST.nil) ST.nil)) (ST.node (SV.c (SC.ptv (addOpt a (Int.toNat (1 : Int))))) (ST.node (SV.c (SC.int false IntKind.u64 (seenInt
    IntKind.u64 W (addOpt a (3 : Nat))) (Bd.w (0 : Int) (18446744073709551615 : Int) (seenInt_bd IntKind.u64 W (addOpt a (Int.toNat (3 : Int))))))) (ST.node (SV.agg [SC.int false
    IntKind.u64 (seenInt IntKind.u64 W (addOpt a (1 : Nat))) (Bd.w (0 : Int) (18446744073709551615 : Int) (seenInt_bd IntKind.u64 W (addOpt a (Int.toNat (1 : Int))))), SC.int false
    IntKind.i64 (smF (seenInt IntKind.u64 W (addOpt a (2 : Nat)))) Bd.any, SC.int false IntKind.u64 (seenInt IntKind.u64 W (addOpt a (3 : Nat))) (Bd.w (0 : Int) (18446744073709551615 :
    Int) (seenInt_bd IntKind.u64 W (addOpt a (Int.toNat (3 : Int))))), SC.int false IntKind.i64 (smF (seenInt IntKind.u64 W (addOpt a (4 : Nat)))) Bd.any, SC.int false IntKind.i64 (smF
    (seenInt IntKind.u64 W (addOpt a (5 : Nat)))) Bd.any, SC.int false IntKind.u64 (seenInt IntKind.u64 W (addOpt a (6 : Nat))) (Bd.w (0 : Int) (18446744073709551615 : Int) (seenInt_bd
    IntKind.u64 W (addOpt a (Int.toNat (6 : Int))))), SC.int false IntKind.i64 (smF (seenInt IntKind.u64 W (addOpt a (7 : Nat)))) Bd.any]) ST.nil ST.nil) ST.nil) (ST.node (SV.c (SC.int
    false IntKind.i64 (smF (seenInt IntKind.u64 W (addOpt a (5 : Nat)))) Bd.any)) (ST.node (SV.tup []) ST.nil ST.nil) ST.nil)))) (ST.node (SV.c (SC.int true IntKind.u64 (0 : Int)))
    (ST.node (SV.c (SC.boo true false)) (ST.node (SV.c (SC.sliv a false len cap)) (ST.node (SV.c (SC.ptv (addOpt a (Int.toNat (2 : Int))))) (ST.node (SV.c (SC.int false IntKind.u64
    (seenInt IntKind.u64 W (addOpt a (6 : Nat))) (Bd.w (0 : Int) (18446744073709551615 : Int) (seenInt_bd IntKind.u64 W (addOpt a (Int.toNat (6 : Int))))))) ST.nil ST.nil) (ST.node
    (SV.tup []) ST.nil ST.nil)) (ST.node (SV.c (SC.int false IntKind.u64 (seenInt IntKind.u64 W (addOpt a (4 : Nat))) (Bd.w (0 : Int) (18446744073709551615 : Int) (seenInt_bd
    IntKind.u64 W (addOpt a (Int.toNat (4 : Int))))))) (ST.node (SV.tup []) ST.nil ST.nil) ST.nil)) (ST.node (SV.c (SC.sliv a false len cap)) (ST.node (SV.c (SC.ptv (addOpt a (Int.toNat
    (3 : Int))))) (ST.node (SV.c (SC.int false IntKind.i64 (smF (seenInt IntKind.u64 W (addOpt a (7 : Nat)))) Bd.any)) ST.nil ST.nil) (ST.node (SV.tup []) ST.nil ST.nil)) (ST.node (SV.c
    (SC.int false IntKind.u64 (seenInt IntKind.u64 W (addOpt a (5 : Nat))) (Bd.w (0 : Int) (18446744073709551615 : Int) (seenInt_bd IntKind.u64 W (addOpt a (Int.toNat (5 : Int)))))))
    (ST.node (SV.tup []) ST.nil ST.nil) ST.nil))) (ST.node (SV.tup []) (ST.node (SV.c (SC.boo true false)) (ST.node (SV.c (SC.int false IntKind.i64 (smF (seenInt IntKind.u64 W (addOpt a
    (2 : Nat)))) Bd.any)) (ST.node (SV.c (SC.ptv (addOpt a (Int.toNat (7 : Int))))) ST.nil ST.nil) (ST.node (SV.tup []) ST.nil ST.nil)) (ST.node (SV.c (SC.sliv a false len cap))
    (ST.node (SV.tup []) ST.nil ST.nil) ST.nil)) (ST.node (SV.c (SC.int false IntKind.u64 (seenInt IntKind.u64 W (addOpt a (1 : Nat))) (Bd.w (0 : Int) (18446744073709551615 : Int)
    (seenInt_bd IntKind.u64 W (addOpt a (Int.toNat (1 : Int))))))) (ST.node (SV.c (SC.sliv a false len cap)) (ST.node (SV.tup []) ST.nil ST.nil) ST.nil) (ST.node (SV.c (SC.sliv a false
    len cap)) (ST.node (SV.tup []) ST.nil ST.nil) ST.nil))))) []) (Mem.mk [((0 : Nat), SO.seen W), ((15 : Nat), SO.cells [SC.int true IntKind.u64 (0 : Int), SC.int true IntKind.i64 (0 :
    Int), SC.int true IntKind.u64 (0 : Int), SC.int true IntKind.i64 (0 : Int), SC.int true IntKind.i64 (0 : Int), SC.int true IntKind.u64 (0 : Int), SC.int true IntKind.i64 (0 : Int)]
    (75 : Nat)), ((46 : Nat), SO.cells [SC.int false IntKind.u64 (seenInt IntKind.u64 W (addOpt a (1 : Nat))) (Bd.w (0 : Int) (18446744073709551615 : Int) (seenInt_bd IntKind.u64 W
    (addOpt a (Int.toNat (1 : Int))))), SC.int false IntKind.i64 (smF (seenInt IntKind.u64 W (addOpt a (2 : Nat)))) Bd.any, SC.int false IntKind.u64 (seenInt IntKind.u64 W (addOpt a (3
    : Nat))) (Bd.w (0 : Int) (18446744073709551615 : Int) (seenInt_bd IntKind.u64 W (addOpt a (Int.toNat (3 : Int))))), SC.int false IntKind.i64 (smF (seenInt IntKind.u64 W (addOpt a (4
    : Nat)))) Bd.any, SC.int false IntKind.i64 (smF (seenInt IntKind.u64 W (addOpt a (5 : Nat)))) Bd.any, SC.int false IntKind.u64 (seenInt IntKind.u64 W (addOpt a (6 : Nat))) (Bd.w (0
    : Int) (18446744073709551615 : Int) (seenInt_bd IntKind.u64 W (addOpt a (Int.toNat (6 : Int))))), SC.int false IntKind.i64 (smF (seenInt IntKind.u64 W (addOpt a (7 : Nat)))) Bd.any]
    (75 : Nat))] (48 : Nat)) rdB ∧ True) ∧ True) ∧ True) ∧ True) ∧ True) ∧ True) ∧ True) ∧ (∀ (K : KO XE), ((0 : Int) ≤ seenInt IntKind.u64 W (addOpt a (4 : Nat)) ∧ seenInt IntKind.u64
    W (addOpt a (4 : Nat)) ≤ (18446744073709551615 : Int)) ∧ (∀ (z : Un), True → W = W ∧ (((0 : Int) ≤ seenInt IntKind.u64 W (addOpt a (5 : Nat)) ∧ seenInt IntKind.u64 W (addOpt a (5 :
    Nat)) ≤ (18446744073709551615 : Int)) ∧ (∀ (z : Un), True → W = W ∧ (((0 : Int) ≤ seenInt IntKind.u64 W (addOpt a (7 : Nat)) ∧ seenInt IntKind.u64 W (addOpt a (7 : Nat)) ≤
    (18446744073709551615 : Int)) ∧ (∀ (z : Un), True → W = W ∧ (W = W ∧ K (SF.mk (53 : Nat) (ST.node (SV.c (SC.sliv a false len cap)) (ST.node (SV.tup []) (ST.node (SV.c (SC.ptr (15 :
    Nat) (0 : Nat))) (ST.node (SV.tup []) (ST.node (SV.c (SC.sliv a false len cap)) (ST.node (SV.c (SC.ptv (addOpt a (Int.toNat (6 : Int))))) ST.nil ST.nil) (ST.node (SV.tup []) ST.nil
    ST.nil)) (ST.node (SV.c (SC.ptv (addOpt a (Int.toNat (4 : Int))))) (ST.node (SV.tup []) ST.nil ST.nil) ST.nil)) (ST.node (SV.tup []) (ST.node (SV.c (SC.sliv a false len cap))
    (ST.node (SV.c (SC.int false IntKind.u64 (seenInt IntKind.u64 W (addOpt a (7 : Nat))) (Bd.w (0 : Int) (18446744073709551615 : Int) (seenInt_bd IntKind.u64 W (addOpt a (Int.toNat (7
    : Int))))))) ST.nil ST.nil) (ST.node (SV.tup []) ST.nil ST.nil)) (ST.node (SV.c (SC.ptv (addOpt a (Int.toNat (5 : Int))))) (ST.node (SV.tup []) ST.nil ST.nil) ST.nil))) (ST.node
    (SV.c (SC.ptr (46 : Nat) (0 : Nat))) (ST.node (SV.c (SC.int false IntKind.i64 (↑len : Int))) (ST.node (SV.c (SC.int false IntKind.u64 (seenInt IntKind.u64 W (addOpt a (2 : Nat)))
    (Bd.w (0 : Int) (18446744073709551615 : Int) (seenInt_bd IntKind.u64 W (addOpt a (Int.toNat (2 : Int))))))) (ST.node (SV.c (SC.sliv a false len cap)) ST.nil ST.nil) (ST.node (SV.tup
    []) ST.nil ST.nil)) (ST.node (SV.c (SC.int false IntKind.i64 (smF (seenInt IntKind.u64 W (addOpt a (4 : Nat)))) Bd.any)) (ST.node (SV.tup []) ST.nil ST.nil) ST.nil)) (ST.node (SV.c
    (SC.ptv (addOpt a (Int.toNat (1 : Int))))) (ST.node (SV.c (SC.int false IntKind.u64 (seenInt IntKind.u64 W (addOpt a (3 : Nat))) (Bd.w (0 : Int) (18446744073709551615 : Int)
    (seenInt_bd IntKind.u64 W (addOpt a (Int.toNat (3 : Int))))))) (ST.node (SV.agg [SC.int false IntKind.u64 (seenInt IntKind.u64 W (addOpt a (1 : Nat))) (Bd.w (0 : Int)
    (18446744073709551615 : Int) (seenInt_bd IntKind.u64 W (addOpt a (Int.toNat (1 : Int))))), SC.int false IntKind.i64 (smF (seenInt IntKind.u64 W (addOpt a (2 : Nat)))) Bd.any, SC.int
    false IntKind.u64 (seenInt IntKind.u64 W (addOpt a (3 : Nat))) (Bd.w (0 : Int) (18446744073709551615 : Int) (seenInt_bd IntKind.u64 W (addOpt a (Int.toNat (3 : Int))))), SC.int
    false IntKind.i64 (smF (seenInt IntKind.u64 W (addOpt a (4 : Nat)))) Bd.any, SC.int false IntKind.i64 (smF (seenInt IntKind.u64 W (addOpt a (5 : Nat)))) Bd.any, SC.int false
    IntKind.u64 (seenInt IntKind.u64 W (addOpt a (6 : Nat))) (Bd.w (0 : Int) (18446744073709551615 : Int) (seenInt_bd IntKind.u64 W (addOpt a (Int.toNat (6 : Int))))), SC.int false
    IntKind.i64 (smF (seenInt IntKind.u64 W (addOpt a (7 : Nat)))) Bd.any]) ST.nil ST.nil) ST.nil) (ST.node (SV.c (SC.int false IntKind.i64 (smF (seenInt IntKind.u64 W (addOpt a (5 :
    Nat)))) Bd.any)) (ST.node (SV.tup []) ST.nil ST.nil) ST.nil)))) (ST.node (SV.c (SC.int true IntKind.u64 (0 : Int))) (ST.node (SV.c (SC.boo true false)) (ST.node (SV.c (SC.sliv a
    false len cap)) (ST.node (SV.c (SC.ptv (addOpt a (Int.toNat (2 : Int))))) (ST.node (SV.c (SC.int false IntKind.u64 (seenInt IntKind.u64 W (addOpt a (6 : Nat))) (Bd.w (0 : Int)
    (18446744073709551615 : Int) (seenInt_bd IntKind.u64 W (addOpt a (Int.toNat (6 : Int))))))) ST.nil ST.nil) (ST.node (SV.tup []) ST.nil ST.nil)) (ST.node (SV.c (SC.int false
    IntKind.u64 (seenInt IntKind.u64 W (addOpt a (4 : Nat))) (Bd.w (0 : Int) (18446744073709551615 : Int) (seenInt_bd IntKind.u64 W (addOpt a (Int.toNat (4 : Int))))))) (ST.node (SV.tup
    []) ST.nil ST.nil) ST.nil)) (ST.node (SV.c (SC.sliv a false len cap)) (ST.node (SV.c (SC.ptv (addOpt a (Int.toNat (3 : Int))))) (ST.node (SV.c (SC.int false IntKind.i64 (smF
    (seenInt IntKind.u64 W (addOpt a (7 : Nat)))) Bd.any)) ST.nil ST.nil) (ST.node (SV.tup []) ST.nil ST.nil)) (ST.node (SV.c (SC.int false IntKind.u64 (seenInt IntKind.u64 W (addOpt a
    (5 : Nat))) (Bd.w (0 : Int) (18446744073709551615 : Int) (seenInt_bd IntKind.u64 W (addOpt a (Int.toNat (5 : Int))))))) (ST.node (SV.tup []) ST.nil ST.nil) ST.nil))) (ST.node
    (SV.tup []) (ST.node (SV.c (SC.boo true false)) (ST.node (SV.c (SC.int false IntKind.i64 (smF (seenInt IntKind.u64 W (addOpt a (2 : Nat)))) Bd.any)) (ST.node (SV.c (SC.ptv (addOpt a
    (Int.toNat (7 : Int))))) ST.nil ST.nil) (ST.node (SV.tup []) ST.nil ST.nil)) (ST.node (SV.c (SC.sliv a false len cap)) (ST.node (SV.tup []) ST.nil ST.nil) ST.nil)) (ST.node (SV.c
    (SC.int false IntKind.u64 (seenInt IntKind.u64 W (addOpt a (1 : Nat))) (Bd.w (0 : Int) (18446744073709551615 : Int) (seenInt_bd IntKind.u64 W (addOpt a (Int.toNat (1 : Int)))))))
    (ST.node (SV.c (SC.sliv a false len cap)) (ST.node (SV.tup []) ST.nil ST.nil) ST.nil) (ST.node (SV.c (SC.sliv a false len cap)) (ST.node (SV.tup []) ST.nil ST.nil) ST.nil))))) [])
    (Mem.mk [((0 : Nat), SO.seen W), ((15 : Nat), SO.cells [SC.int true IntKind.u64 (0 : Int), SC.int true IntKind.i64 (0 : Int), SC.int true IntKind.u64 (0 : Int), SC.int true
    IntKind.i64 (0 : Int), SC.int true IntKind.i64 (0 : Int), SC.int true IntKind.u64 (0 : Int), SC.int true IntKind.i64 (0 : Int)] (75 : Nat)), ((46 : Nat), SO.cells [SC.int false
    IntKind.u64 (seenInt IntKind.u64 W (addOpt a (1 : Nat))) (Bd.w (0 : Int) (18446744073709551615 : Int) (seenInt_bd IntKind.u64 W (addOpt a (Int.toNat (1 : Int))))), SC.int false
    IntKind.i64 (smF (seenInt IntKind.u64 W (addOpt a (2 : Nat)))) Bd.any, SC.int false IntKind.u64 (seenInt IntKind.u64 W (addOpt a (3 : Nat))) (Bd.w (0 : Int) (18446744073709551615 :
    Int) (seenInt_bd IntKind.u64 W (addOpt a (Int.toNat (3 : Int))))), SC.int false IntKind.i64 (smF (seenInt IntKind.u64 W (addOpt a (4 : Nat)))) Bd.any, SC.int false IntKind.i64 (smF
    (seenInt IntKind.u64 W (addOpt a (5 : Nat)))) Bd.any, SC.int false IntKind.u64 (seenInt IntKind.u64 W (addOpt a (6 : Nat))) (Bd.w (0 : Int) (18446744073709551615 : Int) (seenInt_bd
    IntKind.u64 W (addOpt a (Int.toNat (6 : Int))))), SC.int false IntKind.i64 (smF (seenInt IntKind.u64 W (addOpt a (7 : Nat)))) Bd.any] (75 : Nat))] (48 : Nat)) rdB ∧ True) ∧ True) ∧
    True) ∧ (∀ (K : KO XE), ((0 : Int) ≤ seenInt IntKind.u64 W (addOpt a (7 : Nat)) ∧ seenInt IntKind.u64 W (addOpt a (7 : Nat)) ≤ (18446744073709551615 : Int)) ∧ (∀ (z : Un), True → W
    = W ∧ (W = W ∧ K (SF.mk (53 : Nat) (ST.node (SV.c (SC.sliv a false len cap)) (ST.node (SV.tup []) (ST.node (SV.c (SC.ptr (15 : Nat) (0 : Nat))) (ST.node (SV.tup []) (ST.node (SV.c
    (SC.sliv a false len cap)) (ST.node (SV.c (SC.ptv (addOpt a (Int.toNat (6 : Int))))) ST.nil ST.nil) (ST.node (SV.tup []) ST.nil ST.nil)) (ST.node (SV.c (SC.ptv (addOpt a (Int.toNat
    (4 : Int))))) (ST.node (SV.tup []) ST.nil ST.nil) ST.nil)) (ST.node (SV.tup []) (ST.node (SV.c (SC.sliv a false len cap)) (ST.node (SV.c (SC.int false IntKind.u64 (seenInt
    IntKind.u64 W (addOpt a (7 : Nat))) (Bd.w (0 : Int) (18446744073709551615 : Int) (seenInt_bd IntKind.u64 W (addOpt a (Int.toNat (7 : Int))))))) ST.nil ST.nil) (ST.node (SV.tup [])
    ST.nil ST.nil)) (ST.node (SV.c (SC.ptv (addOpt a (Int.toNat (5 : Int))))) (ST.node (SV.tup []) ST.nil ST.nil) ST.nil))) (ST.node (SV.c (SC.ptr (46 : Nat) (0 : Nat))) (ST.node (SV.c
    (SC.int false IntKind.i64 (↑len : Int))) (ST.node (SV.c (SC.int false IntKind.u64 (seenInt IntKind.u64 W (addOpt a (2 : Nat))) (Bd.w (0 : Int) (18446744073709551615 : Int)
    (seenInt_bd IntKind.u64 W (addOpt a (Int.toNat (2 : Int))))))) (ST.node (SV.c (SC.sliv a false len cap)) ST.nil ST.nil) (ST.node (SV.tup []) ST.nil ST.nil)) (ST.node (SV.c (SC.int
    false IntKind.i64 (smF (seenInt IntKind.u64 W (addOpt a (4 : Nat)))) Bd.any)) (ST.node (SV.tup []) ST.nil ST.nil) ST.nil)) (ST.node (SV.c (SC.ptv (addOpt a (Int.toNat (1 : Int)))))
    (ST.node (SV.c (SC.int false IntKind.u64 (seenInt IntKind.u64 W (addOpt a (3 : Nat))) (Bd.w (0 : Int) (18446744073709551615 : Int) (seenInt_bd IntKind.u64 W (addOpt a (Int.toNat (3
    : Int))))))) (ST.node (SV.agg [SC.int false IntKind.u64 (seenInt IntKind.u64 W (addOpt a (1 : Nat))) (Bd.w (0 : Int) (18446744073709551615 : Int) (seenInt_bd IntKind.u64 W (addOpt a
    (Int.toNat (1 : Int))))), SC.int false IntKind.i64 (smF (seenInt IntKind.u64 W (addOpt a (2 : Nat)))) Bd.any, SC.int false IntKind.u64 (seenInt IntKind.u64 W (addOpt a (3 : Nat)))
    (Bd.w (0 : Int) (18446744073709551615 : Int) (seenInt_bd IntKind.u64 W (addOpt a (Int.toNat (3 : Int))))), SC.int false IntKind.i64 (smF (seenInt IntKind.u64 W (addOpt a (4 :
    Nat)))) Bd.any, SC.int false IntKind.i64 (smF (seenInt IntKind.u64 W (addOpt a (5 : Nat)))) Bd.any, SC.int false IntKind.u64 (seenInt IntKind.u64 W (addOpt a (6 : Nat))) (Bd.w (0 :
    Int) (18446744073709551615 : Int) (seenInt_bd IntKind.u64 W (addOpt a (Int.toNat (6 : Int))))), SC.int false IntKind.i64 (smF (seenInt IntKind.u64 W (addOpt a (7 : Nat)))) Bd.any])
    ST.nil ST.nil) ST.nil) (ST.node (SV.c (SC.int false IntKind.i64 (smF (seenInt IntKind.u64 W (addOpt a (5 : Nat)))) Bd.any)) (ST.node (SV.tup []) ST.nil ST.nil) ST.nil)))) (ST.node
    (SV.c (SC.int true IntKind.u64 (0 : Int))) (ST.node (SV.c (SC.boo true false)) (ST.node (SV.c (SC.sliv a false len cap)) (ST.node (SV.c (SC.ptv (addOpt a (Int.toNat (2 : Int)))))
    (ST.node (SV.c (SC.int false IntKind.u64 (seenInt IntKind.u64 W (addOpt a (6 : Nat))) (Bd.w (0 : Int) (18446744073709551615 : Int) (seenInt_bd IntKind.u64 W (addOpt a (Int.toNat (6
    : Int))))))) ST.nil ST.nil) (ST.node (SV.tup []) ST.nil ST.nil)) (ST.node (SV.c (SC.int false IntKind.u64 (seenInt IntKind.u64 W (addOpt a (4 : Nat))) (Bd.w (0 : Int)
    (18446744073709551615 : Int) (seenInt_bd IntKind.u64 W (addOpt a (Int.toNat (4 : Int))))))) (ST.node (SV.tup []) ST.nil ST.nil) ST.nil)) (ST.node (SV.c (SC.sliv a false len cap))
    (ST.node (SV.c (SC.ptv (addOpt a (Int.toNat (3 : Int))))) (ST.node (SV.c (SC.int false IntKind.i64 (smF (seenInt IntKind.u64 W (addOpt a (7 : Nat)))) Bd.any)) ST.nil ST.nil)
    (ST.node (SV.tup []) ST.nil ST.nil)) (ST.node (SV.c (SC.int false IntKind.u64 (seenInt IntKind.u64 W (addOpt a (5 : Nat))) (Bd.w (0 : Int) (18446744073709551615 : Int) (seenInt_bd
    IntKind.u64 W (addOpt a (Int.toNat (5 : Int))))))) (ST.node (SV.tup []) ST.nil ST.nil) ST.nil))) (ST.node (SV.tup []) (ST.node (SV.c (SC.boo true false)) (ST.node (SV.c (SC.int
    false IntKind.i64 (smF (seenInt IntKind.u64 W (addOpt a (2 : Nat)))) Bd.any)) (ST.node (SV.c (SC.ptv (addOpt a (Int.toNat (7 : Int))))) ST.nil ST.nil) (ST.node (SV.tup []) ST.nil
    ST.nil)) (ST.node (SV.c (SC.sliv a false len cap)) (ST.node (SV.tup []) ST.nil ST.nil) ST.nil)) (ST.node (SV.c (SC.int false IntKind.u64 (seenInt IntKind.u64 W (addOpt a (1 : Nat)))
    (Bd.w (0 : Int) (18446744073709551615 : Int) (seenInt_bd IntKind.u64 W (addOpt a (Int.toNat (1 : Int))))))) (ST.node (SV.c (SC.sliv a false len cap)) (ST.node (SV.tup []) ST.nil
    ST.nil) ST.nil) (ST.node (SV.c (SC.sliv a false len cap)) (ST.node (SV.tup []) ST.nil ST.nil) ST.nil))))) []) (Mem.mk [((0 : Nat), SO.seen W), ((15 : Nat), SO.cells [SC.int true
    IntKind.u64 (0 : Int), SC.int true IntKind.i64 (0 : Int), SC.int true IntKind.u64 (0 : Int), SC.int true IntKind.i64 (0 : Int), SC.int true IntKind.i64 (0 : Int), SC.int true
    IntKind.u64 (0 : Int), SC.int true IntKind.i64 (0 : Int)] (75 : Nat)), ((46 : Nat), SO.cells [SC.int false IntKind.u64 (seenInt IntKind.u64 W (addOpt a (1 : Nat))) (Bd.w (0 : Int)
    (18446744073709551615 : Int) (seenInt_bd IntKind.u64 W (addOpt a (Int.toNat (1 : Int))))), SC.int false IntKind.i64 (smF (seenInt IntKind.u64 W (addOpt a (2 : Nat)))) Bd.any, SC.int
    false IntKind.u64 (seenInt IntKind.u64 W (addOpt a (3 : Nat))) (Bd.w (0 : Int) (18446744073709551615 : Int) (seenInt_bd IntKind.u64 W (addOpt a (Int.toNat (3 : Int))))), SC.int
    false IntKind.i64 (smF (seenInt IntKind.u64 W (addOpt a (4 : Nat)))) Bd.any, SC.int false IntKind.i64 (smF (seenInt IntKind.u64 W (addOpt a (5 : Nat)))) Bd.any, SC.int false
    IntKind.u64 (seenInt IntKind.u64 W (addOpt a (6 : Nat))) (Bd.w (0 : Int) (18446744073709551615 : Int) (seenInt_bd IntKind.u64 W (addOpt a (Int.toNat (6 : Int))))), SC.int false
    IntKind.i64 (smF (seenInt IntKind.u64 W (addOpt a (7 : Nat)))) Bd.any] (75 : Nat))] (48 : Nat)) rdB ∧ True) ∧ True) ∧ True → W = W ∧ (((0 : Int) ≤ seenInt IntKind.u64 W (addOpt a (7
    : Nat)) ∧ seenInt IntKind.u64 W (addOpt a (7 : Nat)) ≤ (18446744073709551615 : Int)) ∧ (∀ (z : Un), True → W = W ∧ K (SF.mk (53 : Nat) (ST.node (SV.c (SC.sliv a false len cap))
    (ST.node (SV.tup []) (ST.node (SV.c (SC.ptr (15 : Nat) (0 : Nat))) (ST.node (SV.tup []) (ST.node (SV.c (SC.sliv a false len cap)) (ST.node (SV.c (SC.ptv (addOpt a (Int.toNat (6 :
    Int))))) ST.nil ST.nil) (ST.node (SV.tup []) ST.nil ST.nil)) (ST.node (SV.c (SC.ptv (addOpt a (Int.toNat (4 : Int))))) (ST.node (SV.tup []) ST.nil ST.nil) ST.nil)) (ST.node (SV.tup
    []) (ST.node (SV.c (SC.sliv a false len cap)) (ST.node (SV.c (SC.int false IntKind.u64 (seenInt IntKind.u64 W (addOpt a (7 : Nat))) (Bd.w (0 : Int) (18446744073709551615 : Int)
    (seenInt_bd IntKind.u64 W (addOpt a (Int.toNat (7 : Int))))))) ST.nil ST.nil) (ST.node (SV.tup []) ST.nil ST.nil)) (ST.node (SV.c (SC.ptv (addOpt a (Int.toNat (5 : Int))))) (ST.node
    (SV.tup []) ST.nil ST.nil) ST.nil))) (ST.node (SV.c (SC.ptr (46 : Nat) (0 : Nat))) (ST.node (SV.c (SC.int false IntKind.i64 (↑len : Int))) (ST.node (SV.c (SC.int false IntKind.u64
    (seenInt IntKind.u64 W (addOpt a (2 : Nat))) (Bd.w (0 : Int) (18446744073709551615 : Int) (seenInt_bd IntKind.u64 W (addOpt a (Int.toNat (2 : Int))))))) (ST.node (SV.c (SC.sliv a
    false len cap)) ST.nil ST.nil) (ST.node (SV.tup []) ST.nil ST.nil)) (ST.node (SV.c (SC.int false IntKind.i64 (smF (seenInt IntKind.u64 W (addOpt a (4 : Nat)))) Bd.any)) (ST.node
    (SV.tup []) ST.nil ST.nil) ST.nil)) (ST.node (SV.c (SC.ptv (addOpt a (Int.toNat (1 : Int))))) (ST.node (SV.c (SC.int false IntKind.u64 (seenInt IntKind.u64 W (addOpt a (3 : Nat)))
    (Bd.w (0 : Int) (18446744073709551615 : Int) (seenInt_bd IntKind.u64 W (addOpt a (Int.toNat (3 : Int))))))) (ST.node (SV.agg [SC.int false IntKind.u64 (seenInt IntKind.u64 W (addOpt
    a (1 : Nat))) (Bd.w (0 : Int) (18446744073709551615 : Int) (seenInt_bd IntKind.u64 W (addOpt a (Int.toNat (1 : Int))))), SC.int false IntKind.i64 (smF (seenInt IntKind.u64 W (addOpt
    a (2 : Nat)))) Bd.any, SC.int false IntKind.u64 (seenInt IntKind.u64 W (addOpt a (3 : Nat))) (Bd.w (0 : Int) (18446744073709551615 : Int) (seenInt_bd IntKind.u64 W (addOpt a
    (Int.toNat (3 : Int))))), SC.int false IntKind.i64 (smF (seenInt IntKind.u64 W (addOpt a (4 : Nat)))) Bd.any, SC.int false IntKind.i64 (smF (seenInt IntKind.u64 W (addOpt a (5 :
    Nat)))) Bd.any, SC.int false IntKind.u64 (seenInt IntKind.u64 W (addOpt a (6 : Nat))) (Bd.w (0 : Int) (18446744073709551615 : Int) (seenInt_bd IntKind.u64 W (addOpt a (Int.toNat (6
    : Int))))), SC.int false IntKind.i64 (smF (seenInt IntKind.u64 W (addOpt a (7 : Nat)))) Bd.any]) ST.nil ST.nil) ST.nil) (ST.node (SV.c (SC.int false IntKind.i64 (smF (seenInt
    IntKind.u64 W (addOpt a (5 : Nat)))) Bd.any)) (ST.node (SV.tup []) ST.nil ST.nil) ST.nil)))) (ST.node (SV.c (SC.int true IntKind.u64 (0 : Int))) (ST.node (SV.c (SC.boo true false))
    (ST.node (SV.c (SC.sliv a false len cap)) (ST.node (SV.c (SC.ptv (addOpt a (Int.toNat (2 : Int))))) (ST.node (SV.c (SC.int false IntKind.u64 (seenInt IntKind.u64 W (addOpt a (6 :
    Nat))) (Bd.w (0 : Int) (18446744073709551615 : Int) (seenInt_bd IntKind.u64 W (addOpt a (Int.toNat (6 : Int))))))) ST.nil ST.nil) (ST.node (SV.tup []) ST.nil ST.nil)) (ST.node (SV.c
    (SC.int false IntKind.u64 (seenInt IntKind.u64 W (addOpt a (4 : Nat))) (Bd.w (0 : Int) (18446744073709551615 : Int) (seenInt_bd IntKind.u64 W (addOpt a (Int.toNat (4 : Int)))))))
    (ST.node (SV.tup []) ST.nil ST.nil) ST.nil)) (ST.node (SV.c (SC.sliv a false len cap)) (ST.node (SV.c (SC.ptv (addOpt a (Int.toNat (3 : Int))))) (ST.node (SV.c (SC.int false
    IntKind.i64 (smF (seenInt IntKind.u64 W (addOpt a (7 : Nat)))) Bd.any)) ST.nil ST.nil) (ST.node (SV.tup []) ST.nil ST.nil)) (ST.node (SV.c (SC.int false IntKind.u64 (seenInt
    IntKind.u64 W (addOpt a (5 : Nat))) (Bd.w (0 : Int) (18446744073709551615 : Int) (seenInt_bd IntKind.u64 W (addOpt a (Int.toNat (5 : Int))))))) (ST.node (SV.tup []) ST.nil ST.nil)
    ST.nil))) (ST.node (SV.tup []) (ST.node (SV.c (SC.boo true false)) (ST.node (SV.c (SC.int false IntKind.i64 (smF (seenInt IntKind.u64 W (addOpt a (2 : Nat)))) Bd.any)) (ST.node
    (SV.c (SC.ptv (addOpt a (Int.toNat (7 : Int))))) ST.nil ST.nil) (ST.node (SV.tup []) ST.nil ST.nil)) (ST.node (SV.c (SC.sliv a false len cap)) (ST.node (SV.tup []) ST.nil ST.nil)
    ST.nil)) (ST.node (SV.c (SC.int false IntKind.u64 (seenInt IntKind.u64 W (addOpt a (1 : Nat))) (Bd.w (0 : Int) (18446744073709551615 : Int) (seenInt_bd IntKind.u64 W (addOpt a
    (Int.toNat (1 : Int))))))) (ST.node (SV.c (SC.sliv a false len cap)) (ST.node (SV.tup []) ST.nil ST.nil) ST.nil) (ST.node (SV.c (SC.sliv a false len cap)) (ST.node (SV.tup [])
    ST.nil ST.nil) ST.nil))))) []) (Mem.mk [((0 : Nat), SO.seen W), ((15 : Nat), SO.cells [SC.int true IntKind.u64 (0 : Int), SC.int true IntKind.i64 (0 : Int), SC.int true IntKind.u64
    (0 : Int), SC.int true IntKind.i64 (0 : Int), SC.int true IntKind.i64 (0 : Int), SC.int true IntKind.u64 (0 : Int), SC.int true IntKind.i64 (0 : Int)] (75 : Nat)), ((46 : Nat),
    SO.cells [SC.int false IntKind.u64 (seenInt IntKind.u64 W (addOpt a (1 : Nat))) (Bd.w (0 : Int) (18446744073709551615 : Int) (seenInt_bd IntKind.u64 W (addOpt a (Int.toNat (1 :
    Int))))), SC.int false IntKind.i64 (smF (seenInt IntKind.u64 W (addOpt a (2 : Nat)))) Bd.any, SC.int false IntKind.u64 (seenInt IntKind.u64 W (addOpt a (3 : Nat))) (Bd.w (0 : Int)
    (18446744073709551615 : Int) (seenInt_bd IntKind.u64 W (addOpt a (Int.toNat (3 : Int))))), SC.int false IntKind.i64 (smF (seenInt IntKind.u64 W (addOpt a (4 : Nat)))) Bd.any, SC.int
    false IntKind.i64 (smF (seenInt IntKind.u64 W (addOpt a (5 : Nat)))) Bd.any, SC.int false IntKind.u64 (seenInt IntKind.u64 W (addOpt a (6 : Nat))) (Bd.w (0 : Int)
    (18446744073709551615 : Int) (seenInt_bd IntKind.u64 W (addOpt a (Int.toNat (6 : Int))))), SC.int false IntKind.i64 (smF (seenInt IntKind.u64 W (addOpt a (7 : Nat)))) Bd.any] (75 :
    Nat))] (48 : Nat)) rdB ∧ True) ∧ True) ∧ True) ∧ True) ∧ True) ∧ (∀ (K : KO XE), ((0 : Int) ≤ seenInt IntKind.u64 W (addOpt a (5 : Nat)) ∧ seenInt IntKind.u64 W (addOpt a (5 : Nat))
    ≤ (18446744073709551615 : Int)) ∧ (∀ (z : Un), True → W = W ∧ (((0 : Int) ≤ seenInt IntKind.u64 W (addOpt a (7 : Nat)) ∧ seenInt IntKind.u64 W (addOpt a (7 : Nat)) ≤
    (18446744073709551615 : Int)) ∧ (∀ (z : Un), True → W = W ∧ (W = W ∧ K (SF.mk (53 : Nat) (ST.node (SV.c (SC.sliv a false len cap)) (ST.node (SV.tup []) (ST.node (SV.c (SC.ptr (15 :
    Nat) (0 : Nat))) (ST.node (SV.tup []) (ST.node (SV.c (SC.sliv a false len cap)) (ST.node (SV.c (SC.ptv (addOpt a (Int.toNat (6 : Int))))) ST.nil ST.nil) (ST.node (SV.tup []) ST.nil
    ST.nil)) (ST.node (SV.c (SC.ptv (addOpt a (Int.toNat (4 : Int))))) (ST.node (SV.tup []) ST.nil ST.nil) ST.nil)) (ST.node (SV.tup []) (ST.node (SV.c (SC.sliv a false len cap))
    (ST.node (SV.c (SC.int false IntKind.u64 (seenInt IntKind.u64 W (addOpt a (7 : Nat))) (Bd.w (0 : Int) (18446744073709551615 : Int) (seenInt_bd IntKind.u64 W (addOpt a (Int.toNat (7
    : Int))))))) ST.nil ST.nil) (ST.node (SV.tup []) ST.nil ST.nil)) (ST.node (SV.c (SC.ptv (addOpt a (Int.toNat (5 : Int))))) (ST.node (SV.tup []) ST.nil ST.nil) ST.nil))) (ST.node
    (SV.c (SC.ptr (46 : Nat) (0 : Nat))) (ST.node (SV.c (SC.int false IntKind.i64 (↑len : Int))) (ST.node (SV.c (SC.int false IntKind.u64 (seenInt IntKind.u64 W (addOpt a (2 : Nat)))
    (Bd.w (0 : Int) (18446744073709551615 : Int) (seenInt_bd IntKind.u64 W (addOpt a (Int.toNat (2 : Int))))))) (ST.node (SV.c (SC.sliv a false len cap)) ST.nil ST.nil) (ST.node (SV.tup
    []) ST.nil ST.nil)) (ST.node (SV.c (SC.int false IntKind.i64 (smF (seenInt IntKind.u64 W (addOpt a (4 : Nat)))) Bd.any)) (ST.node (SV.tup []) ST.nil ST.nil) ST.nil)) (ST.node (SV.c
    (SC.ptv (addOpt a (Int.toNat (1 : Int))))) (ST.node (SV.c (SC.int false IntKind.u64 (seenInt IntKind.u64 W (addOpt a (3 : Nat))) (Bd.w (0 : Int) (18446744073709551615 : Int)
    (seenInt_bd IntKind.u64 W (addOpt a (Int.toNat (3 : Int))))))) (ST.node (SV.agg [SC.int false IntKind.u64 (seenInt IntKind.u64 W (addOpt a (1 : Nat))) (Bd.w (0 : Int)
    (18446744073709551615 : Int) (seenInt_bd IntKind.u64 W (addOpt a (Int.toNat (1 : Int))))), SC.int false IntKind.i64 (smF (seenInt IntKind.u64 W (addOpt a (2 : Nat)))) Bd.any, SC.int
    false IntKind.u64 (seenInt IntKind.u64 W (addOpt a (3 : Nat))) (Bd.w (0 : Int) (18446744073709551615 : Int) (seenInt_bd IntKind.u64 W (addOpt a (Int.toNat (3 : Int))))), SC.int
    false IntKind.i64 (smF (seenInt IntKind.u64 W (addOpt a (4 : Nat)))) Bd.any, SC.int false IntKind.i64 (smF (seenInt IntKind.u64 W (addOpt a (5 : Nat)))) Bd.any, SC.int false
    IntKind.u64 (seenInt IntKind.u64 W (addOpt a (6 : Nat))) (Bd.w (0 : Int) (18446744073709551615 : Int) (seenInt_bd IntKind.u64 W (addOpt a (Int.toNat (6 : Int))))), SC.int false
    IntKind.i64 (smF (seenInt IntKind.u64 W (addOpt a (7 : Nat)))) Bd.any]) ST.nil ST.nil) ST.nil) (ST.node (SV.c (SC.int false IntKind.i64 (smF (seenInt IntKind.u64 W (addOpt a (5 :
    Nat)))) Bd.any)) (ST.node (SV.tup []) ST.nil ST.nil) ST.nil)))) (ST.node (SV.c (SC.int true IntKind.u64 (0 : Int))) (ST.node (SV.c (SC.boo true false)) (ST.node (SV.c (SC.sliv a
    false len cap)) (ST.node (SV.c (SC.ptv (addOpt a (Int.toNat (2 : Int))))) (ST.node (SV.c (SC.int false IntKind.u64 (seenInt IntKind.u64 W (addOpt a (6 : Nat))) (Bd.w (0 : Int)
    (18446744073709551615 : Int) (seenInt_bd IntKind.u64 W (addOpt a (Int.toNat (6 : Int))))))) ST.nil ST.nil) (ST.node (SV.tup []) ST.nil ST.nil)) (ST.node (SV.c (SC.int false
    IntKind.u64 (seenInt IntKind.u64 W (addOpt a (4 : Nat))) (Bd.w (0 : Int) (18446744073709551615 : Int) (seenInt_bd IntKind.u64 W (addOpt a (Int.toNat (4 : Int))))))) (ST.node (SV.tup
    []) ST.nil ST.nil) ST.nil)) (ST.node (SV.c (SC.sliv a false len cap)) (ST.node (SV.c (SC.ptv (addOpt a (Int.toNat (3 : Int))))) (ST.node (SV.c (SC.int false IntKind.i64 (smF
    (seenInt IntKind.u64 W (addOpt a (7 : Nat)))) Bd.any)) ST.nil ST.nil) (ST.node (SV.tup []) ST.nil ST.nil)) (ST.node (SV.c (SC.int false IntKind.u64 (seenInt IntKind.u64 W (addOpt a
    (5 : Nat))) (Bd.w (0 : Int) (18446744073709551615 : Int) (seenInt_bd IntKind.u64 W (addOpt a (Int.toNat (5 : Int))))))) (ST.node (SV.tup []) ST.nil ST.nil) ST.nil))) (ST.node
    (SV.tup []) (ST.node (SV.c (SC.boo true false)) (ST.node (SV.c (SC.int false IntKind.i64 (smF (seenInt IntKind.u64 W (addOpt a (2 : Nat)))) Bd.any)) (ST.node (SV.c (SC.ptv (addOpt a
    (Int.toNat (7 : Int))))) ST.nil ST.nil) (ST.node (SV.tup []) ST.nil ST.nil)) (ST.node (SV.c (SC.sliv a false len cap)) (ST.node (SV.tup []) ST.nil ST.nil) ST.nil)) (ST.node (SV.c
    (SC.int false IntKind.u64 (seenInt IntKind.u64 W (addOpt a (1 : Nat))) (Bd.w (0 : Int) (18446744073709551615 : Int) (seenInt_bd IntKind.u64 W (addOpt a (Int.toNat (1 : Int)))))))
    (ST.node (SV.c (SC.sliv a false len cap)) (ST.node (SV.tup []) ST.nil ST.nil) ST.nil) (ST.node (SV.c (SC.sliv a false len cap)) (ST.node (SV.tup []) ST.nil ST.nil) ST.nil))))) [])
    (Mem.mk [((0 : Nat), SO.seen W), ((15 : Nat), SO.cells [SC.int true IntKind.u64 (0 : Int), SC.int true IntKind.i64 (0 : Int), SC.int true IntKind.u64 (0 : Int), SC.int true
    IntKind.i64 (0 : Int), SC.int true IntKind.i64 (0 : Int), SC.int true IntKind.u64 (0 : Int), SC.int true IntKind.i64 (0 : Int)] (75 : Nat)), ((46 : Nat), SO.cells [SC.int false
    IntKind.u64 (seenInt IntKind.u64 W (addOpt a (1 : Nat))) (Bd.w (0 : Int) (18446744073709551615 : Int) (seenInt_bd IntKind.u64 W (addOpt a (Int.toNat (1 : Int))))), SC.int false
    IntKind.i64 (smF (seenInt IntKind.u64 W (addOpt a (2 : Nat)))) Bd.any, SC.int false IntKind.u64 (seenInt IntKind.u64 W (addOpt a (3 : Nat))) (Bd.w (0 : Int) (18446744073709551615 :
    Int) (seenInt_bd IntKind.u64 W (addOpt a (Int.toNat (3 : Int))))), SC.int false IntKind.i64 (smF (seenInt IntKind.u64 W (addOpt a (4 : Nat)))) Bd.any, SC.int false IntKind.i64 (smF
    (seenInt IntKind.u64 W (addOpt a (5 : Nat)))) Bd.any, SC.int false IntKind.u64 (seenInt IntKind.u64 W (addOpt a (6 : Nat))) (Bd.w (0 : Int) (18446744073709551615 : Int) (seenInt_bd
    IntKind.u64 W (addOpt a (Int.toNat (6 : Int))))), SC.int false IntKind.i64 (smF (seenInt IntKind.u64 W (addOpt a (7 : Nat)))) Bd.any] (75 : Nat))] (48 : Nat)) rdB ∧ True) ∧ True) ∧
    True) ∧ (∀ (K : KO XE), ((0 : Int) ≤ seenInt IntKind.u64 W (addOpt a (7 : Nat)) ∧ seenInt IntKind.u64 W (addOpt a (7 : Nat)) ≤ (18446744073709551615 : Int)) ∧ (∀ (z : Un), True → W
    = W ∧ (W = W ∧ K (SF.mk (53 : Nat) (ST.node (SV.c (SC.sliv a false len cap)) (ST.node (SV.tup []) (ST.node (SV.c (SC.ptr (15 : Nat) (0 : Nat))) (ST.node (SV.tup []) (ST.node (SV.c
    (SC.sliv a false len cap)) (ST.node (SV.c (SC.ptv (addOpt a (Int.toNat (6 : Int))))) ST.nil ST.nil) (ST.node (SV.tup []) ST.nil ST.nil)) (ST.node (SV.c (SC.ptv (addOpt a (Int.toNat
    (4 : Int))))) (ST.node (SV.tup []) ST.nil ST.nil) ST.nil)) (ST.node (SV.tup []) (ST.node (SV.c (SC.sliv a false len cap)) (ST.node (SV.c (SC.int false IntKind.u64 (seenInt
    IntKind.u64 W (addOpt a (7 : Nat))) (Bd.w (0 : Int) (18446744073709551615 : Int) (seenInt_bd IntKind.u64 W (addOpt a (Int.toNat (7 : Int))))))) ST.nil ST.nil) (ST.node (SV.tup [])
    ST.nil ST.nil)) (ST.node (SV.c (SC.ptv (addOpt a (Int.toNat (5 : Int))))) (ST.node (SV.tup []) ST.nil ST.nil) ST.nil))) (ST.node (SV.c (SC.ptr (46 : Nat) (0 : Nat))) (ST.node (SV.c
    (SC.int false IntKind.i64 (↑len : Int))) (ST.node (SV.c (SC.int false IntKind.u64 (seenInt IntKind.u64 W (addOpt a (2 : Nat))) (Bd.w (0 : Int) (18446744073709551615 : Int)
    (seenInt_bd IntKind.u64 W (addOpt a (Int.toNat (2 : Int))))))) (ST.node (SV.c (SC.sliv a false len cap)) ST.nil ST.nil) (ST.node (SV.tup []) ST.nil ST.nil)) (ST.node (SV.c (SC.int
    false IntKind.i64 (smF (seenInt IntKind.u64 W (addOpt a (4 : Nat)))) Bd.any)) (ST.node (SV.tup []) ST.nil ST.nil) ST.nil)) (ST.node (SV.c (SC.ptv (addOpt a (Int.toNat (1 : Int)))))
    (ST.node (SV.c (SC.int false IntKind.u64 (seenInt IntKind.u64 W (addOpt a (3 : Nat))) (Bd.w (0 : Int) (18446744073709551615 : Int) (seenInt_bd IntKind.u64 W (addOpt a (Int.toNat (3
    : Int))))))) (ST.node (SV.agg [SC.int false IntKind.u64 (seenInt IntKind.u64 W (addOpt a (1 : Nat))) (Bd.w (0 : Int) (18446744073709551615 : Int) (seenInt_bd IntKind.u64 W (addOpt a
    (Int.toNat (1 : Int))))), SC.int false IntKind.i64 (smF (seenInt IntKind.u64 W (addOpt a (2 : Nat)))) Bd.any, SC.int false IntKind.u64 (seenInt IntKind.u64 W (addOpt a (3 : Nat)))
    (Bd.w (0 : Int) (18446744073709551615 : Int) (seenInt_bd IntKind.u64 W (addOpt a (Int.toNat (3 : Int))))), SC.int false IntKind.i64 (smF (seenInt IntKind.u64 W (addOpt a (4 :
    Nat)))) Bd.any, SC.int false IntKind.i64 (smF (seenInt IntKind.u64 W (addOpt a (5 : Nat)))) Bd.any, SC.int false IntKind.u64 (seenInt IntKind.u64 W (addOpt a (6 : Nat))) (Bd.w (0 :
    Int) (18446744073709551615 : Int) (seenInt_bd IntKind.u64 W (addOpt a (Int.toNat (6 : Int))))), SC.int false IntKind.i64 (smF (seenInt IntKind.u64 W (addOpt a (7 : Nat)))) Bd.any])
    ST.nil ST.nil) ST.nil) (ST.node (SV.c (SC.int false IntKind.i64 (smF (seenInt IntKind.u64 W (addOpt a (5 : Nat)))) Bd.any)) (ST.node (SV.tup []) ST.nil ST.nil) ST.nil)))) (ST.node
    (SV.c (SC.int true IntKind.u64 (0 : Int))) (ST.node (SV.c (SC.boo true false)) (ST.node (SV.c (SC.sliv a false len cap)) (ST.node (SV.c (SC.ptv (addOpt a (Int.toNat (2 : Int)))))
    (ST.node (SV.c (SC.int false IntKind.u64 (seenInt IntKind.u64 W (addOpt a (6 : Nat))) (Bd.w (0 : Int) (18446744073709551615 : Int) (seenInt_bd IntKind.u64 W (addOpt a (Int.toNat (6
    : Int))))))) ST.nil ST.nil) (ST.node (SV.tup []) ST.nil ST.nil)) (ST.node (SV.c (SC.int false IntKind.u64 (seenInt IntKind.u64 W (addOpt a (4 : Nat))) (Bd.w (0 : Int)
    (18446744073709551615 : Int) (seenInt_bd IntKind.u64 W (addOpt a (Int.toNat (4 : Int))))))) (ST.node (SV.tup []) ST.nil ST.nil) ST.nil)) (ST.node (SV.c (SC.sliv a false len cap))
    (ST.node (SV.c (SC.ptv (addOpt a (Int.toNat (3 : Int))))) (ST.node (SV.c (SC.int false IntKind.i64 (smF (seenInt IntKind.u64 W (addOpt a (7 : Nat)))) Bd.any)) ST.nil ST.nil)
    (ST.node (SV.tup []) ST.nil ST.nil)) (ST.node (SV.c (SC.int false IntKind.u64 (seenInt IntKind.u64 W (addOpt a (5 : Nat))) (Bd.w (0 : Int) (18446744073709551615 : Int) (seenInt_bd
    IntKind.u64 W (addOpt a (Int.toNat (5 : Int))))))) (ST.node (SV.tup []) ST.nil ST.nil) ST.nil))) (ST.node (SV.tup []) (ST.node (SV.c (SC.boo true false)) (ST.node (SV.c (SC.int
    false IntKind.i64 (smF (seenInt IntKind.u64 W (addOpt a (2 : Nat)))) Bd.any)) (ST.node (SV.c (SC.ptv (addOpt a (Int.toNat (7 : Int))))) ST.nil ST.nil) (ST.node (SV.tup []) ST.nil
    ST.nil)) (ST.node (SV.c (SC.sliv a false len cap)) (ST.node (SV.tup []) ST.nil ST.nil) ST.nil)) (ST.node (SV.c (SC.int false IntKind.u64 (seenInt IntKind.u64 W (addOpt a (1 : Nat)))
    (Bd.w (0 : Int) (18446744073709551615 : Int) (seenInt_bd IntKind.u64 W (addOpt a (Int.toNat (1 : Int))))))) (ST.node (SV.c (SC.sliv a false len cap)) (ST.node (SV.tup []) ST.nil
    ST.nil) ST.nil) (ST.node (SV.c (SC.sliv a false len cap)) (ST.node (SV.tup []) ST.nil ST.nil) ST.nil))))) []) (Mem.mk [((0 : Nat), SO.seen W), ((15 : Nat), SO.cells [SC.int true
    IntKind.u64 (0 : Int), SC.int true IntKind.i64 (0 : Int), SC.int true IntKind.u64 (0 : Int), SC.int true IntKind.i64 (0 : Int), SC.int true IntKind.i64 (0 : Int), SC.int true
    IntKind.u64 (0 : Int), SC.int true IntKind.i64 (0 : Int)] (75 : Nat)), ((46 : Nat), SO.cells [SC.int false IntKind.u64 (seenInt IntKind.u64 W (addOpt a (1 : Nat))) (Bd.w (0 : Int)
    (18446744073709551615 : Int) (seenInt_bd IntKind.u64 W (addOpt a (Int.toNat (1 : Int))))), SC.int false IntKind.i64 (smF (seenInt IntKind.u64 W (addOpt a (2 : Nat)))) Bd.any, SC.int
    false IntKind.u64 (seenInt IntKind.u64 W (addOpt a (3 : Nat))) (Bd.w (0 : Int) (18446744073709551615 : Int) (seenInt_bd IntKind.u64 W (addOpt a (Int.toNat (3 : Int))))), SC.int
    false IntKind.i64 (smF (seenInt IntKind.u64 W (addOpt a (4 : Nat)))) Bd.any, SC.int false IntKind.i64 (smF (seenInt IntKind.u64 W (addOpt a (5 : Nat)))) Bd.any, SC.int false
    IntKind.u64 (seenInt IntKind.u64 W (addOpt a (6 : Nat))) (Bd.w (0 : Int) (18446744073709551615 : Int) (seenInt_bd IntKind.u64 W (addOpt a (Int.toNat (6 : Int))))), SC.int false
    IntKind.i64 (smF (seenInt IntKind.u64 W (addOpt a (7 : Nat)))) Bd.any] (75 : Nat))] (48 : Nat)) rdB ∧ True) ∧ True) ∧ True → W = W ∧ (((0 : Int) ≤ seenInt IntKind.u64 W (addOpt a (7
    : Nat)) ∧ seenInt IntKind.u64 W (addOpt a (7 : Nat)) ≤ (18446744073709551615 : Int)) ∧ (∀ (z : Un), True → W = W ∧ K (SF.mk (53 : Nat) (ST.node (SV.c (SC.sliv a false len cap))
    (ST.node (SV.tup []) (ST.node (SV.c (SC.ptr (15 : Nat) (0 : Nat))) (ST.node (SV.tup []) (ST.node (SV.c (SC.sliv a false len cap)) (ST.node (SV.c (SC.ptv (addOpt a (Int.toNat (6 :
    Int))))) ST.nil ST.nil) (ST.node (SV.tup []) ST.nil ST.nil)) (ST.node (SV.c (SC.ptv (addOpt a (Int.toNat (4 : Int))))) (ST.node (SV.tup []) ST.nil ST.nil) ST.nil)) (ST.node (SV.tup
    []) (ST.node (SV.c (SC.sliv a false len cap)) (ST.node (SV.c (SC.int false IntKind.u64 (seenInt IntKind.u64 W (addOpt a (7 : Nat))) (Bd.w (0 : Int) (18446744073709551615 : Int)
    (seenInt_bd IntKind.u64 W (addOpt a (Int.toNat (7 : Int))))))) ST.nil ST.nil) (ST.node (SV.tup []) ST.nil ST.nil)) (ST.node (SV.c (SC.ptv (addOpt a (Int.toNat (5 : Int))))) (ST.node
    (SV.tup []) ST.nil ST.nil) ST.nil))) (ST.node (SV.c (SC.ptr (46 : Nat) (0 : Nat))) (ST.node (SV.c (SC.int false IntKind.i64 (↑len : Int))) (ST.node (SV.c (SC.int false IntKind.u64
    (seenInt IntKind.u64 W (addOpt a (2 : Nat))) (Bd.w (0 : Int) (18446744073709551615 : Int) (seenInt_bd IntKind.u64 W (addOpt a (Int.toNat (2 : Int))))))) (ST.node (SV.c (SC.sliv a
    false len cap)) ST.nil ST.nil) (ST.node (SV.tup []) ST.nil ST.nil)) (ST.node (SV.c (SC.int false IntKind.i64 (smF (seenInt IntKind.u64 W (addOpt a (4 : Nat)))) Bd.any)) (ST.node
    (SV.tup []) ST.nil ST.nil) ST.nil)) (ST.node (SV.c (SC.ptv (addOpt a (Int.toNat (1 : Int))))) (ST.node (SV.c (SC.int false IntKind.u64 (seenInt IntKind.u64 W (addOpt a (3 : Nat)))
    (Bd.w (0 : Int) (18446744073709551615 : Int) (seenInt_bd IntKind.u64 W (addOpt a (Int.toNat (3 : Int))))))) (ST.node (SV.agg [SC.int false IntKind.u64 (seenInt IntKind.u64 W (addOpt
    a (1 : Nat))) (Bd.w (0 : Int) (18446744073709551615 : Int) (seenInt_bd IntKind.u64 W (addOpt a (Int.toNat (1 : Int))))), SC.int false IntKind.i64 (smF (seenInt IntKind.u64 W (addOpt
    a (2 : Nat)))) Bd.any, SC.int false IntKind.u64 (seenInt IntKind.u64 W (addOpt a (3 : Nat))) (Bd.w (0 : Int) (18446744073709551615 : Int) (seenInt_bd IntKind.u64 W (addOpt a
    (Int.toNat (3 : Int))))), SC.int false IntKind.i64 (smF (seenInt IntKind.u64 W (addOpt a (4 : Nat)))) Bd.any, SC.int false IntKind.i64 (smF (seenInt IntKind.u64 W (addOpt a (5 :
    Nat)))) Bd.any, SC.int false IntKind.u64 (seenInt IntKind.u64 W (addOpt a (6 : Nat))) (Bd.w (0 : Int) (18446744073709551615 : Int) (seenInt_bd IntKind.u64 W (addOpt a (Int.toNat (6
    : Int))))), SC.int false IntKind.i64 (smF (seenInt IntKind.u64 W (addOpt a (7 : Nat)))) Bd.any]) ST.nil ST.nil) ST.nil) (ST.node (SV.c (SC.int false IntKind.i64 (smF (seenInt
    IntKind.u64 W (addOpt a (5 : Nat)))) Bd.any)) (ST.node (SV.tup []) ST.nil ST.nil) ST.nil)))) (ST.node (SV.c (SC.int true IntKind.u64 (0 : Int))) (ST.node (SV.c (SC.boo true false))
    (ST.node (SV.c (SC.sliv a false len cap)) (ST.node (SV.c (SC.ptv (addOpt a (Int.toNat (2 : Int))))) (ST.node (SV.c (SC.int false IntKind.u64 (seenInt IntKind.u64 W (addOpt a (6 :
    Nat))) (Bd.w (0 : Int) (18446744073709551615 : Int) (seenInt_bd IntKind.u64 W (addOpt a (Int.toNat (6 : Int))))))) ST.nil ST.nil) (ST.node (SV.tup []) ST.nil ST.nil)) (ST.node (SV.c
    (SC.int false IntKind.u64 (seenInt IntKind.u64 W (addOpt a (4 : Nat))) (Bd.w (0 : Int) (18446744073709551615 : Int) (seenInt_bd IntKind.u64 W (addOpt a (Int.toNat (4 : Int)))))))
    (ST.node (SV.tup []) ST.nil ST.nil) ST.nil)) (ST.node (SV.c (SC.sliv a false len cap)) (ST.node (SV.c (SC.ptv (addOpt a (Int.toNat (3 : Int))))) (ST.node (SV.c (SC.int false
    IntKind.i64 (smF (seenInt IntKind.u64 W (addOpt a (7 : Nat)))) Bd.any)) ST.nil ST.nil) (ST.node (SV.tup []) ST.nil ST.nil)) (ST.node (SV.c (SC.int false IntKind.u64 (seenInt
    IntKind.u64 W (addOpt a (5 : Nat))) (Bd.w (0 : Int) (18446744073709551615 : Int) (seenInt_bd IntKind.u64 W (addOpt a (Int.toNat (5 : Int))))))) (ST.node (SV.tup []) ST.nil ST.nil)
    ST.nil))) (ST.node (SV.tup []) (ST.node (SV.c (SC.boo true false)) (ST.node (SV.c (SC.int false IntKind.i64 (smF (seenInt IntKind.u64 W (addOpt a (2 : Nat)))) Bd.any)) (ST.node
    (SV.c (SC.ptv (addOpt a (Int.toNat (7 : Int))))) ST.nil ST.nil) (ST.node (SV.tup []) ST.nil ST.nil)) (ST.node (SV.c (SC.sliv a false len cap)) (ST.node (SV.tup []) ST.nil ST.nil)
    ST.nil)) (ST.node (SV.c (SC.int false IntKind.u64 (seenInt IntKind.u64 W (addOpt a (1 : Nat))) (Bd.w (0 : Int) (18446744073709551615 : Int) (seenInt_bd IntKind.u64 W (addOpt a
    (Int.toNat (1 : Int))))))) (ST.node (SV.c (SC.sliv a false len cap)) (ST.node (SV.tup []) ST.nil ST.nil) ST.nil) (ST.node (SV.c (SC.sliv a false len cap)) (ST.node (SV.tup [])
    ST.nil ST.nil) ST.nil))))) []) (Mem.mk [((0 : Nat), SO.seen W), ((15 : Nat), SO.cells [SC.int true IntKind.u64 (0 : Int), SC.int true IntKind.i64 (0 : Int), SC.int true IntKind.u64
    (0 : Int), SC.int true IntKind.i64 (0 : Int), SC.int true IntKind.i64 (0 : Int), SC.int true IntKind.u64 (0 : Int), SC.int true IntKind.i64 (0 : Int)] (75 : Nat)), ((46 : Nat),
    SO.cells [SC.int false IntKind.u64 (seenInt IntKind.u64 W (addOpt a (1 : Nat))) (Bd.w (0 : Int) (18446744073709551615 : Int) (seenInt_bd IntKind.u64 W (addOpt a (Int.toNat (1 :
    Int))))), SC.int false IntKind.i64 (smF (seenInt IntKind.u64 W (addOpt a (2 : Nat)))) Bd.any, SC.int false IntKind.u64 (seenInt IntKind.u64 W (addOpt a (3 : Nat))) (Bd.w (0 : Int)
    (18446744073709551615 : Int) (seenInt_bd IntKind.u64 W (addOpt a (Int.toNat (3 : Int))))), SC.int false IntKind.i64 (smF (seenInt IntKind.u64 W (addOpt a (4 : Nat)))) Bd.any, SC.int
    false IntKind.i64 (smF (seenInt IntKind.u64 W (addOpt a (5 : Nat)))) Bd.any, SC.int false IntKind.u64 (seenInt IntKind.u64 W (addOpt a (6 : Nat))) (Bd.w (0 : Int)
    (18446744073709551615 : Int) (seenInt_bd IntKind.u64 W (addOpt a (Int.toNat (6 : Int))))), SC.int false IntKind.i64 (smF (seenInt IntKind.u64 W (addOpt a (7 : Nat)))) Bd.any] (75 :
    Nat))] (48 : Nat)) rdB ∧ True) ∧ True) ∧ True) ∧ True) ∧ True → W = W ∧ (((0 : Int) ≤ seenInt IntKind.u64 W (addOpt a (5 : Nat)) ∧ seenInt IntKind.u64 W (addOpt a (5 : Nat)) ≤
    (18446744073709551615 : Int)) ∧ (∀ (z : Un), True → W = W ∧ (((0 : Int) ≤ seenInt IntKind.u64 W (addOpt a (7 : Nat)) ∧ seenInt IntKind.u64 W (addOpt a (7 : Nat)) ≤
    (18446744073709551615 : Int)) ∧ (∀ (z : Un), True → W = W ∧ K (SF.mk (53 : Nat) (ST.node (SV.c (SC.sliv a false len cap)) (ST.node (SV.tup []) (ST.node (SV.c (SC.ptr (15 : Nat) (0 :
    Nat))) (ST.node (SV.tup []) (ST.node (SV.c (SC.sliv a false len cap)) (ST.node (SV.c (SC.ptv (addOpt a (Int.toNat (6 : Int))))) ST.nil ST.nil) (ST.node (SV.tup []) ST.nil ST.nil))
    (ST.node (SV.c (SC.ptv (addOpt a (Int.toNat (4 : Int))))) (ST.node (SV.tup []) ST.nil ST.nil) ST.nil)) (ST.node (SV.tup []) (ST.node (SV.c (SC.sliv a false len cap)) (ST.node (SV.c
    (SC.int false IntKind.u64 (seenInt IntKind.u64 W (addOpt a (7 : Nat))) (Bd.w (0 : Int) (18446744073709551615 : Int) (seenInt_bd IntKind.u64 W (addOpt a (Int.toNat (7 : Int)))))))
    ST.nil ST.nil) (ST.node (SV.tup []) ST.nil ST.nil)) (ST.node (SV.c (SC.ptv (addOpt a (Int.toNat (5 : Int))))) (ST.node (SV.tup []) ST.nil ST.nil) ST.nil))) (ST.node (SV.c (SC.ptr
    (46 : Nat) (0 : Nat))) (ST.node (SV.c (SC.int false IntKind.i64 (↑len : Int))) (ST.node (SV.c (SC.int false IntKind.u64 (seenInt IntKind.u64 W (addOpt a (2 : Nat))) (Bd.w (0 : Int)
    (18446744073709551615 : Int) (seenInt_bd IntKind.u64 W (addOpt a (Int.toNat (2 : Int))))))) (ST.node (SV.c (SC.sliv a false len cap)) ST.nil ST.nil) (ST.node (SV.tup []) ST.nil
    ST.nil)) (ST.node (SV.c (SC.int false IntKind.i64 (smF (seenInt IntKind.u64 W (addOpt a (4 : Nat)))) Bd.any)) (ST.node (SV.tup []) ST.nil ST.nil) ST.nil)) (ST.node (SV.c (SC.ptv
    (addOpt a (Int.toNat (1 : Int))))) (ST.node (SV.c (SC.int false IntKind.u64 (seenInt IntKind.u64 W (addOpt a (3 : Nat))) (Bd.w (0 : Int) (18446744073709551615 : Int) (seenInt_bd
    IntKind.u64 W (addOpt a (Int.toNat (3 : Int))))))) (ST.node (SV.agg [SC.int false IntKind.u64 (seenInt IntKind.u64 W (addOpt a (1 : Nat))) (Bd.w (0 : Int) (18446744073709551615 :
    Int) (seenInt_bd IntKind.u64 W (addOpt a (Int.toNat (1 : Int))))), SC.int false IntKind.i64 (smF (seenInt IntKind.u64 W (addOpt a (2 : Nat)))) Bd.any, SC.int false IntKind.u64
    (seenInt IntKind.u64 W (addOpt a (3 : Nat))) (Bd.w (0 : Int) (18446744073709551615 : Int) (seenInt_bd IntKind.u64 W (addOpt a (Int.toNat (3 : Int))))), SC.int false IntKind.i64 (smF
    (seenInt IntKind.u64 W (addOpt a (4 : Nat)))) Bd.any, SC.int false IntKind.i64 (smF (seenInt IntKind.u64 W (addOpt a (5 : Nat)))) Bd.any, SC.int false IntKind.u64 (seenInt
    IntKind.u64 W (addOpt a (6 : Nat))) (Bd.w (0 : Int) (18446744073709551615 : Int) (seenInt_bd IntKind.u64 W (addOpt a (Int.toNat (6 : Int))))), SC.int false IntKind.i64 (smF (seenInt
    IntKind.u64 W (addOpt a (7 : Nat)))) Bd.any]) ST.nil ST.nil) ST.nil) (ST.node (SV.c (SC.int false IntKind.i64 (smF (seenInt IntKind.u64 W (addOpt a (5 : Nat)))) Bd.any)) (ST.node
    (SV.tup []) ST.nil ST.nil) ST.nil)))) (ST.node (SV.c (SC.int true IntKind.u64 (0 : Int))) (ST.node (SV.c (SC.boo true false)) (ST.node (SV.c (SC.sliv a false len cap)) (ST.node
    (SV.c (SC.ptv (addOpt a (Int.toNat (2 : Int))))) (ST.node (SV.c (SC.int false IntKind.u64 (seenInt IntKind.u64 W (addOpt a (6 : Nat))) (Bd.w (0 : Int) (18446744073709551615 : Int)
    (seenInt_bd IntKind.u64 W (addOpt a (Int.toNat (6 : Int))))))) ST.nil ST.nil) (ST.node (SV.tup []) ST.nil ST.nil)) (ST.node (SV.c (SC.int false IntKind.u64 (seenInt IntKind.u64 W
    (addOpt a (4 : Nat))) (Bd.w (0 : Int) (18446744073709551615 : Int) (seenInt_bd IntKind.u64 W (addOpt a (Int.toNat (4 : Int))))))) (ST.node (SV.tup []) ST.nil ST.nil) ST.nil))
    (ST.node (SV.c (SC.sliv a false len cap)) (ST.node (SV.c (SC.ptv (addOpt a (Int.toNat (3 : Int))))) (ST.node (SV.c (SC.int false IntKind.i64 (smF (seenInt IntKind.u64 W (addOpt a (7
    : Nat)))) Bd.any)) ST.nil ST.nil) (ST.node (SV.tup []) ST.nil ST.nil)) (ST.node (SV.c (SC.int false IntKind.u64 (seenInt IntKind.u64 W (addOpt a (5 : Nat))) (Bd.w (0 : Int)
    (18446744073709551615 : Int) (seenInt_bd IntKind.u64 W (addOpt a (Int.toNat (5 : Int))))))) (ST.node (SV.tup []) ST.nil ST.nil) ST.nil))) (ST.node (SV.tup []) (ST.node (SV.c (SC.boo
    true false)) (ST.node (SV.c (SC.int false IntKind.i64 (smF (seenInt IntKind.u64 W (addOpt a (2 : Nat)))) Bd.any)) (ST.node (SV.c (SC.ptv (addOpt a (Int.toNat (7 : Int))))) ST.nil
    ST.nil) (ST.node (SV.tup []) ST.nil ST.nil)) (ST.node (SV.c (SC.sliv a false len cap)) (ST.node (SV.tup []) ST.nil ST.nil) ST.nil)) (ST.node (SV.c (SC.int false IntKind.u64 (seenInt
    IntKind.u64 W (addOpt a (1 : Nat))) (Bd.w (0 : Int) (18446744073709551615 : Int) (seenInt_bd IntKind.u64 W (addOpt a (Int.toNat (1 : Int))))))) (ST.node (SV.c (SC.sliv a false len
    cap)) (ST.node (SV.tup []) ST.nil ST.nil) ST.nil) (ST.node (SV.c (SC.sliv a false len cap)) (ST.node (SV.tup []) ST.nil ST.nil) ST.nil))))) []) (Mem.mk [((0 : Nat), SO.seen W), ((15
    : Nat), SO.cells [SC.int true IntKind.u64 (0 : Int), SC.int true IntKind.i64 (0 : Int), SC.int true IntKind.u64 (0 : Int), SC.int true IntKind.i64 (0 : Int), SC.int true IntKind.i64
    (0 : Int), SC.int true IntKind.u64 (0 : Int), SC.int true IntKind.i64 (0 : Int)] (75 : Nat)), ((46 : Nat), SO.cells [SC.int false IntKind.u64 (seenInt IntKind.u64 W (addOpt a (1 :
    Nat))) (Bd.w (0 : Int) (18446744073709551615 : Int) (seenInt_bd IntKind.u64 W (addOpt a (Int.toNat (1 : Int))))), SC.int false IntKind.i64 (smF (seenInt IntKind.u64 W (addOpt a (2 :
    Nat)))) Bd.any, SC.int false IntKind.u64 (seenInt IntKind.u64 W (addOpt a (3 : Nat))) (Bd.w (0 : Int) (18446744073709551615 : Int) (seenInt_bd IntKind.u64 W (addOpt a (Int.toNat (3
    : Int))))), SC.int false IntKind.i64 (smF (seenInt IntKind.u64 W (addOpt a (4 : Nat)))) Bd.any, SC.int false IntKind.i64 (smF (seenInt IntKind.u64 W (addOpt a (5 : Nat)))) Bd.any,
    SC.int false IntKind.u64 (seenInt IntKind.u64 W (addOpt a (6 : Nat))) (Bd.w (0 : Int) (18446744073709551615 : Int) (seenInt_bd IntKind.u64 W (addOpt a (Int.toNat (6 : Int))))),
    SC.int false IntKind.i64 (smF (seenInt IntKind.u64 W (addOpt a (7 : Nat)))) Bd.any] (75 : Nat))] (48 : Nat)) rdB ∧ True) ∧ True) ∧ True) ∧ True) ∧ True) ∧ True) ∧ True → W = W ∧
    (((0 : Int) ≤ seenInt IntKind.u64 W (addOpt a (4 : Nat)) ∧ seenInt IntKind.u64 W (addOpt a (4 : Nat)) ≤ (18446744073709551615 : Int)) ∧ (∀ (z : Un), True → W = W ∧ (((0 : Int) ≤
    seenInt IntKind.u64 W (addOpt a (5 : Nat)) ∧ seenInt IntKind.u64 W (addOpt a (5 : Nat)) ≤ (18446744073709551615 : Int)) ∧ (∀ (z : Un), True → W = W ∧ (((0 : Int) ≤ seenInt
    IntKind.u64 W (addOpt a (7 : Nat)) ∧ seenInt IntKind.u64 W (addOpt a (7 : Nat)) ≤ (18446744073709551615 : Int)) ∧ (∀ (z : Un), True → W = W ∧ K (SF.mk (53 : Nat) (ST.node (SV.c
    (SC.sliv a false len cap)) (ST.node (SV.tup []) (ST.node (SV.c (SC.ptr (15 : Nat) (0 : Nat))) (ST.node (SV.tup []) (ST.node (SV.c (SC.sliv a false len cap)) (ST.node (SV.c (SC.ptv
    (addOpt a (Int.toNat (6 : Int))))) ST.nil ST.nil) (ST.node (SV.tup []) ST.nil ST.nil)) (ST.node (SV.c (SC.ptv (addOpt a (Int.toNat (4 : Int))))) (ST.node (SV.tup []) ST.nil ST.nil)
    ST.nil)) (ST.node (SV.tup []) (ST.node (SV.c (SC.sliv a false len cap)) (ST.node (SV.c (SC.int false IntKind.u64 (seenInt IntKind.u64 W (addOpt a (7 : Nat))) (Bd.w (0 : Int)
    (18446744073709551615 : Int) (seenInt_bd IntKind.u64 W (addOpt a (Int.toNat (7 : Int))))))) ST.nil ST.nil) (ST.node (SV.tup []) ST.nil ST.nil)) (ST.node (SV.c (SC.ptv (addOpt a
    (Int.toNat (5 : Int))))) (ST.node (SV.tup []) ST.nil ST.nil) ST.nil))) (ST.node (SV.c (SC.ptr (46 : Nat) (0 : Nat))) (ST.node (SV.c (SC.int false IntKind.i64 (↑len : Int))) (ST.node
    (SV.c (SC.int false IntKind.u64 (seenInt IntKind.u64 W (addOpt a (2 : Nat))) (Bd.w (0 : Int) (18446744073709551615 : Int) (seenInt_bd IntKind.u64 W (addOpt a (Int.toNat (2 :
    Int))))))) (ST.node (SV.c (SC.sliv a false len cap)) ST.nil ST.nil) (ST.node (SV.tup []) ST.nil ST.nil)) (ST.node (SV.c (SC.int false IntKind.i64 (smF (seenInt IntKind.u64 W (addOpt
    a (4 : Nat)))) Bd.any)) (ST.node (SV.tup []) ST.nil ST.nil) ST.nil)) (ST.node (SV.c (SC.ptv (addOpt a (Int.toNat (1 : Int))))) (ST.node (SV.c (SC.int false IntKind.u64 (seenInt
    IntKind.u64 W (addOpt a (3 : Nat))) (Bd.w (0 : Int) (18446744073709551615 : Int) (seenInt_bd IntKind.u64 W (addOpt a (Int.toNat (3 : Int))))))) (ST.node (SV.agg [SC.int false
    IntKind.u64 (seenInt IntKind.u64 W (addOpt a (1 : Nat))) (Bd.w (0 : Int) (18446744073709551615 : Int) (seenInt_bd IntKind.u64 W (addOpt a (Int.toNat (1 : Int))))), SC.int false
    IntKind.i64 (smF (seenInt IntKind.u64 W (addOpt a (2 : Nat)))) Bd.any, SC.int false IntKind.u64 (seenInt IntKind.u64 W (addOpt a (3 : Nat))) (Bd.w (0 : Int) (18446744073709551615 :
    Int) (seenInt_bd IntKind.u64 W (addOpt a (Int.toNat (3 : Int))))), SC.int false IntKind.i64 (smF (seenInt IntKind.u64 W (addOpt a (4 : Nat)))) Bd.any, SC.int false IntKind.i64 (smF
    (seenInt IntKind.u64 W (addOpt a (5 : Nat)))) Bd.any, SC.int false IntKind.u64 (seenInt IntKind.u64 W (addOpt a (6 : Nat))) (Bd.w (0 : Int) (18446744073709551615 : Int) (seenInt_bd
    IntKind.u64 W (addOpt a (Int.toNat (6 : Int))))), SC.int false IntKind.i64 (smF (seenInt IntKind.u64 W (addOpt a (7 : Nat)))) Bd.any]) ST.nil ST.nil) ST.nil) (ST.node (SV.c (SC.int
    false IntKind.i64 (smF (seenInt IntKind.u64 W (addOpt a (5 : Nat)))) Bd.any)) (ST.node (SV.tup []) ST.nil ST.nil) ST.nil)))) (ST.node (SV.c (SC.int true IntKind.u64 (0 : Int)))
    (ST.node (SV.c (SC.boo true false)) (ST.node (SV.c (SC.sliv a false len cap)) (ST.node (SV.c (SC.ptv (addOpt a (Int.toNat (2 : Int))))) (ST.node (SV.c (SC.int false IntKind.u64
    (seenInt IntKind.u64 W (addOpt a (6 : Nat))) (Bd.w (0 : Int) (18446744073709551615 : Int) (seenInt_bd IntKind.u64 W (addOpt a (Int.toNat (6 : Int))))))) ST.nil ST.nil) (ST.node
    (SV.tup []) ST.nil ST.nil)) (ST.node (SV.c (SC.int false IntKind.u64 (seenInt IntKind.u64 W (addOpt a (4 : Nat))) (Bd.w (0 : Int) (18446744073709551615 : Int) (seenInt_bd
    IntKind.u64 W (addOpt a (Int.toNat (4 : Int))))))) (ST.node (SV.tup []) ST.nil ST.nil) ST.nil)) (ST.node (SV.c (SC.sliv a false len cap)) (ST.node (SV.c (SC.ptv (addOpt a (Int.toNat
    (3 : Int))))) (ST.node (SV.c (SC.int false IntKind.i64 (smF (seenInt IntKind.u64 W (addOpt a (7 : Nat)))) Bd.any)) ST.nil ST.nil) (ST.node (SV.tup []) ST.nil ST.nil)) (ST.node (SV.c
    (SC.int false IntKind.u64 (seenInt IntKind.u64 W (addOpt a (5 : Nat))) (Bd.w (0 : Int) (18446744073709551615 : Int) (seenInt_bd IntKind.u64 W (addOpt a (Int.toNat (5 : Int)))))))
    (ST.node (SV.tup []) ST.nil ST.nil) ST.nil))) (ST.node (SV.tup []) (ST.node (SV.c (SC.boo true false)) (ST.node (SV.c (SC.int false IntKind.i64 (smF (seenInt IntKind.u64 W (addOpt a
    (2 : Nat)))) Bd.any)) (ST.node (SV.c (SC.ptv (addOpt a (Int.toNat (7 : Int))))) ST.nil ST.nil) (ST.node (SV.tup []) ST.nil ST.nil)) (ST.node (SV.c (SC.sliv a false len cap))
    (ST.node (SV.tup []) ST.nil ST.nil) ST.nil)) (ST.node (SV.c (SC.int false IntKind.u64 (seenInt IntKind.u64 W (addOpt a (1 : Nat))) (Bd.w (0 : Int) (18446744073709551615 : Int)
    (seenInt_bd IntKind.u64 W (addOpt a (Int.toNat (1 : Int))))))) (ST.node (SV.c (SC.sliv a false len cap)) (ST.node (SV.tup []) ST.nil ST.nil) ST.nil) (ST.node (SV.c (SC.sliv a false
    len cap)) (ST.node (SV.tup []) ST.nil ST.nil) ST.nil))))) []) (Mem.mk [((0 : Nat), SO.seen W), ((15 : Nat), SO.cells [SC.int true IntKind.u64 (0 : Int), SC.int true IntKind.i64 (0 :
    Int), SC.int true IntKind.u64 (0 : Int), SC.int true IntKind.i64 (0 : Int), SC.int true IntKind.i64 (0 : Int), SC.int true IntKind.u64 (0 : Int), SC.int true IntKind.i64 (0 : Int)]
    (75 : Nat)), ((46 : Nat), SO.cells [SC.int false IntKind.u64 (seenInt IntKind.u64 W (addOpt a (1 : Nat))) (Bd.w (0 : Int) (18446744073709551615 : Int) (seenInt_bd IntKind.u64 W
    (addOpt a (Int.toNat (1 : Int))))), SC.int false IntKind.i64 (smF (seenInt IntKind.u64 W (addOpt a (2 : Nat)))) Bd.any, SC.int false IntKind.u64 (seenInt IntKind.u64 W (addOpt a (3
    : Nat))) (Bd.w (0 : Int) (18446744073709551615 : Int) (seenInt_bd IntKind.u64 W (addOpt a (Int.toNat (3 : Int))))), SC.int false IntKind.i64 (smF (seenInt IntKind.u64 W (addOpt a (4
    : Nat)))) Bd.any, SC.int false IntKind.i64 (smF (seenInt IntKind.u64 W (addOpt a (5 : Nat)))) Bd.any, SC.int false IntKind.u64 (seenInt IntKind.u64 W (addOpt a (6 : Nat))) (Bd.w (0
    : Int) (18446744073709551615 : Int) (seenInt_bd IntKind.u64 W (addOpt a (Int.toNat (6 : Int))))), SC.int false IntKind.i64 (smF (seenInt IntKind.u64 W (addOpt a (7 : Nat)))) Bd.any]
    (75 : Nat))] (48 : Nat)) rdB ∧ True) ∧ True) ∧ True) ∧ True) ∧ True) ∧ True) ∧ True) ∧ True) ∧ True → W = W ∧ (((0 : Int) ≤ seenInt IntKind.u64 W (addOpt a (2 : Nat)) ∧ seenInt
    IntKind.u64 W (addOpt a (2 : Nat)) ≤ (18446744073709551615 : Int)) ∧ (∀ (z : Un), True → W = W ∧ (((0 : Int) ≤ seenInt IntKind.u64 W (addOpt a (4 : Nat)) ∧ seenInt IntKind.u64 W
    (addOpt a (4 : Nat)) ≤ (18446744073709551615 : Int)) ∧ (∀ (z : Un), True → W = W ∧ (((0 : Int) ≤ seenInt IntKind.u64 W (addOpt a (5 : Nat)) ∧ seenInt IntKind.u64 W (addOpt a (5 :
    Nat)) ≤ (18446744073709551615 : Int)) ∧ (∀ (z : Un), True → W = W ∧ (((0 : Int) ≤ seenInt IntKind.u64 W (addOpt a (7 : Nat)) ∧ seenInt IntKind.u64 W (addOpt a (7 : Nat)) ≤
    (18446744073709551615 : Int)) ∧ (∀ (z : Un), True → W = W ∧ K (SF.mk (53 : Nat) (ST.node (SV.c (SC.sliv a false len cap)) (ST.node (SV.tup []) (ST.node (SV.c (SC.ptr (15 : Nat) (0 :
    Nat))) (ST.node (SV.tup []) (ST.node (SV.c (SC.sliv a false len cap)) (ST.node (SV.c (SC.ptv (addOpt a (Int.toNat (6 : Int))))) ST.nil ST.nil) (ST.node (SV.tup []) ST.nil ST.nil))
    (ST.node (SV.c (SC.ptv (addOpt a (Int.toNat (4 : Int))))) (ST.node (SV.tup []) ST.nil ST.nil) ST.nil)) (ST.node (SV.tup []) (ST.node (SV.c (SC.sliv a false len cap)) (ST.node (SV.c
    (SC.int false IntKind.u64 (seenInt IntKind.u64 W (addOpt a (7 : Nat))) (Bd.w (0 : Int) (18446744073709551615 : Int) (seenInt_bd IntKind.u64 W (addOpt a (Int.toNat (7 : Int)))))))
    ST.nil ST.nil) (ST.node (SV.tup []) ST.nil ST.nil)) (ST.node (SV.c (SC.ptv (addOpt a (Int.toNat (5 : Int))))) (ST.node (SV.tup []) ST.nil ST.nil) ST.nil))) (ST.node (SV.c (SC.ptr
    (46 : Nat) (0 : Nat))) (ST.node (SV.c (SC.int false IntKind.i64 (↑len : Int))) (ST.node (SV.c (SC.int false IntKind.u64 (seenInt IntKind.u64 W (addOpt a (2 : Nat))) (Bd.w (0 : Int)
    (18446744073709551615 : Int) (seenInt_bd IntKind.u64 W (addOpt a (Int.toNat (2 : Int))))))) (ST.node (SV.c (SC.sliv a false len cap)) ST.nil ST.nil) (ST.node (SV.tup []) ST.nil
    ST.nil)) (ST.node (SV.c (SC.int false IntKind.i64 (smF (seenInt IntKind.u64 W (addOpt a (4 : Nat)))) Bd.any)) (ST.node (SV.tup []) ST.nil ST.nil) ST.nil)) (ST.node (SV.c (SC.ptv
    (addOpt a (Int.toNat (1 : Int))))) (ST.node (SV.c (SC.int false IntKind.u64 (seenInt IntKind.u64 W (addOpt a (3 : Nat))) (Bd.w (0 : Int) (18446744073709551615 : Int) (seenInt_bd
    IntKind.u64 W (addOpt a (Int.toNat (3 : Int))))))) (ST.node (SV.agg [SC.int false IntKind.u64 (seenInt IntKind.u64 W (addOpt a (1 : Nat))) (Bd.w (0 : Int) (18446744073709551615 :
    Int) (seenInt_bd IntKind.u64 W (addOpt a (Int.toNat (1 : Int))))), SC.int false IntKind.i64 (smF (seenInt IntKind.u64 W (addOpt a (2 : Nat)))) Bd.any, SC.int false IntKind.u64
    (seenInt IntKind.u64 W (addOpt a (3 : Nat))) (Bd.w (0 : Int) (18446744073709551615 : Int) (seenInt_bd IntKind.u64 W (addOpt a (Int.toNat (3 : Int))))), SC.int false IntKind.i64 (smF
    (seenInt IntKind.u64 W (addOpt a (4 : Nat)))) Bd.any, SC.int false IntKind.i64 (smF (seenInt IntKind.u64 W (addOpt a (5 : Nat)))) Bd.any, SC.int false IntKind.u64 (seenInt
    IntKind.u64 W (addOpt a (6 : Nat))) (Bd.w (0 : Int) (18446744073709551615 : Int) (seenInt_bd IntKind.u64 W (addOpt a (Int.toNat (6 : Int))))), SC.int false IntKind.i64 (smF (seenInt
    IntKind.u64 W (addOpt a (7 : Nat)))) Bd.any]) ST.nil ST.nil) ST.nil) (ST.node (SV.c (SC.int false IntKind.i64 (smF (seenInt IntKind.u64 W (addOpt a (5 : Nat)))) Bd.any)) (ST.node
    (SV.tup []) ST.nil ST.nil) ST.nil)))) (ST.node (SV.c (SC.int true IntKind.u64 (0 : Int))) (ST.node (SV.c (SC.boo true false)) (ST.node (SV.c (SC.sliv a false len cap)) (ST.node
    (SV.c (SC.ptv (addOpt a (Int.toNat (2 : Int))))) (ST.node (SV.c (SC.int false IntKind.u64 (seenInt IntKind.u64 W (addOpt a (6 : Nat))) (Bd.w (0 : Int) (18446744073709551615 : Int)
    (seenInt_bd IntKind.u64 W (addOpt a (Int.toNat (6 : Int))))))) ST.nil ST.nil) (ST.node (SV.tup []) ST.nil ST.nil)) (ST.node (SV.c (SC.int false IntKind.u64 (seenInt IntKind.u64 W
    (addOpt a (4 : Nat))) (Bd.w (0 : Int) (18446744073709551615 : Int) (seenInt_bd IntKind.u64 W (addOpt a (Int.toNat (4 : Int))))))) (ST.node (SV.tup []) ST.nil ST.nil) ST.nil))
    (ST.node (SV.c (SC.sliv a false len cap)) (ST.node (SV.c (SC.ptv (addOpt a (Int.toNat (3 : Int))))) (ST.node (SV.c (SC.int false IntKind.i64 (smF (seenInt IntKind.u64 W (addOpt a (7
    : Nat)))) Bd.any)) ST.nil ST.nil) (ST.node (SV.tup []) ST.nil ST.nil)) (ST.node (SV.c (SC.int false IntKind.u64 (seenInt IntKind.u64 W (addOpt a (5 : Nat))) (Bd.w (0 : Int)
    (18446744073709551615 : Int) (seenInt_bd IntKind.u64 W (addOpt a (Int.toNat (5 : Int))))))) (ST.node (SV.tup []) ST.nil ST.nil) ST.nil))) (ST.node (SV.tup []) (ST.node (SV.c (SC.boo
    true false)) (ST.node (SV.c (SC.int false IntKind.i64 (smF (seenInt IntKind.u64 W (addOpt a (2 : Nat)))) Bd.any)) (ST.node (SV.c (SC.ptv (addOpt a (Int.toNat (7 : Int))))) ST.nil
    ST.nil) (ST.node (SV.tup []) ST.nil ST.nil)) (ST.node (SV.c (SC.sliv a false len cap)) (ST.node (SV.tup []) ST.nil ST.nil) ST.nil)) (ST.node (SV.c (SC.int false IntKind.u64 (seenInt
    IntKind.u64 W (addOpt a (1 : Nat))) (Bd.w (0 : Int) (18446744073709551615 : Int) (seenInt_bd IntKind.u64 W (addOpt a (Int.toNat (1 : Int))))))) (ST.node (SV.c (SC.sliv a false len
    cap)) (ST.node (SV.tup []) ST.nil ST.nil) ST.nil) (ST.node (SV.c (SC.sliv a false len cap)) (ST.node (SV.tup []) ST.nil ST.nil) ST.nil))))) []) (Mem.mk [((0 : Nat), SO.seen W), ((15
    : Nat), SO.cells [SC.int true IntKind.u64 (0 : Int), SC.int true IntKind.i64 (0 : Int), SC.int true IntKind.u64 (0 : Int), SC.int true IntKind.i64 (0 : Int), SC.int true IntKind.i64
    (0 : Int), SC.int true IntKind.u64 (0 : Int), SC.int true IntKind.i64 (0 : Int)] (75 : Nat)), ((46 : Nat), SO.cells [SC.int false IntKind.u64 (seenInt IntKind.u64 W (addOpt a (1 :
    Nat))) (Bd.w (0 : Int) (18446744073709551615 : Int) (seenInt_bd IntKind.u64 W (addOpt a (Int.toNat (1 : Int))))), SC.int false IntKind.i64 (smF (seenInt IntKind.u64 W (addOpt a (2 :
    Nat)))) Bd.any, SC.int false IntKind.u64 (seenInt IntKind.u64 W (addOpt a (3 : Nat))) (Bd.w (0 : Int) (18446744073709551615 : Int) (seenInt_bd IntKind.u64 W (addOpt a (Int.toNat (3
    : Int))))), SC.int false IntKind.i64 (smF (seenInt IntKind.u64 W (addOpt a (4 : Nat)))) Bd.any, SC.int false IntKind.i64 (smF (seenInt IntKind.u64 W (addOpt a (5 : Nat)))) Bd.any,
    SC.int false IntKind.u64 (seenInt IntKind.u64 W (addOpt a (6 : Nat))) (Bd.w (0 : Int) (18446744073709551615 : Int) (seenInt_bd IntKind.u64 W (addOpt a (Int.toNat (6 : Int))))),
    SC.int false IntKind.i64 (smF (seenInt IntKind.u64 W (addOpt a (7 : Nat)))) Bd.any] (75 : Nat))] (48 : Nat)) rdB ∧ True) ∧ True) ∧ True) ∧ True) ∧ True) ∧ True) ∧ True) ∧ True) ∧
    True) ∧ True)) := by
  kernel_rfl
theorem headReads_run (W : World) (a : Option Addr) (len cap : Nat) (hc : (0 < len → a.isSome = true) ∧ ∀ j, j < len → Seen .u64 W (addOpt a j)) : Run (callN Try.prog (tblR9 : List (Smry Try.prog XE)) (fun _ _ => false) 100 20 8 [.c (.sliv a false len cap)] ⟨[(0, .seen W)], 1⟩ (.both rdA rdB) (fun v m _ => retSeen W v m)) := by
  constructor
  rw [headReads_vc]
  obtain ⟨hs, hx⟩ := hc
  repeat' first
    | with_reducible apply And.intro
    | with_reducible exact trivial
    | with_reducible assumption
    | with_reducible exact Eq.refl _
    | (intro (K : KO XE); simp only [eq_self, true_and, and_true, forall_const, true_implies, and_imp]; intros; (repeat' first | with_reducible apply And.intro | with_reducible assumption); done)
    | (intro hh; first | with_reducible have hq := of_decide_eq_true hh | with_reducible have hq := of_decide_eq_false hh | with_reducible have hq := beq_eq_false_iff_ne.1 hh | with_reducible have hq := bne_iff_ne.1 hh | with_reducible have hq := bne_eq_false_iff_eq.1 hh | skip)
  all_goals first
    | omega
    | exact seen64_le.1
    | exact seen64_le.2
    | exact hx _ (by omega)
    | exact hs (by omega)
    | exact bne_iff_ne.2 (by omega)
    | exact Int.le_trans (by decide) seen64_le.1
    | (have h1 := ‹headB _ _ (smF _) _ (smF _) (smF _) _ (smF _) = true›; exact (headB_no (by have e := smF_hi (x := seenInt .u64 W (addOpt a 2)) (m := 256) (by omega) (by decide); have e2 := smF_big (x := seenInt .u64 W (addOpt a 2)) (by omega); omega)).symm.trans h1)
    | (have h1 := ‹headB _ _ (smF _) _ (smF _) (smF _) _ (smF _) = true›; exact (headB_no (by have e := smF_hi (x := seenInt .u64 W (addOpt a 4)) (m := 255) (by omega) (by decide); omega)).symm.trans h1)
    | (have h1 := ‹headB _ _ (smF _) _ (smF _) (smF _) _ (smF _) = true›; exact (headB_no (by have e2 := smF_big (x := seenInt .u64 W (addOpt a 5)) (by omega); omega)).symm.trans h1)
    | (have h1 := ‹headB _ _ (smF _) _ (smF _) (smF _) _ (smF _) = true›; exact (headB_no (by have e2 := smF_big (x := seenInt .u64 W (addOpt a 7)) (by omega); omega)).symm.trans h1)
    | (have h1 := ‹entB (smF _) _ _ = true›; exact (entB_no (by have e := smF_hi (x := seenInt .u64 W (addOpt a 0)) (m := 254) (by omega) (by decide); omega)).symm.trans h1)
    | (have h1 := ‹headB _ _ (smF _) _ (smF _) (smF _) _ (smF _) = true›; rw [smF_in' (x := seenInt .u64 W (addOpt a 2)) (by omega), smF_in' (x := seenInt .u64 W (addOpt a 4)) (by omega), smF_in' (x := seenInt .u64 W (addOpt a 5)) (by omega), smF_in' (x := seenInt .u64 W (addOpt a 7)) (by omega)] at h1; have h2 := ‹headB _ _ (seenInt _ _ _) _ _ _ _ _ = false›; exact h2.symm.trans h1)
    | (have h1 := ‹headB _ _ (smF _) _ (smF _) (smF _) _ (smF _) = false›; rw [smF_in' (x := seenInt .u64 W (addOpt a 2)) (by omega), smF_in' (x := seenInt .u64 W (addOpt a 4)) (by omega), smF_in' (x := seenInt .u64 W (addOpt a 5)) (by omega), smF_in' (x := seenInt .u64 W (addOpt a 7)) (by omega)] at h1; have h2 := ‹headB _ _ (seenInt _ _ _) _ _ _ _ _ = true›; exact h1.symm.trans h2)
    | (have h1 := ‹entB (smF _) _ _ = true›; rw [smF_in' (x := seenInt .u64 W (addOpt a 0)) (by omega)] at h1; have h2 := ‹entB (seenInt _ _ _) _ _ = false›; exact h2.symm.trans h1)
    | (have h1 := ‹entB (smF _) _ _ = false›; rw [smF_in' (x := seenInt .u64 W (addOpt a 0)) (by omega)] at h1; have h2 := ‹entB (seenInt _ _ _) _ _ = true›; exact h1.symm.trans h2)
    | (have e1 := smF_in' (x := seenInt .u64 W (addOpt a 2)) (by omega); have e2 := smF_in' (x := seenInt .u64 W (addOpt a 4)) (by omega); have e3 := smF_in' (x := seenInt .u64 W (addOpt a 5)) (by omega); have e4 := smF_in' (x := seenInt .u64 W (addOpt a 7)) (by omega); simp_all; done)
    | (have e1 := smF_in' (x := seenInt .u64 W (addOpt a 0)) (by omega); simp_all; done)
    | skip
end Go.Proofs.Ytcmoffcaiepgbaa
