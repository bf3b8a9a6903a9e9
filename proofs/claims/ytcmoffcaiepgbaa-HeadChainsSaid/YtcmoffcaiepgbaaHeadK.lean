/- A head's words and an entry's words, read where all of them are known one by one. -/
import Derived.Test.YtcmoffcaiepgbaaBaseF
import Derived.Test.YtcmoffcaiepgbaaBaseC
set_option linter.all false
namespace Go.Proofs.Ytcmoffcaiepgbaa
open Go Go.RowKit
set_option maxRecDepth 1000000
set_option maxHeartbeats 0
def rdB8 (a b c d e f g h : Int) : Bool := headB a b (smF c) d (smF e) (smF f) g (smF h)
def rdRes (a b c d e f g h : Int) : SV := .tup [(false, [.int false .u64 (if rdB8 a b c d e f g h = true then a else 0)]),
  (true, [.int false .u64 (if rdB8 a b c d e f g h = true then b else 0), .int false .i64 (if rdB8 a b c d e f g h = true then smF c else 0), .int false .u64 (if rdB8 a b c d e f g h = true then d else 0), .int false .i64 (if rdB8 a b c d e f g h = true then smF e else 0), .int false .i64 (if rdB8 a b c d e f g h = true then smF f else 0), .int false .u64 (if rdB8 a b c d e f g h = true then g else 0), .int false .i64 (if rdB8 a b c d e f g h = true then smF h else 0)]),
  (false, [.boo false (rdB8 a b c d e f g h)])]
def row8w (a b c d e f g h : Int) : List SC := [.int false .u64 a, .int false .u64 b, .int false .u64 c, .int false .u64 d, .int false .u64 e, .int false .u64 f, .int false .u64 g, .int false .u64 h]
def tblK : List (Smry Try.prog XE) := [hwordsS, hsmallS]
/-- What the executor leaves to be shown of roundelay/head.Read, written out. -/
theorem read8_vc (a b c d e f g h : Int) : (callN Try.prog (tblK : List (Smry Try.prog XE)) (fun _ _ => false) 100 20 40 [.c (.sli 0 1 true 0 true 8 8)] ⟨[(0, .cells (row8w a b c d e f g h) 25)], 100⟩ (.nil) (fun v m _ => outM (rdRes a b c d e f g h) [(0, .cells (row8w a b c d e f g h) 25)] v m)) = (
    (((0 : Int) ≤ c ∧ c ≤ (18446744073709551615 : Int)) ∧ (∀ (z : Un), True → a = a ∧ b = b ∧ c = c ∧ d = d ∧ e = e ∧ f = f ∧ g = g ∧ h = h ∧ (((0 : Int) ≤ e ∧ e ≤ (18446744073709551615
    : Int)) ∧ (∀ (z : Un), True → a = a ∧ b = b ∧ c = c ∧ d = d ∧ e = e ∧ f = f ∧ g = g ∧ h = h ∧ (((0 : Int) ≤ f ∧ f ≤ (18446744073709551615 : Int)) ∧ (∀ (z : Un), True → a = a ∧ b = b
    ∧ c = c ∧ d = d ∧ e = e ∧ f = f ∧ g = g ∧ h = h ∧ (((0 : Int) ≤ h ∧ h ≤ (18446744073709551615 : Int)) ∧ (∀ (z : Un), True → a = a ∧ b = b ∧ c = c ∧ d = d ∧ e = e ∧ f = f ∧ g = g ∧ h
    = h ∧ (a = a ∧ b = b ∧ c = c ∧ d = d ∧ e = e ∧ f = f ∧ g = g ∧ h = h ∧ (((((0 : Int) ≤ a ∧ a ≤ (18446744073709551615 : Int)) ∧ ((0 : Int) ≤ b ∧ b ≤ (18446744073709551615 : Int)) ∧
    ((0 : Int) ≤ d ∧ d ≤ (18446744073709551615 : Int)) ∧ (0 : Int) ≤ g ∧ g ≤ (18446744073709551615 : Int)) ∧ (∀ (z : Un), headB a b (smF c) d (smF e) (smF f) g (smF h) = false → (if
    rdB8 a b c d e f g h = true then a else (0 : Int)) = (0 : Int) ∧ (if rdB8 a b c d e f g h = true then b else (0 : Int)) = (0 : Int) ∧ (if rdB8 a b c d e f g h = true then smF c else
    (0 : Int)) = (0 : Int) ∧ (if rdB8 a b c d e f g h = true then d else (0 : Int)) = (0 : Int) ∧ (if rdB8 a b c d e f g h = true then smF e else (0 : Int)) = (0 : Int) ∧ (if rdB8 a b c
    d e f g h = true then smF f else (0 : Int)) = (0 : Int) ∧ (if rdB8 a b c d e f g h = true then g else (0 : Int)) = (0 : Int) ∧ (if rdB8 a b c d e f g h = true then smF h else (0 :
    Int)) = (0 : Int) ∧ rdB8 a b c d e f g h = false ∧ (a = a ∧ b = b ∧ c = c ∧ d = d ∧ e = e ∧ f = f ∧ g = g ∧ h = h ∧ True) ∧ True) ∧ (∀ (z : Un), headB a b (smF c) d (smF e) (smF f)
    g (smF h) = true → ((if rdB8 a b c d e f g h = true then a else (0 : Int)) = a ∧ (if rdB8 a b c d e f g h = true then b else (0 : Int)) = b ∧ (if rdB8 a b c d e f g h = true then
    smF c else (0 : Int)) = smF c ∧ (if rdB8 a b c d e f g h = true then d else (0 : Int)) = d ∧ (if rdB8 a b c d e f g h = true then smF e else (0 : Int)) = smF e ∧ (if rdB8 a b c d e
    f g h = true then smF f else (0 : Int)) = smF f ∧ (if rdB8 a b c d e f g h = true then g else (0 : Int)) = g ∧ (if rdB8 a b c d e f g h = true then smF h else (0 : Int)) = smF h ∧
    rdB8 a b c d e f g h = true ∧ (a = a ∧ b = b ∧ c = c ∧ d = d ∧ e = e ∧ f = f ∧ g = g ∧ h = h ∧ True) ∧ True) ∧ True) ∧ True) ∧ True) ∧ True) ∧ True) ∧ True) ∧ (∀ (K : KO XE), ((0 :
    Int) ≤ h ∧ h ≤ (18446744073709551615 : Int)) ∧ (∀ (z : Un), True → a = a ∧ b = b ∧ c = c ∧ d = d ∧ e = e ∧ f = f ∧ g = g ∧ h = h ∧ (a = a ∧ b = b ∧ c = c ∧ d = d ∧ e = e ∧ f = f ∧ g
    = g ∧ h = h ∧ K (SF.mk (53 : Nat) (ST.node (SV.c (SC.sli (0 : Nat) (1 : Nat) true (0 : Nat) true (8 : Nat) (8 : Nat))) (ST.node (SV.tup []) (ST.node (SV.c (SC.ptr (101 : Nat) (0 :
    Nat))) (ST.node (SV.tup []) (ST.node (SV.c (SC.sli (0 : Nat) (1 : Nat) true (0 : Nat) true (8 : Nat) (8 : Nat))) (ST.node (SV.c (SC.ptr (0 : Nat) (6 : Nat))) ST.nil ST.nil) (ST.node
    (SV.tup []) ST.nil ST.nil)) (ST.node (SV.c (SC.ptr (0 : Nat) (4 : Nat))) (ST.node (SV.tup []) ST.nil ST.nil) ST.nil)) (ST.node (SV.tup []) (ST.node (SV.c (SC.sli (0 : Nat) (1 : Nat)
    true (0 : Nat) true (8 : Nat) (8 : Nat))) (ST.node (SV.c (SC.int false IntKind.u64 h)) ST.nil ST.nil) (ST.node (SV.tup []) ST.nil ST.nil)) (ST.node (SV.c (SC.ptr (0 : Nat) (5 :
    Nat))) (ST.node (SV.tup []) ST.nil ST.nil) ST.nil))) (ST.node (SV.c (SC.ptr (132 : Nat) (0 : Nat))) (ST.node (SV.c (SC.int true IntKind.i64 (8 : Int) Bd.any)) (ST.node (SV.c (SC.int
    false IntKind.u64 c)) (ST.node (SV.c (SC.sli (0 : Nat) (1 : Nat) true (0 : Nat) true (8 : Nat) (8 : Nat))) ST.nil ST.nil) (ST.node (SV.tup []) ST.nil ST.nil)) (ST.node (SV.c (SC.int
    false IntKind.i64 (smF e))) (ST.node (SV.tup []) ST.nil ST.nil) ST.nil)) (ST.node (SV.c (SC.ptr (0 : Nat) (1 : Nat))) (ST.node (SV.c (SC.int false IntKind.u64 d)) (ST.node (SV.agg
    [SC.int false IntKind.u64 b, SC.int false IntKind.i64 (smF c), SC.int false IntKind.u64 d, SC.int false IntKind.i64 (smF e), SC.int false IntKind.i64 (smF f), SC.int false
    IntKind.u64 g, SC.int false IntKind.i64 (smF h)]) ST.nil ST.nil) ST.nil) (ST.node (SV.c (SC.int false IntKind.i64 (smF f))) (ST.node (SV.tup []) ST.nil ST.nil) ST.nil)))) (ST.node
    (SV.c (SC.int true IntKind.u64 (0 : Int))) (ST.node (SV.c (SC.boo true false)) (ST.node (SV.c (SC.sli (0 : Nat) (1 : Nat) true (0 : Nat) true (8 : Nat) (8 : Nat))) (ST.node (SV.c
    (SC.ptr (0 : Nat) (2 : Nat))) (ST.node (SV.c (SC.int false IntKind.u64 g)) ST.nil ST.nil) (ST.node (SV.tup []) ST.nil ST.nil)) (ST.node (SV.c (SC.int false IntKind.u64 e)) (ST.node
    (SV.tup []) ST.nil ST.nil) ST.nil)) (ST.node (SV.c (SC.sli (0 : Nat) (1 : Nat) true (0 : Nat) true (8 : Nat) (8 : Nat))) (ST.node (SV.c (SC.ptr (0 : Nat) (3 : Nat))) (ST.node (SV.c
    (SC.int false IntKind.i64 (smF h))) ST.nil ST.nil) (ST.node (SV.tup []) ST.nil ST.nil)) (ST.node (SV.c (SC.int false IntKind.u64 f)) (ST.node (SV.tup []) ST.nil ST.nil) ST.nil)))
    (ST.node (SV.tup []) (ST.node (SV.c (SC.boo true false)) (ST.node (SV.c (SC.int false IntKind.i64 (smF c))) (ST.node (SV.c (SC.ptr (0 : Nat) (7 : Nat))) ST.nil ST.nil) (ST.node
    (SV.tup []) ST.nil ST.nil)) (ST.node (SV.c (SC.sli (0 : Nat) (1 : Nat) true (0 : Nat) true (8 : Nat) (8 : Nat))) (ST.node (SV.tup []) ST.nil ST.nil) ST.nil)) (ST.node (SV.c (SC.int
    false IntKind.u64 b)) (ST.node (SV.c (SC.sli (0 : Nat) (1 : Nat) true (0 : Nat) true (8 : Nat) (8 : Nat))) (ST.node (SV.tup []) ST.nil ST.nil) ST.nil) (ST.node (SV.c (SC.sli (0 :
    Nat) (1 : Nat) true (0 : Nat) true (8 : Nat) (8 : Nat))) (ST.node (SV.tup []) ST.nil ST.nil) ST.nil))))) []) (Mem.mk [((0 : Nat), SO.cells [SC.int false IntKind.u64 a, SC.int false
    IntKind.u64 b, SC.int false IntKind.u64 c, SC.int false IntKind.u64 d, SC.int false IntKind.u64 e, SC.int false IntKind.u64 f, SC.int false IntKind.u64 g, SC.int false IntKind.u64
    h] (OfNat.ofNat (25 : Nat))), ((101 : Nat), SO.cells [SC.int true IntKind.u64 (0 : Int), SC.int true IntKind.i64 (0 : Int), SC.int true IntKind.u64 (0 : Int), SC.int true
    IntKind.i64 (0 : Int), SC.int true IntKind.i64 (0 : Int), SC.int true IntKind.u64 (0 : Int), SC.int true IntKind.i64 (0 : Int)] (75 : Nat)), ((132 : Nat), SO.cells [SC.int false
    IntKind.u64 b, SC.int false IntKind.i64 (smF c), SC.int false IntKind.u64 d, SC.int false IntKind.i64 (smF e), SC.int false IntKind.i64 (smF f), SC.int false IntKind.u64 g, SC.int
    false IntKind.i64 (smF h)] (75 : Nat))] (134 : Nat)) Scr.nil ∧ True) ∧ True) ∧ True → a = a ∧ b = b ∧ c = c ∧ d = d ∧ e = e ∧ f = f ∧ g = g ∧ h = h ∧ (((0 : Int) ≤ h ∧ h ≤
    (18446744073709551615 : Int)) ∧ (∀ (z : Un), True → a = a ∧ b = b ∧ c = c ∧ d = d ∧ e = e ∧ f = f ∧ g = g ∧ h = h ∧ K (SF.mk (53 : Nat) (ST.node (SV.c (SC.sli (0 : Nat) (1 : Nat)
    true (0 : Nat) true (8 : Nat) (8 : Nat))) (ST.node (SV.tup []) (ST.node (SV.c (SC.ptr (101 : Nat) (0 : Nat))) (ST.node (SV.tup []) (ST.node (SV.c (SC.sli (0 : Nat) (1 : Nat) true (0
    : Nat) true (8 : Nat) (8 : Nat))) (ST.node (SV.c (SC.ptr (0 : Nat) (6 : Nat))) ST.nil ST.nil) (ST.node (SV.tup []) ST.nil ST.nil)) (ST.node (SV.c (SC.ptr (0 : Nat) (4 : Nat)))
    (ST.node (SV.tup []) ST.nil ST.nil) ST.nil)) (ST.node (SV.tup []) (ST.node (SV.c (SC.sli (0 : Nat) (1 : Nat) true (0 : Nat) true (8 : Nat) (8 : Nat))) (ST.node (SV.c (SC.int false
    IntKind.u64 h)) ST.nil ST.nil) (ST.node (SV.tup []) ST.nil ST.nil)) (ST.node (SV.c (SC.ptr (0 : Nat) (5 : Nat))) (ST.node (SV.tup []) ST.nil ST.nil) ST.nil))) (ST.node (SV.c (SC.ptr
    (132 : Nat) (0 : Nat))) (ST.node (SV.c (SC.int true IntKind.i64 (8 : Int) Bd.any)) (ST.node (SV.c (SC.int false IntKind.u64 c)) (ST.node (SV.c (SC.sli (0 : Nat) (1 : Nat) true (0 :
    Nat) true (8 : Nat) (8 : Nat))) ST.nil ST.nil) (ST.node (SV.tup []) ST.nil ST.nil)) (ST.node (SV.c (SC.int false IntKind.i64 (smF e))) (ST.node (SV.tup []) ST.nil ST.nil) ST.nil))
    (ST.node (SV.c (SC.ptr (0 : Nat) (1 : Nat))) (ST.node (SV.c (SC.int false IntKind.u64 d)) (ST.node (SV.agg [SC.int false IntKind.u64 b, SC.int false IntKind.i64 (smF c), SC.int
    false IntKind.u64 d, SC.int false IntKind.i64 (smF e), SC.int false IntKind.i64 (smF f), SC.int false IntKind.u64 g, SC.int false IntKind.i64 (smF h)]) ST.nil ST.nil) ST.nil)
    (ST.node (SV.c (SC.int false IntKind.i64 (smF f))) (ST.node (SV.tup []) ST.nil ST.nil) ST.nil)))) (ST.node (SV.c (SC.int true IntKind.u64 (0 : Int))) (ST.node (SV.c (SC.boo true
    false)) (ST.node (SV.c (SC.sli (0 : Nat) (1 : Nat) true (0 : Nat) true (8 : Nat) (8 : Nat))) (ST.node (SV.c (SC.ptr (0 : Nat) (2 : Nat))) (ST.node (SV.c (SC.int false IntKind.u64
    g)) ST.nil ST.nil) (ST.node (SV.tup []) ST.nil ST.nil)) (ST.node (SV.c (SC.int false IntKind.u64 e)) (ST.node (SV.tup []) ST.nil ST.nil) ST.nil)) (ST.node (SV.c (SC.sli (0 : Nat) (1
    : Nat) true (0 : Nat) true (8 : Nat) (8 : Nat))) (ST.node (SV.c (SC.ptr (0 : Nat) (3 : Nat))) (ST.node (SV.c (SC.int false IntKind.i64 (smF h))) ST.nil ST.nil) (ST.node (SV.tup [])
    ST.nil ST.nil)) (ST.node (SV.c (SC.int false IntKind.u64 f)) (ST.node (SV.tup []) ST.nil ST.nil) ST.nil))) (ST.node (SV.tup []) (ST.node (SV.c (SC.boo true false)) (ST.node (SV.c
    (SC.int false IntKind.i64 (smF c))) (ST.node (SV.c (SC.ptr (0 : Nat) (7 : Nat))) ST.nil ST.nil) (ST.node (SV.tup []) ST.nil ST.nil)) (ST.node (SV.c (SC.sli (0 : Nat) (1 : Nat) true
    (0 : Nat) true (8 : Nat) (8 : Nat))) (ST.node (SV.tup []) ST.nil ST.nil) ST.nil)) (ST.node (SV.c (SC.int false IntKind.u64 b)) (ST.node (SV.c (SC.sli (0 : Nat) (1 : Nat) true (0 :
    Nat) true (8 : Nat) (8 : Nat))) (ST.node (SV.tup []) ST.nil ST.nil) ST.nil) (ST.node (SV.c (SC.sli (0 : Nat) (1 : Nat) true (0 : Nat) true (8 : Nat) (8 : Nat))) (ST.node (SV.tup [])
    ST.nil ST.nil) ST.nil))))) []) (Mem.mk [((0 : Nat), SO.cells [SC.int false IntKind.u64 a, SC.int false IntKind.u64 b, SC.int false IntKind.u64 c, SC.int false IntKind.u64 d, SC.int
    false IntKind.u64 e, SC.int false IntKind.u64 f, SC.int false IntKind.u64 g, SC.int false IntKind.u64 h] (OfNat.ofNat (25 : Nat))), ((101 : Nat), SO.cells [SC.int true IntKind.u64
    (0 : Int), SC.int true IntKind.i64 (0 : Int), SC.int true IntKind.u64 (0 : Int), SC.int true IntKind.i64 (0 : Int), SC.int true IntKind.i64 (0 : Int), SC.int true IntKind.u64 (0 :
    Int), SC.int true IntKind.i64 (0 : Int)] (75 : Nat)), ((132 : Nat), SO.cells [SC.int false IntKind.u64 b, SC.int false IntKind.i64 (smF c), SC.int false IntKind.u64 d, SC.int false
    IntKind.i64 (smF e), SC.int false IntKind.i64 (smF f), SC.int false IntKind.u64 g, SC.int false IntKind.i64 (smF h)] (75 : Nat))] (134 : Nat)) Scr.nil ∧ True) ∧ True) ∧ True) ∧
    True) ∧ True) ∧ (∀ (K : KO XE), ((0 : Int) ≤ f ∧ f ≤ (18446744073709551615 : Int)) ∧ (∀ (z : Un), True → a = a ∧ b = b ∧ c = c ∧ d = d ∧ e = e ∧ f = f ∧ g = g ∧ h = h ∧ (((0 : Int)
    ≤ h ∧ h ≤ (18446744073709551615 : Int)) ∧ (∀ (z : Un), True → a = a ∧ b = b ∧ c = c ∧ d = d ∧ e = e ∧ f = f ∧ g = g ∧ h = h ∧ (a = a ∧ b = b ∧ c = c ∧ d = d ∧ e = e ∧ f = f ∧ g = g
    ∧ h = h ∧ K (SF.mk (53 : Nat) (ST.node (SV.c (SC.sli (0 : Nat) (1 : Nat) true (0 : Nat) true (8 : Nat) (8 : Nat))) (ST.node (SV.tup []) (ST.node (SV.c (SC.ptr (101 : Nat) (0 :
    Nat))) (ST.node (SV.tup []) (ST.node (SV.c (SC.sli (0 : Nat) (1 : Nat) true (0 : Nat) true (8 : Nat) (8 : Nat))) (ST.node (SV.c (SC.ptr (0 : Nat) (6 : Nat))) ST.nil ST.nil) (ST.node
    (SV.tup []) ST.nil ST.nil)) (ST.node (SV.c (SC.ptr (0 : Nat) (4 : Nat))) (ST.node (SV.tup []) ST.nil ST.nil) ST.nil)) (ST.node (SV.tup []) (ST.node (SV.c (SC.sli (0 : Nat) (1 : Nat)
    true (0 : Nat) true (8 : Nat) (8 : Nat))) (ST.node (SV.c (SC.int false IntKind.u64 h)) ST.nil ST.nil) (ST.node (SV.tup []) ST.nil ST.nil)) (ST.node (SV.c (SC.ptr (0 : Nat) (5 :
    Nat))) (ST.node (SV.tup []) ST.nil ST.nil) ST.nil))) (ST.node (SV.c (SC.ptr (132 : Nat) (0 : Nat))) (ST.node (SV.c (SC.int true IntKind.i64 (8 : Int) Bd.any)) (ST.node (SV.c (SC.int
    false IntKind.u64 c)) (ST.node (SV.c (SC.sli (0 : Nat) (1 : Nat) true (0 : Nat) true (8 : Nat) (8 : Nat))) ST.nil ST.nil) (ST.node (SV.tup []) ST.nil ST.nil)) (ST.node (SV.c (SC.int
    false IntKind.i64 (smF e))) (ST.node (SV.tup []) ST.nil ST.nil) ST.nil)) (ST.node (SV.c (SC.ptr (0 : Nat) (1 : Nat))) (ST.node (SV.c (SC.int false IntKind.u64 d)) (ST.node (SV.agg
    [SC.int false IntKind.u64 b, SC.int false IntKind.i64 (smF c), SC.int false IntKind.u64 d, SC.int false IntKind.i64 (smF e), SC.int false IntKind.i64 (smF f), SC.int false
    IntKind.u64 g, SC.int false IntKind.i64 (smF h)]) ST.nil ST.nil) ST.nil) (ST.node (SV.c (SC.int false IntKind.i64 (smF f))) (ST.node (SV.tup []) ST.nil ST.nil) ST.nil)))) (ST.node
    (SV.c (SC.int true IntKind.u64 (0 : Int))) (ST.node (SV.c (SC.boo true false)) (ST.node (SV.c (SC.sli (0 : Nat) (1 : Nat) true (0 : Nat) true (8 : Nat) (8 : Nat))) (ST.node (SV.c
    (SC.ptr (0 : Nat) (2 : Nat))) (ST.node (SV.c (SC.int false IntKind.u64 g)) ST.nil ST.nil) (ST.node (SV.tup []) ST.nil ST.nil)) (ST.node (SV.c (SC.int false IntKind.u64 e)) (ST.node
    (SV.tup []) ST.nil ST.nil) ST.nil)) (ST.node (SV.c (SC.sli (0 : Nat) (1 : Nat) true (0 : Nat) true (8 : Nat) (8 : Nat))) (ST.node (SV.c (SC.ptr (0 : Nat) (3 : Nat))) (ST.node (SV.c
    (SC.int false IntKind.i64 (smF h))) ST.nil ST.nil) (ST.node (SV.tup []) ST.nil ST.nil)) (ST.node (SV.c (SC.int false IntKind.u64 f)) (ST.node (SV.tup []) ST.nil ST.nil) ST.nil)))
    (ST.node (SV.tup []) (ST.node (SV.c (SC.boo true false)) (ST.node (SV.c (SC.int false IntKind.i64 (smF c))) (ST.node (SV.c (SC.ptr (0 : Nat) (7 : Nat))) ST.nil ST.nil) (ST.node
    (SV.tup []) ST.nil ST.nil)) (ST.node (SV.c (SC.sli (0 : Nat) (1 : Nat) true (0 : Nat) true (8 : Nat) (8 : Nat))) (ST.node (SV.tup []) ST.nil ST.nil) ST.nil)) (ST.node (SV.c (SC.int
    false IntKind.u64 b)) (ST.node (SV.c (SC.sli (0 : Nat) (1 : Nat) true (0 : Nat) true (8 : Nat) (8 : Nat))) (ST.node (SV.tup []) ST.nil ST.nil) ST.nil) (ST.node (SV.c (SC.sli (0 :
    Nat) (1 : Nat) true (0 : Nat) true (8 : Nat) (8 : Nat))) (ST.node (SV.tup []) ST.nil ST.nil) ST.nil))))) []) (Mem.mk [((0 : Nat), SO.cells [SC.int false IntKind.u64 a, SC.int false
    IntKind.u64 b, SC.int false IntKind.u64 c, SC.int false IntKind.u64 d, SC.int false IntKind.u64 e, SC.int false IntKind.u64 f, SC.int false IntKind.u64 g, SC.int false IntKind.u64
    h] (OfNat.ofNat (25 : Nat))), ((101 : Nat), SO.cells [SC.int true IntKind.u64 (0 : Int), SC.int true IntKind.i64 (0 : Int), SC.int true IntKind.u64 (0 : Int), SC.int true
    IntKind.i64 (0 : Int), SC.int true IntKind.i64 (0 : Int), SC.int true IntKind.u64 (0 : Int), SC.int true IntKind.i64 (0 : Int)] (75 : Nat)), ((132 : Nat), SO.cells [SC.int false
    IntKind.u64 b, SC.int false IntKind.i64 (smF c), SC.int false IntKind.u64 d, SC.int false IntKind.i64 (smF e), SC.int false IntKind.i64 (smF f), SC.int false IntKind.u64 g, SC.int
    false IntKind.i64 (smF h)] (75 : Nat))] (134 : Nat)) Scr.nil ∧ True) ∧ True) ∧ True) ∧ (∀ (K : KO XE), ((0 : Int) ≤ h ∧ h ≤ (18446744073709551615 : Int)) ∧ (∀ (z : Un), True → a = a
    ∧ b = b ∧ c = c ∧ d = d ∧ e = e ∧ f = f ∧ g = g ∧ h = h ∧ (a = a ∧ b = b ∧ c = c ∧ d = d ∧ e = e ∧ f = f ∧ g = g ∧ h = h ∧ K (SF.mk (53 : Nat) (ST.node (SV.c (SC.sli (0 : Nat) (1 :
    Nat) true (0 : Nat) true (8 : Nat) (8 : Nat))) (ST.node (SV.tup []) (ST.node (SV.c (SC.ptr (101 : Nat) (0 : Nat))) (ST.node (SV.tup []) (ST.node (SV.c (SC.sli (0 : Nat) (1 : Nat)
    true (0 : Nat) true (8 : Nat) (8 : Nat))) (ST.node (SV.c (SC.ptr (0 : Nat) (6 : Nat))) ST.nil ST.nil) (ST.node (SV.tup []) ST.nil ST.nil)) (ST.node (SV.c (SC.ptr (0 : Nat) (4 :
    Nat))) (ST.node (SV.tup []) ST.nil ST.nil) ST.nil)) (ST.node (SV.tup []) (ST.node (SV.c (SC.sli (0 : Nat) (1 : Nat) true (0 : Nat) true (8 : Nat) (8 : Nat))) (ST.node (SV.c (SC.int
    false IntKind.u64 h)) ST.nil ST.nil) (ST.node (SV.tup []) ST.nil ST.nil)) (ST.node (SV.c (SC.ptr (0 : Nat) (5 : Nat))) (ST.node (SV.tup []) ST.nil ST.nil) ST.nil))) (ST.node (SV.c
    (SC.ptr (132 : Nat) (0 : Nat))) (ST.node (SV.c (SC.int true IntKind.i64 (8 : Int) Bd.any)) (ST.node (SV.c (SC.int false IntKind.u64 c)) (ST.node (SV.c (SC.sli (0 : Nat) (1 : Nat)
    true (0 : Nat) true (8 : Nat) (8 : Nat))) ST.nil ST.nil) (ST.node (SV.tup []) ST.nil ST.nil)) (ST.node (SV.c (SC.int false IntKind.i64 (smF e))) (ST.node (SV.tup []) ST.nil ST.nil)
    ST.nil)) (ST.node (SV.c (SC.ptr (0 : Nat) (1 : Nat))) (ST.node (SV.c (SC.int false IntKind.u64 d)) (ST.node (SV.agg [SC.int false IntKind.u64 b, SC.int false IntKind.i64 (smF c),
    SC.int false IntKind.u64 d, SC.int false IntKind.i64 (smF e), SC.int false IntKind.i64 (smF f), SC.int false IntKind.u64 g, SC.int false IntKind.i64 (smF h)]) ST.nil ST.nil) ST.nil)
    (ST.node (SV.c (SC.int false IntKind.i64 (smF f))) (ST.node (SV.tup []) ST.nil ST.nil) ST.nil)))) (ST.node (SV.c (SC.int true IntKind.u64 (0 : Int))) (ST.node (SV.c (SC.boo true
    false)) (ST.node (SV.c (SC.sli (0 : Nat) (1 : Nat) true (0 : Nat) true (8 : Nat) (8 : Nat))) (ST.node (SV.c (SC.ptr (0 : Nat) (2 : Nat))) (ST.node (SV.c (SC.int false IntKind.u64
    g)) ST.nil ST.nil) (ST.node (SV.tup []) ST.nil ST.nil)) (ST.node (SV.c (SC.int false IntKind.u64 e)) (ST.node (SV.tup []) ST.nil ST.nil) ST.nil)) (ST.node (SV.c (SC.sli (0 : Nat) (1
    : Nat) true (0 : Nat) true (8 : Nat) (8 : Nat))) (ST.node (SV.c (SC.ptr (0 : Nat) (3 : Nat))) (ST.node (SV.c (SC.int false IntKind.i64 (smF h))) ST.nil ST.nil) (ST.node (SV.tup [])
    ST.nil ST.nil)) (ST.node (SV.c (SC.int false IntKind.u64 f)) (ST.node (SV.tup []) ST.nil ST.nil) ST.nil))) (ST.node (SV.tup []) (ST.node (SV.c (SC.boo true false)) (ST.node (SV.c
    (SC.int false IntKind.i64 (smF c))) (ST.node (SV.c (SC.ptr (0 : Nat) (7 : Nat))) ST.nil ST.nil) (ST.node (SV.tup []) ST.nil ST.nil)) (ST.node (SV.c (SC.sli (0 : Nat) (1 : Nat) true
    (0 : Nat) true (8 : Nat) (8 : Nat))) (ST.node (SV.tup []) ST.nil ST.nil) ST.nil)) (ST.node (SV.c (SC.int false IntKind.u64 b)) (ST.node (SV.c (SC.sli (0 : Nat) (1 : Nat) true (0 :
    Nat) true (8 : Nat) (8 : Nat))) (ST.node (SV.tup []) ST.nil ST.nil) ST.nil) (ST.node (SV.c (SC.sli (0 : Nat) (1 : Nat) true (0 : Nat) true (8 : Nat) (8 : Nat))) (ST.node (SV.tup [])
    ST.nil ST.nil) ST.nil))))) []) (Mem.mk [((0 : Nat), SO.cells [SC.int false IntKind.u64 a, SC.int false IntKind.u64 b, SC.int false IntKind.u64 c, SC.int false IntKind.u64 d, SC.int
    false IntKind.u64 e, SC.int false IntKind.u64 f, SC.int false IntKind.u64 g, SC.int false IntKind.u64 h] (OfNat.ofNat (25 : Nat))), ((101 : Nat), SO.cells [SC.int true IntKind.u64
    (0 : Int), SC.int true IntKind.i64 (0 : Int), SC.int true IntKind.u64 (0 : Int), SC.int true IntKind.i64 (0 : Int), SC.int true IntKind.i64 (0 : Int), SC.int true IntKind.u64 (0 :
    Int), SC.int true IntKind.i64 (0 : Int)] (75 : Nat)), ((132 : Nat), SO.cells [SC.int false IntKind.u64 b, SC.int false IntKind.i64 (smF c), SC.int false IntKind.u64 d, SC.int false
    IntKind.i64 (smF e), SC.int false IntKind.i64 (smF f), SC.int false IntKind.u64 g, SC.int false IntKind.i64 (smF h)] (75 : Nat))] (134 : Nat)) Scr.nil ∧ True) ∧ True) ∧ True → a = a
    ∧ b = b ∧ c = c ∧ d = d ∧ e = e ∧ f = f ∧ g = g ∧ h = h ∧ (((0 : Int) ≤ h ∧ h ≤ (18446744073709551615 : Int)) ∧ (∀ (z : Un), True → a = a ∧ b = b ∧ c = c ∧ d = d ∧ e = e ∧ f = f ∧ g
    = g ∧ h = h ∧ K (SF.mk (53 : Nat) (ST.node (SV.c (SC.sli (0 : Nat) (1 : Nat) true (0 : Nat) true (8 : Nat) (8 : Nat))) (ST.node (SV.tup []) (ST.node (SV.c (SC.ptr (101 : Nat) (0 :
    Nat))) (ST.node (SV.tup []) (ST.node (SV.c (SC.sli (0 : Nat) (1 : Nat) true (0 : Nat) true (8 : Nat) (8 : Nat))) (ST.node (SV.c (SC.ptr (0 : Nat) (6 : Nat))) ST.nil ST.nil) (ST.node
    (SV.tup []) ST.nil ST.nil)) (ST.node (SV.c (SC.ptr (0 : Nat) (4 : Nat))) (ST.node (SV.tup []) ST.nil ST.nil) ST.nil)) (ST.node (SV.tup []) (ST.node (SV.c (SC.sli (0 : Nat) (1 : Nat)
    true (0 : Nat) true (8 : Nat) (8 : Nat))) (ST.node (SV.c (SC.int false IntKind.u64 h)) ST.nil ST.nil) (ST.node (SV.tup []) ST.nil ST.nil)) (ST.node (SV.c (SC.ptr (0 : Nat) (5 :
    Nat))) (ST.node (SV.tup []) ST.nil ST.nil) ST.nil))) (ST.node (SV.c (SC.ptr (132 : Nat) (0 : Nat))) (ST.node (SV.c (SC.int true IntKind.i64 (8 : Int) Bd.any)) (ST.node (SV.c (SC.int
    false IntKind.u64 c)) (ST.node (SV.c (SC.sli (0 : Nat) (1 : Nat) true (0 : Nat) true (8 : Nat) (8 : Nat))) ST.nil ST.nil) (ST.node (SV.tup []) ST.nil ST.nil)) (ST.node (SV.c (SC.int
    false IntKind.i64 (smF e))) (ST.node (SV.tup []) ST.nil ST.nil) ST.nil)) (ST.node (SV.c (SC.ptr (0 : Nat) (1 : Nat))) (ST.node (SV.c (SC.int false IntKind.u64 d)) (ST.node (SV.agg
    [SC.int false IntKind.u64 b, SC.int false IntKind.i64 (smF c), SC.int false IntKind.u64 d, SC.int false IntKind.i64 (smF e), SC.int false IntKind.i64 (smF f), SC.int false
    IntKind.u64 g, SC.int false IntKind.i64 (smF h)]) ST.nil ST.nil) ST.nil) (ST.node (SV.c (SC.int false IntKind.i64 (smF f))) (ST.node (SV.tup []) ST.nil ST.nil) ST.nil)))) (ST.node
    (SV.c (SC.int true IntKind.u64 (0 : Int))) (ST.node (SV.c (SC.boo true false)) (ST.node (SV.c (SC.sli (0 : Nat) (1 : Nat) true (0 : Nat) true (8 : Nat) (8 : Nat))) (ST.node (SV.c
    (SC.ptr (0 : Nat) (2 : Nat))) (ST.node (SV.c (SC.int false IntKind.u64 g)) ST.nil ST.nil) (ST.node (SV.tup []) ST.nil ST.nil)) (ST.node (SV.c (SC.int false IntKind.u64 e)) (ST.node
    (SV.tup []) ST.nil ST.nil) ST.nil)) (ST.node (SV.c (SC.sli (0 : Nat) (1 : Nat) true (0 : Nat) true (8 : Nat) (8 : Nat))) (ST.node (SV.c (SC.ptr (0 : Nat) (3 : Nat))) (ST.node (SV.c
    (SC.int false IntKind.i64 (smF h))) ST.nil ST.nil) (ST.node (SV.tup []) ST.nil ST.nil)) (ST.node (SV.c (SC.int false IntKind.u64 f)) (ST.node (SV.tup []) ST.nil ST.nil) ST.nil)))
    (ST.node (SV.tup []) (ST.node (SV.c (SC.boo true false)) (ST.node (SV.c (SC.int false IntKind.i64 (smF c))) (ST.node (SV.c (SC.ptr (0 : Nat) (7 : Nat))) ST.nil ST.nil) (ST.node
    (SV.tup []) ST.nil ST.nil)) (ST.node (SV.c (SC.sli (0 : Nat) (1 : Nat) true (0 : Nat) true (8 : Nat) (8 : Nat))) (ST.node (SV.tup []) ST.nil ST.nil) ST.nil)) (ST.node (SV.c (SC.int
    false IntKind.u64 b)) (ST.node (SV.c (SC.sli (0 : Nat) (1 : Nat) true (0 : Nat) true (8 : Nat) (8 : Nat))) (ST.node (SV.tup []) ST.nil ST.nil) ST.nil) (ST.node (SV.c (SC.sli (0 :
    Nat) (1 : Nat) true (0 : Nat) true (8 : Nat) (8 : Nat))) (ST.node (SV.tup []) ST.nil ST.nil) ST.nil))))) []) (Mem.mk [((0 : Nat), SO.cells [SC.int false IntKind.u64 a, SC.int false
    IntKind.u64 b, SC.int false IntKind.u64 c, SC.int false IntKind.u64 d, SC.int false IntKind.u64 e, SC.int false IntKind.u64 f, SC.int false IntKind.u64 g, SC.int false IntKind.u64
    h] (OfNat.ofNat (25 : Nat))), ((101 : Nat), SO.cells [SC.int true IntKind.u64 (0 : Int), SC.int true IntKind.i64 (0 : Int), SC.int true IntKind.u64 (0 : Int), SC.int true
    IntKind.i64 (0 : Int), SC.int true IntKind.i64 (0 : Int), SC.int true IntKind.u64 (0 : Int), SC.int true IntKind.i64 (0 : Int)] (75 : Nat)), ((132 : Nat), SO.cells [SC.int false
    IntKind.u64 b, SC.int false IntKind.i64 (smF c), SC.int false IntKind.u64 d, SC.int false IntKind.i64 (smF e), SC.int false IntKind.i64 (smF f), SC.int false IntKind.u64 g, SC.int
    false IntKind.i64 (smF h)] (75 : Nat))] (134 : Nat)) Scr.nil ∧ True) ∧ True) ∧ True) ∧ True) ∧ True → a = a ∧ b = b ∧ c = c ∧ d = d ∧ e = e ∧ f = f ∧ g = g ∧ h = h ∧ (((0 : Int) ≤ f
    ∧ f ≤ (18446744073709551615 : Int)) ∧ (∀ (z : Un), True → a = a ∧ b = b ∧ c = c ∧ d = d ∧ e = e ∧ f = f ∧ g = g ∧ h = h ∧ (((0 : Int) ≤ h ∧ h ≤ (18446744073709551615 : Int)) ∧ (∀ (z
    : Un), True → a = a ∧ b = b ∧ c = c ∧ d = d ∧ e = e ∧ f = f ∧ g = g ∧ h = h ∧ K (SF.mk (53 : Nat) (ST.node (SV.c (SC.sli (0 : Nat) (1 : Nat) true (0 : Nat) true (8 : Nat) (8 :
    Nat))) (ST.node (SV.tup []) (ST.node (SV.c (SC.ptr (101 : Nat) (0 : Nat))) (ST.node (SV.tup []) (ST.node (SV.c (SC.sli (0 : Nat) (1 : Nat) true (0 : Nat) true (8 : Nat) (8 : Nat)))
    (ST.node (SV.c (SC.ptr (0 : Nat) (6 : Nat))) ST.nil ST.nil) (ST.node (SV.tup []) ST.nil ST.nil)) (ST.node (SV.c (SC.ptr (0 : Nat) (4 : Nat))) (ST.node (SV.tup []) ST.nil ST.nil)
    ST.nil)) (ST.node (SV.tup []) (ST.node (SV.c (SC.sli (0 : Nat) (1 : Nat) true (0 : Nat) true (8 : Nat) (8 : Nat))) (ST.node (SV.c (SC.int false IntKind.u64 h)) ST.nil ST.nil)
    (ST.node (SV.tup []) ST.nil ST.nil)) (ST.node (SV.c (SC.ptr (0 : Nat) (5 : Nat))) (ST.node (SV.tup []) ST.nil ST.nil) ST.nil))) (ST.node (SV.c (SC.ptr (132 : Nat) (0 : Nat)))
    (ST.node (SV.c (SC.int true IntKind.i64 (8 : Int) Bd.any)) (ST.node (SV.c (SC.int false IntKind.u64 c)) (ST.node (SV.c (SC.sli (0 : Nat) (1 : Nat) true (0 : Nat) true (8 : Nat) (8 :
    Nat))) ST.nil ST.nil) (ST.node (SV.tup []) ST.nil ST.nil)) (ST.node (SV.c (SC.int false IntKind.i64 (smF e))) (ST.node (SV.tup []) ST.nil ST.nil) ST.nil)) (ST.node (SV.c (SC.ptr (0
    : Nat) (1 : Nat))) (ST.node (SV.c (SC.int false IntKind.u64 d)) (ST.node (SV.agg [SC.int false IntKind.u64 b, SC.int false IntKind.i64 (smF c), SC.int false IntKind.u64 d, SC.int
    false IntKind.i64 (smF e), SC.int false IntKind.i64 (smF f), SC.int false IntKind.u64 g, SC.int false IntKind.i64 (smF h)]) ST.nil ST.nil) ST.nil) (ST.node (SV.c (SC.int false
    IntKind.i64 (smF f))) (ST.node (SV.tup []) ST.nil ST.nil) ST.nil)))) (ST.node (SV.c (SC.int true IntKind.u64 (0 : Int))) (ST.node (SV.c (SC.boo true false)) (ST.node (SV.c (SC.sli
    (0 : Nat) (1 : Nat) true (0 : Nat) true (8 : Nat) (8 : Nat))) (ST.node (SV.c (SC.ptr (0 : Nat) (2 : Nat))) (ST.node (SV.c (SC.int false IntKind.u64 g)) ST.nil ST.nil) (ST.node
    (SV.tup []) ST.nil ST.nil)) (ST.node (SV.c (SC.int false IntKind.u64 e)) (ST.node (SV.tup []) ST.nil ST.nil) ST.nil)) (ST.node (SV.c (SC.sli (0 : Nat) (1 : Nat) true (0 : Nat) true
    (8 : Nat) (8 : Nat))) (ST.node (SV.c (SC.ptr (0 : Nat) (3 : Nat))) (ST.node (SV.c (SC.int false IntKind.i64 (smF h))) ST.nil ST.nil) (ST.node (SV.tup []) ST.nil ST.nil)) (ST.node
    (SV.c (SC.int false IntKind.u64 f)) (ST.node (SV.tup []) ST.nil ST.nil) ST.nil))) (ST.node (SV.tup []) (ST.node (SV.c (SC.boo true false)) (ST.node (SV.c (SC.int false IntKind.i64
    (smF c))) (ST.node (SV.c (SC.ptr (0 : Nat) (7 : Nat))) ST.nil ST.nil) (ST.node (SV.tup []) ST.nil ST.nil)) (ST.node (SV.c (SC.sli (0 : Nat) (1 : Nat) true (0 : Nat) true (8 : Nat)
    (8 : Nat))) (ST.node (SV.tup []) ST.nil ST.nil) ST.nil)) (ST.node (SV.c (SC.int false IntKind.u64 b)) (ST.node (SV.c (SC.sli (0 : Nat) (1 : Nat) true (0 : Nat) true (8 : Nat) (8 :
    Nat))) (ST.node (SV.tup []) ST.nil ST.nil) ST.nil) (ST.node (SV.c (SC.sli (0 : Nat) (1 : Nat) true (0 : Nat) true (8 : Nat) (8 : Nat))) (ST.node (SV.tup []) ST.nil ST.nil)
    ST.nil))))) []) (Mem.mk [((0 : Nat), SO.cells [SC.int false IntKind.u64 a, SC.int false IntKind.u64 b, SC.int false IntKind.u64 c, SC.int false IntKind.u64 d, SC.int false
    IntKind.u64 e, SC.int false IntKind.u64 f, SC.int false IntKind.u64 g, SC.int false IntKind.u64 h] (OfNat.ofNat (25 : Nat))), ((101 : Nat), SO.cells [SC.int true IntKind.u64 (0 :
    Int), SC.int true IntKind.i64 (0 : Int), SC.int true IntKind.u64 (0 : Int), SC.int true IntKind.i64 (0 : Int), SC.int true IntKind.i64 (0 : Int), SC.int true IntKind.u64 (0 : Int),
    SC.int true IntKind.i64 (0 : Int)] (75 : Nat)), ((132 : Nat), SO.cells [SC.int false IntKind.u64 b, SC.int false IntKind.i64 (smF c), SC.int false IntKind.u64 d, SC.int false
    IntKind.i64 (smF e), SC.int false IntKind.i64 (smF f), SC.int false IntKind.u64 g, SC.int false IntKind.i64 (smF h)] (75 : Nat))] (134 : Nat)) Scr.nil ∧ True) ∧ True) ∧ True) ∧
    True) ∧ True) ∧ True) ∧ True) ∧ (∀ (K : KO XE), ((0 : Int) ≤ e ∧ e ≤ (18446744073709551615 : Int)) ∧ (∀ (z : Un), True → a = a ∧ b = b ∧ c = c ∧ d = d ∧ e = e ∧ f = f ∧ g = g ∧ h =
    h ∧ (((0 : Int) ≤ f ∧ f ≤ (18446744073709551615 : Int)) ∧ (∀ (z : Un), True → a = a ∧ b = b ∧ c = c ∧ d = d ∧ e = e ∧ f = f ∧ g = g ∧ h = h ∧ (((0 : Int) ≤ h ∧ h ≤
    (18446744073709551615 : Int)) ∧ (∀ (z : Un), True → a = a ∧ b = b ∧ c = c ∧ d = d ∧ e = e ∧ f = f ∧ g = g ∧ h = h ∧ (a = a ∧ b = b ∧ c = c ∧ d = d ∧ e = e ∧ f = f ∧ g = g ∧ h = h ∧
    K (SF.mk (53 : Nat) (ST.node (SV.c (SC.sli (0 : Nat) (1 : Nat) true (0 : Nat) true (8 : Nat) (8 : Nat))) (ST.node (SV.tup []) (ST.node (SV.c (SC.ptr (101 : Nat) (0 : Nat))) (ST.node
    (SV.tup []) (ST.node (SV.c (SC.sli (0 : Nat) (1 : Nat) true (0 : Nat) true (8 : Nat) (8 : Nat))) (ST.node (SV.c (SC.ptr (0 : Nat) (6 : Nat))) ST.nil ST.nil) (ST.node (SV.tup [])
    ST.nil ST.nil)) (ST.node (SV.c (SC.ptr (0 : Nat) (4 : Nat))) (ST.node (SV.tup []) ST.nil ST.nil) ST.nil)) (ST.node (SV.tup []) (ST.node (SV.c (SC.sli (0 : Nat) (1 : Nat) true (0 :
    Nat) true (8 : Nat) (8 : Nat))) (ST.node (SV.c (SC.int false IntKind.u64 h)) ST.nil ST.nil) (ST.node (SV.tup []) ST.nil ST.nil)) (ST.node (SV.c (SC.ptr (0 : Nat) (5 : Nat)))
    (ST.node (SV.tup []) ST.nil ST.nil) ST.nil))) (ST.node (SV.c (SC.ptr (132 : Nat) (0 : Nat))) (ST.node (SV.c (SC.int true IntKind.i64 (8 : Int) Bd.any)) (ST.node (SV.c (SC.int false
    IntKind.u64 c)) (ST.node (SV.c (SC.sli (0 : Nat) (1 : Nat) true (0 : Nat) true (8 : Nat) (8 : Nat))) ST.nil ST.nil) (ST.node (SV.tup []) ST.nil ST.nil)) (ST.node (SV.c (SC.int false
    IntKind.i64 (smF e))) (ST.node (SV.tup []) ST.nil ST.nil) ST.nil)) (ST.node (SV.c (SC.ptr (0 : Nat) (1 : Nat))) (ST.node (SV.c (SC.int false IntKind.u64 d)) (ST.node (SV.agg [SC.int
    false IntKind.u64 b, SC.int false IntKind.i64 (smF c), SC.int false IntKind.u64 d, SC.int false IntKind.i64 (smF e), SC.int false IntKind.i64 (smF f), SC.int false IntKind.u64 g,
    SC.int false IntKind.i64 (smF h)]) ST.nil ST.nil) ST.nil) (ST.node (SV.c (SC.int false IntKind.i64 (smF f))) (ST.node (SV.tup []) ST.nil ST.nil) ST.nil)))) (ST.node (SV.c (SC.int
    true IntKind.u64 (0 : Int))) (ST.node (SV.c (SC.boo true false)) (ST.node (SV.c (SC.sli (0 : Nat) (1 : Nat) true (0 : Nat) true (8 : Nat) (8 : Nat))) (ST.node (SV.c (SC.ptr (0 :
    Nat) (2 : Nat))) (ST.node (SV.c (SC.int false IntKind.u64 g)) ST.nil ST.nil) (ST.node (SV.tup []) ST.nil ST.nil)) (ST.node (SV.c (SC.int false IntKind.u64 e)) (ST.node (SV.tup [])
    ST.nil ST.nil) ST.nil)) (ST.node (SV.c (SC.sli (0 : Nat) (1 : Nat) true (0 : Nat) true (8 : Nat) (8 : Nat))) (ST.node (SV.c (SC.ptr (0 : Nat) (3 : Nat))) (ST.node (SV.c (SC.int
    false IntKind.i64 (smF h))) ST.nil ST.nil) (ST.node (SV.tup []) ST.nil ST.nil)) (ST.node (SV.c (SC.int false IntKind.u64 f)) (ST.node (SV.tup []) ST.nil ST.nil) ST.nil))) (ST.node
    (SV.tup []) (ST.node (SV.c (SC.boo true false)) (ST.node (SV.c (SC.int false IntKind.i64 (smF c))) (ST.node (SV.c (SC.ptr (0 : Nat) (7 : Nat))) ST.nil ST.nil) (ST.node (SV.tup [])
    ST.nil ST.nil)) (ST.node (SV.c (SC.sli (0 : Nat) (1 : Nat) true (0 : Nat) true (8 : Nat) (8 : Nat))) (ST.node (SV.tup []) ST.nil ST.nil) ST.nil)) (ST.node (SV.c (SC.int false
    IntKind.u64 b)) (ST.node (SV.c (SC.sli (0 : Nat) (1 : Nat) true (0 : Nat) true (8 : Nat) (8 : Nat))) (ST.node (SV.tup []) ST.nil ST.nil) ST.nil) (ST.node (SV.c (SC.sli (0 : Nat) (1
    : Nat) true (0 : Nat) true (8 : Nat) (8 : Nat))) (ST.node (SV.tup []) ST.nil ST.nil) ST.nil))))) []) (Mem.mk [((0 : Nat), SO.cells [SC.int false IntKind.u64 a, SC.int false
    IntKind.u64 b, SC.int false IntKind.u64 c, SC.int false IntKind.u64 d, SC.int false IntKind.u64 e, SC.int false IntKind.u64 f, SC.int false IntKind.u64 g, SC.int false IntKind.u64
    h] (OfNat.ofNat (25 : Nat))), ((101 : Nat), SO.cells [SC.int true IntKind.u64 (0 : Int), SC.int true IntKind.i64 (0 : Int), SC.int true IntKind.u64 (0 : Int), SC.int true
    IntKind.i64 (0 : Int), SC.int true IntKind.i64 (0 : Int), SC.int true IntKind.u64 (0 : Int), SC.int true IntKind.i64 (0 : Int)] (75 : Nat)), ((132 : Nat), SO.cells [SC.int false
    IntKind.u64 b, SC.int false IntKind.i64 (smF c), SC.int false IntKind.u64 d, SC.int false IntKind.i64 (smF e), SC.int false IntKind.i64 (smF f), SC.int false IntKind.u64 g, SC.int
    false IntKind.i64 (smF h)] (75 : Nat))] (134 : Nat)) Scr.nil ∧ True) ∧ True) ∧ True) ∧ (∀ (K : KO XE), ((0 : Int) ≤ h ∧ h ≤ (18446744073709551615 : Int)) ∧ (∀ (z : Un), True → a = a
    ∧ b = b ∧ c = c ∧ d = d ∧ e = e ∧ f = f ∧ g = g ∧ h = h ∧ (a = a ∧ b = b ∧ c = c ∧ d = d ∧ e = e ∧ f = f ∧ g = g ∧ h = h ∧ K (SF.mk (53 : Nat) (ST.node (SV.c (SC.sli (0 : Nat) (1 :
    Nat) true (0 : Nat) true (8 : Nat) (8 : Nat))) (ST.node (SV.tup []) (ST.node (SV.c (SC.ptr (101 : Nat) (0 : Nat))) (ST.node (SV.tup []) (ST.node (SV.c (SC.sli (0 : Nat) (1 : Nat)
    true (0 : Nat) true (8 : Nat) (8 : Nat))) (ST.node (SV.c (SC.ptr (0 : Nat) (6 : Nat))) ST.nil ST.nil) (ST.node (SV.tup []) ST.nil ST.nil)) (ST.node (SV.c (SC.ptr (0 : Nat) (4 :
    Nat))) (ST.node (SV.tup []) ST.nil ST.nil) ST.nil)) (ST.node (SV.tup []) (ST.node (SV.c (SC.sli (0 : Nat) (1 : Nat) true (0 : Nat) true (8 : Nat) (8 : Nat))) (ST.node (SV.c (SC.int
    false IntKind.u64 h)) ST.nil ST.nil) (ST.node (SV.tup []) ST.nil ST.nil)) (ST.node (SV.c (SC.ptr (0 : Nat) (5 : Nat))) (ST.node (SV.tup []) ST.nil ST.nil) ST.nil))) (ST.node (SV.c
    (SC.ptr (132 : Nat) (0 : Nat))) (ST.node (SV.c (SC.int true IntKind.i64 (8 : Int) Bd.any)) (ST.node (SV.c (SC.int false IntKind.u64 c)) (ST.node (SV.c (SC.sli (0 : Nat) (1 : Nat)
    true (0 : Nat) true (8 : Nat) (8 : Nat))) ST.nil ST.nil) (ST.node (SV.tup []) ST.nil ST.nil)) (ST.node (SV.c (SC.int false IntKind.i64 (smF e))) (ST.node (SV.tup []) ST.nil ST.nil)
    ST.nil)) (ST.node (SV.c (SC.ptr (0 : Nat) (1 : Nat))) (ST.node (SV.c (SC.int false IntKind.u64 d)) (ST.node (SV.agg [SC.int false IntKind.u64 b, SC.int false IntKind.i64 (smF c),
    SC.int false IntKind.u64 d, SC.int false IntKind.i64 (smF e), SC.int false IntKind.i64 (smF f), SC.int false IntKind.u64 g, SC.int false IntKind.i64 (smF h)]) ST.nil ST.nil) ST.nil)
    (ST.node (SV.c (SC.int false IntKind.i64 (smF f))) (ST.node (SV.tup []) ST.nil ST.nil) ST.nil)))) (ST.node (SV.c (SC.int true IntKind.u64 (0 : Int))) (ST.node (SV.c (SC.boo true
    false)) (ST.node (SV.c (SC.sli (0 : Nat) (1 : Nat) true (0 : Nat) true (8 : Nat) (8 : Nat))) (ST.node (SV.c (SC.ptr (0 : Nat) (2 : Nat))) (ST.node (SV.c (SC.int false IntKind.u64
    g)) ST.nil ST.nil) (ST.node (SV.tup []) ST.nil ST.nil)) (ST.node (SV.c (SC.int false IntKind.u64 e)) (ST.node (SV.tup []) ST.nil ST.nil) ST.nil)) (ST.node (SV.c (SC.sli (0 : Nat) (1
    : Nat) true (0 : Nat) true (8 : Nat) (8 : Nat))) (ST.node (SV.c (SC.ptr (0 : Nat) (3 : Nat))) (ST.node (SV.c (SC.int false IntKind.i64 (smF h))) ST.nil ST.nil) (ST.node (SV.tup [])
    ST.nil ST.nil)) (ST.node (SV.c (SC.int false IntKind.u64 f)) (ST.node (SV.tup []) ST.nil ST.nil) ST.nil))) (ST.node (SV.tup []) (ST.node (SV.c (SC.boo true false)) (ST.node (SV.c
    (SC.int false IntKind.i64 (smF c))) (ST.node (SV.c (SC.ptr (0 : Nat) (7 : Nat))) ST.nil ST.nil) (ST.node (SV.tup []) ST.nil ST.nil)) (ST.node (SV.c (SC.sli (0 : Nat) (1 : Nat) true
    (0 : Nat) true (8 : Nat) (8 : Nat))) (ST.node (SV.tup []) ST.nil ST.nil) ST.nil)) (ST.node (SV.c (SC.int false IntKind.u64 b)) (ST.node (SV.c (SC.sli (0 : Nat) (1 : Nat) true (0 :
    Nat) true (8 : Nat) (8 : Nat))) (ST.node (SV.tup []) ST.nil ST.nil) ST.nil) (ST.node (SV.c (SC.sli (0 : Nat) (1 : Nat) true (0 : Nat) true (8 : Nat) (8 : Nat))) (ST.node (SV.tup [])
    ST.nil ST.nil) ST.nil))))) []) (Mem.mk [((0 : Nat), SO.cells [SC.int false IntKind.u64 a, SC.int false IntKind.u64 b, SC.int false IntKind.u64 c, SC.int false IntKind.u64 d, SC.int
    false IntKind.u64 e, SC.int false IntKind.u64 f, SC.int false IntKind.u64 g, SC.int false IntKind.u64 h] (OfNat.ofNat (25 : Nat))), ((101 : Nat), SO.cells [SC.int true IntKind.u64
    (0 : Int), SC.int true IntKind.i64 (0 : Int), SC.int true IntKind.u64 (0 : Int), SC.int true IntKind.i64 (0 : Int), SC.int true IntKind.i64 (0 : Int), SC.int true IntKind.u64 (0 :
    Int), SC.int true IntKind.i64 (0 : Int)] (75 : Nat)), ((132 : Nat), SO.cells [SC.int false IntKind.u64 b, SC.int false IntKind.i64 (smF c), SC.int false IntKind.u64 d, SC.int false
    IntKind.i64 (smF e), SC.int false IntKind.i64 (smF f), SC.int false IntKind.u64 g, SC.int false IntKind.i64 (smF h)] (75 : Nat))] (134 : Nat)) Scr.nil ∧ True) ∧ True) ∧ True → a = a
    ∧ b = b ∧ c = c ∧ d = d ∧ e = e ∧ f = f ∧ g = g ∧ h = h ∧ (((0 : Int) ≤ h ∧ h ≤ (18446744073709551615 : Int)) ∧ (∀ (z : Un), True → a = a ∧ b = b ∧ c = c ∧ d = d ∧ e = e ∧ f = f ∧ g
    = g ∧ h = h ∧ K (SF.mk (53 : Nat) (ST.node (SV.c (SC.sli (0 : Nat) (1 : Nat) true (0 : Nat) true (8 : Nat) (8 : Nat))) (ST.node (SV.tup []) (ST.node (SV.c (SC.ptr (101 : Nat) (0 :
    Nat))) (ST.node (SV.tup []) (ST.node (SV.c (SC.sli (0 : Nat) (1 : Nat) true (0 : Nat) true (8 : Nat) (8 : Nat))) (ST.node (SV.c (SC.ptr (0 : Nat) (6 : Nat))) ST.nil ST.nil) (ST.node
    (SV.tup []) ST.nil ST.nil)) (ST.node (SV.c (SC.ptr (0 : Nat) (4 : Nat))) (ST.node (SV.tup []) ST.nil ST.nil) ST.nil)) (ST.node (SV.tup []) (ST.node (SV.c (SC.sli (0 : Nat) (1 : Nat)
    true (0 : Nat) true (8 : Nat) (8 : Nat))) (ST.node (SV.c (SC.int false IntKind.u64 h)) ST.nil ST.nil) (ST.node (SV.tup []) ST.nil ST.nil)) (ST.node (SV.c (SC.ptr (0 : Nat) (5 :
    Nat))) (ST.node (SV.tup []) ST.nil ST.nil) ST.nil))) (ST.node (SV.c (SC.ptr (132 : Nat) (0 : Nat))) (ST.node (SV.c (SC.int true IntKind.i64 (8 : Int) Bd.any)) (ST.node (SV.c (SC.int
    false IntKind.u64 c)) (ST.node (SV.c (SC.sli (0 : Nat) (1 : Nat) true (0 : Nat) true (8 : Nat) (8 : Nat))) ST.nil ST.nil) (ST.node (SV.tup []) ST.nil ST.nil)) (ST.node (SV.c (SC.int
    false IntKind.i64 (smF e))) (ST.node (SV.tup []) ST.nil ST.nil) ST.nil)) (ST.node (SV.c (SC.ptr (0 : Nat) (1 : Nat))) (ST.node (SV.c (SC.int false IntKind.u64 d)) (ST.node (SV.agg
    [SC.int false IntKind.u64 b, SC.int false IntKind.i64 (smF c), SC.int false IntKind.u64 d, SC.int false IntKind.i64 (smF e), SC.int false IntKind.i64 (smF f), SC.int false
    IntKind.u64 g, SC.int false IntKind.i64 (smF h)]) ST.nil ST.nil) ST.nil) (ST.node (SV.c (SC.int false IntKind.i64 (smF f))) (ST.node (SV.tup []) ST.nil ST.nil) ST.nil)))) (ST.node
    (SV.c (SC.int true IntKind.u64 (0 : Int))) (ST.node (SV.c (SC.boo true false)) (ST.node (SV.c (SC.sli (0 : Nat) (1 : Nat) true (0 : Nat) true (8 : Nat) (8 : Nat))) (ST.node (SV.c
    (SC.ptr (0 : Nat) (2 : Nat))) (ST.node (SV.c (SC.int false IntKind.u64 g)) ST.nil ST.nil) (ST.node (SV.tup []) ST.nil ST.nil)) (ST.node (SV.c (SC.int false IntKind.u64 e)) (ST.node
    (SV.tup []) ST.nil ST.nil) ST.nil)) (ST.node (SV.c (SC.sli (0 : Nat) (1 : Nat) true (0 : Nat) true (8 : Nat) (8 : Nat))) (ST.node (SV.c (SC.ptr (0 : Nat) (3 : Nat))) (ST.node (SV.c
    (SC.int false IntKind.i64 (smF h))) ST.nil ST.nil) (ST.node (SV.tup []) ST.nil ST.nil)) (ST.node (SV.c (SC.int false IntKind.u64 f)) (ST.node (SV.tup []) ST.nil ST.nil) ST.nil)))
    (ST.node (SV.tup []) (ST.node (SV.c (SC.boo true false)) (ST.node (SV.c (SC.int false IntKind.i64 (smF c))) (ST.node (SV.c (SC.ptr (0 : Nat) (7 : Nat))) ST.nil ST.nil) (ST.node
    (SV.tup []) ST.nil ST.nil)) (ST.node (SV.c (SC.sli (0 : Nat) (1 : Nat) true (0 : Nat) true (8 : Nat) (8 : Nat))) (ST.node (SV.tup []) ST.nil ST.nil) ST.nil)) (ST.node (SV.c (SC.int
    false IntKind.u64 b)) (ST.node (SV.c (SC.sli (0 : Nat) (1 : Nat) true (0 : Nat) true (8 : Nat) (8 : Nat))) (ST.node (SV.tup []) ST.nil ST.nil) ST.nil) (ST.node (SV.c (SC.sli (0 :
    Nat) (1 : Nat) true (0 : Nat) true (8 : Nat) (8 : Nat))) (ST.node (SV.tup []) ST.nil ST.nil) ST.nil))))) []) (Mem.mk [((0 : Nat), SO.cells [SC.int false IntKind.u64 a, SC.int false
    IntKind.u64 b, SC.int false IntKind.u64 c, SC.int false IntKind.u64 d, SC.int false IntKind.u64 e, SC.int false IntKind.u64 f, SC.int false IntKind.u64 g, SC.int false IntKind.u64
    h] (OfNat.ofNat (25 : Nat))), ((101 : Nat), SO.cells [SC.int true IntKind.u64 (0 : Int), SC.int true IntKind.i64 (0 : Int), SC.int true IntKind.u64 (0 : Int), SC.int true
    IntKind.i64 (0 : Int), SC.int true IntKind.i64 (0 : Int), SC.int true IntKind.u64 (0 : Int), SC.int true IntKind.i64 (0 : Int)] (75 : Nat)), ((132 : Nat), SO.cells [SC.int false
    IntKind.u64 b, SC.int false IntKind.i64 (smF c), SC.int false IntKind.u64 d, SC.int false IntKind.i64 (smF e), SC.int false IntKind.i64 (smF f), SC.int false IntKind.u64 g, SC.int
    false IntKind.i64 (smF h)] (75 : Nat))] (134 : Nat)) Scr.nil ∧ True) ∧ True) ∧ True) ∧ True) ∧ True) ∧ (∀ (K : KO XE), ((0 : Int) ≤ f ∧ f ≤ (18446744073709551615 : Int)) ∧ (∀ (z :
    Un), True → a = a ∧ b = b ∧ c = c ∧ d = d ∧ e = e ∧ f = f ∧ g = g ∧ h = h ∧ (((0 : Int) ≤ h ∧ h ≤ (18446744073709551615 : Int)) ∧ (∀ (z : Un), True → a = a ∧ b = b ∧ c = c ∧ d = d ∧
    e = e ∧ f = f ∧ g = g ∧ h = h ∧ (a = a ∧ b = b ∧ c = c ∧ d = d ∧ e = e ∧ f = f ∧ g = g ∧ h = h ∧ K (SF.mk (53 : Nat) (ST.node (SV.c (SC.sli (0 : Nat) (1 : Nat) true (0 : Nat) true
    (8 : Nat) (8 : Nat))) (ST.node (SV.tup []) (ST.node (SV.c (SC.ptr (101 : Nat) (0 : Nat))) (ST.node (SV.tup []) (ST.node (SV.c (SC.sli (0 : Nat) (1 : Nat) true (0 : Nat) true (8 :
    Nat) (8 : Nat))) (ST.node (SV.c (SC.ptr (0 : Nat) (6 : Nat))) ST.nil ST.nil) (ST.node (SV.tup []) ST.nil ST.nil)) (ST.node (SV.c (SC.ptr (0 : Nat) (4 : Nat))) (ST.node (SV.tup [])
    ST.nil ST.nil) ST.nil)) (ST.node (SV.tup []) (ST.node (SV.c (SC.sli (0 : Nat) (1 : Nat) true (0 : Nat) true (8 : Nat) (8 : Nat))) (ST.node (SV.c (SC.int false IntKind.u64 h)) ST.nil
    ST.nil) (ST.node (SV.tup []) ST.nil ST.nil)) (ST.node (SV.c (SC.ptr (0 : Nat) (5 : Nat))) (ST.node (SV.tup []) ST.nil ST.nil) ST.nil))) (ST.node (SV.c (SC.ptr (132 : Nat) (0 :
    Nat))) (ST.node (SV.c (SC.int true IntKind.i64 (8 : Int) Bd.any)) (ST.node (SV.c (SC.int false IntKind.u64 c)) (ST.node (SV.c (SC.sli (0 : Nat) (1 : Nat) true (0 : Nat) true (8 :
    Nat) (8 : Nat))) ST.nil ST.nil) (ST.node (SV.tup []) ST.nil ST.nil)) (ST.node (SV.c (SC.int false IntKind.i64 (smF e))) (ST.node (SV.tup []) ST.nil ST.nil) ST.nil)) (ST.node (SV.c
    (SC.ptr (0 : Nat) (1 : Nat))) (ST.node (SV.c (SC.int false IntKind.u64 d)) (ST.node (SV.agg [SC.int false IntKind.u64 b, SC.int false IntKind.i64 (smF c), SC.int false IntKind.u64
    d, SC.int false IntKind.i64 (smF e), SC.int false IntKind.i64 (smF f), SC.int false IntKind.u64 g, SC.int false IntKind.i64 (smF h)]) ST.nil ST.nil) ST.nil) (ST.node (SV.c (SC.int
    false IntKind.i64 (smF f))) (ST.node (SV.tup []) ST.nil ST.nil) ST.nil)))) (ST.node (SV.c (SC.int true IntKind.u64 (0 : Int))) (ST.node (SV.c (SC.boo true false)) (ST.node (SV.c
    (SC.sli (0 : Nat) (1 : Nat) true (0 : Nat) true (8 : Nat) (8 : Nat))) (ST.node (SV.c (SC.ptr (0 : Nat) (2 : Nat))) (ST.node (SV.c (SC.int false IntKind.u64 g)) ST.nil ST.nil)
    (ST.node (SV.tup []) ST.nil ST.nil)) (ST.node (SV.c (SC.int false IntKind.u64 e)) (ST.node (SV.tup []) ST.nil ST.nil) ST.nil)) (ST.node (SV.c (SC.sli (0 : Nat) (1 : Nat) true (0 :
    Nat) true (8 : Nat) (8 : Nat))) (ST.node (SV.c (SC.ptr (0 : Nat) (3 : Nat))) (ST.node (SV.c (SC.int false IntKind.i64 (smF h))) ST.nil ST.nil) (ST.node (SV.tup []) ST.nil ST.nil))
    (ST.node (SV.c (SC.int false IntKind.u64 f)) (ST.node (SV.tup []) ST.nil ST.nil) ST.nil))) (ST.node (SV.tup []) (ST.node (SV.c (SC.boo true false)) (ST.node (SV.c (SC.int false
    IntKind.i64 (smF c))) (ST.node (SV.c (SC.ptr (0 : Nat) (7 : Nat))) ST.nil ST.nil) (ST.node (SV.tup []) ST.nil ST.nil)) (ST.node (SV.c (SC.sli (0 : Nat) (1 : Nat) true (0 : Nat) true
    (8 : Nat) (8 : Nat))) (ST.node (SV.tup []) ST.nil ST.nil) ST.nil)) (ST.node (SV.c (SC.int false IntKind.u64 b)) (ST.node (SV.c (SC.sli (0 : Nat) (1 : Nat) true (0 : Nat) true (8 :
    Nat) (8 : Nat))) (ST.node (SV.tup []) ST.nil ST.nil) ST.nil) (ST.node (SV.c (SC.sli (0 : Nat) (1 : Nat) true (0 : Nat) true (8 : Nat) (8 : Nat))) (ST.node (SV.tup []) ST.nil ST.nil)
    ST.nil))))) []) (Mem.mk [((0 : Nat), SO.cells [SC.int false IntKind.u64 a, SC.int false IntKind.u64 b, SC.int false IntKind.u64 c, SC.int false IntKind.u64 d, SC.int false
    IntKind.u64 e, SC.int false IntKind.u64 f, SC.int false IntKind.u64 g, SC.int false IntKind.u64 h] (OfNat.ofNat (25 : Nat))), ((101 : Nat), SO.cells [SC.int true IntKind.u64 (0 :
    Int), SC.int true IntKind.i64 (0 : Int), SC.int true IntKind.u64 (0 : Int), SC.int true IntKind.i64 (0 : Int), SC.int true IntKind.i64 (0 : Int), SC.int true IntKind.u64 (0 : Int),
    SC.int true IntKind.i64 (0 : Int)] (75 : Nat)), ((132 : Nat), SO.cells [SC.int false IntKind.u64 b, SC.int false IntKind.i64 (smF c), SC.int false IntKind.u64 d, SC.int false
    IntKind.i64 (smF e), SC.int false IntKind.i64 (smF f), SC.int false IntKind.u64 g, SC.int false IntKind.i64 (smF h)] (75 : Nat))] (134 : Nat)) Scr.nil ∧ True) ∧ True) ∧ True) ∧ (∀
    (K : KO XE), ((0 : Int) ≤ h ∧ h ≤ (18446744073709551615 : Int)) ∧ (∀ (z : Un), True → a = a ∧ b = b ∧ c = c ∧ d = d ∧ e = e ∧ f = f ∧ g = g ∧ h = h ∧ (a = a ∧ b = b ∧ c = c ∧ d = d
    ∧ e = e ∧ f = f ∧ g = g ∧ h = h ∧ K (SF.mk (53 : Nat) (ST.node (SV.c (SC.sli (0 : Nat) (1 : Nat) true (0 : Nat) true (8 : Nat) (8 : Nat))) (ST.node (SV.tup []) (ST.node (SV.c
    (SC.ptr (101 : Nat) (0 : Nat))) (ST.node (SV.tup []) (ST.node (SV.c (SC.sli (0 : Nat) (1 : Nat) true (0 : Nat) true (8 : Nat) (8 : Nat))) (ST.node (SV.c (SC.ptr (0 : Nat) (6 :
    Nat))) ST.nil ST.nil) (ST.node (SV.tup []) ST.nil ST.nil)) (ST.node (SV.c (SC.ptr (0 : Nat) (4 : Nat))) (ST.node (SV.tup []) ST.nil ST.nil) ST.nil)) (ST.node (SV.tup []) (ST.node
    (SV.c (SC.sli (0 : Nat) (1 : Nat) true (0 : Nat) true (8 : Nat) (8 : Nat))) (ST.node (SV.c (SC.int false IntKind.u64 h)) ST.nil ST.nil) (ST.node (SV.tup []) ST.nil ST.nil)) (ST.node
    (SV.c (SC.ptr (0 : Nat) (5 : Nat))) (ST.node (SV.tup []) ST.nil ST.nil) ST.nil))) (ST.node (SV.c (SC.ptr (132 : Nat) (0 : Nat))) (ST.node (SV.c (SC.int true IntKind.i64 (8 : Int)
    Bd.any)) (ST.node (SV.c (SC.int false IntKind.u64 c)) (ST.node (SV.c (SC.sli (0 : Nat) (1 : Nat) true (0 : Nat) true (8 : Nat) (8 : Nat))) ST.nil ST.nil) (ST.node (SV.tup []) ST.nil
    ST.nil)) (ST.node (SV.c (SC.int false IntKind.i64 (smF e))) (ST.node (SV.tup []) ST.nil ST.nil) ST.nil)) (ST.node (SV.c (SC.ptr (0 : Nat) (1 : Nat))) (ST.node (SV.c (SC.int false
    IntKind.u64 d)) (ST.node (SV.agg [SC.int false IntKind.u64 b, SC.int false IntKind.i64 (smF c), SC.int false IntKind.u64 d, SC.int false IntKind.i64 (smF e), SC.int false
    IntKind.i64 (smF f), SC.int false IntKind.u64 g, SC.int false IntKind.i64 (smF h)]) ST.nil ST.nil) ST.nil) (ST.node (SV.c (SC.int false IntKind.i64 (smF f))) (ST.node (SV.tup [])
    ST.nil ST.nil) ST.nil)))) (ST.node (SV.c (SC.int true IntKind.u64 (0 : Int))) (ST.node (SV.c (SC.boo true false)) (ST.node (SV.c (SC.sli (0 : Nat) (1 : Nat) true (0 : Nat) true (8 :
    Nat) (8 : Nat))) (ST.node (SV.c (SC.ptr (0 : Nat) (2 : Nat))) (ST.node (SV.c (SC.int false IntKind.u64 g)) ST.nil ST.nil) (ST.node (SV.tup []) ST.nil ST.nil)) (ST.node (SV.c (SC.int
    false IntKind.u64 e)) (ST.node (SV.tup []) ST.nil ST.nil) ST.nil)) (ST.node (SV.c (SC.sli (0 : Nat) (1 : Nat) true (0 : Nat) true (8 : Nat) (8 : Nat))) (ST.node (SV.c (SC.ptr (0 :
    Nat) (3 : Nat))) (ST.node (SV.c (SC.int false IntKind.i64 (smF h))) ST.nil ST.nil) (ST.node (SV.tup []) ST.nil ST.nil)) (ST.node (SV.c (SC.int false IntKind.u64 f)) (ST.node (SV.tup
    []) ST.nil ST.nil) ST.nil))) (ST.node (SV.tup []) (ST.node (SV.c (SC.boo true false)) (ST.node (SV.c (SC.int false IntKind.i64 (smF c))) (ST.node (SV.c (SC.ptr (0 : Nat) (7 : Nat)))
    ST.nil ST.nil) (ST.node (SV.tup []) ST.nil ST.nil)) (ST.node (SV.c (SC.sli (0 : Nat) (1 : Nat) true (0 : Nat) true (8 : Nat) (8 : Nat))) (ST.node (SV.tup []) ST.nil ST.nil) ST.nil))
    (ST.node (SV.c (SC.int false IntKind.u64 b)) (ST.node (SV.c (SC.sli (0 : Nat) (1 : Nat) true (0 : Nat) true (8 : Nat) (8 : Nat))) (ST.node (SV.tup []) ST.nil ST.nil) ST.nil)
    (ST.node (SV.c (SC.sli (0 : Nat) (1 : Nat) true (0 : Nat) true (8 : Nat) (8 : Nat))) (ST.node (SV.tup []) ST.nil ST.nil) ST.nil))))) []) (Mem.mk [((0 : Nat), SO.cells [SC.int false
    IntKind.u64 a, SC.int false IntKind.u64 b, SC.int false IntKind.u64 c, SC.int false IntKind.u64 d, SC.int false IntKind.u64 e, SC.int false IntKind.u64 f, SC.int false IntKind.u64
    g, SC.int false IntKind.u64 h] (OfNat.ofNat (25 : Nat))), ((101 : Nat), SO.cells [SC.int true IntKind.u64 (0 : Int), SC.int true IntKind.i64 (0 : Int), SC.int true IntKind.u64 (0 :
    Int), SC.int true IntKind.i64 (0 : Int), SC.int true IntKind.i64 (0 : Int), SC.int true IntKind.u64 (0 : Int), SC.int true IntKind.i64 (0 : Int)] (75 : Nat)), ((132 : Nat), SO.cells
    [SC.int false IntKind.u64 b, SC.int false IntKind.i64 (smF c), SC.int false IntKind.u64 d, SC.int false IntKind.i64 (smF e), SC.int false IntKind.i64 (smF f), SC.int false
    IntKind.u64 g, SC.int false IntKind.i64 (smF h)] (75 : Nat))] (134 : Nat)) Scr.nil ∧ True) ∧ True) ∧ True → a = a ∧ b = b ∧ c = c ∧ d = d ∧ e = e ∧ f = f ∧ g = g ∧ h = h ∧ (((0 :
    Int) ≤ h ∧ h ≤ (18446744073709551615 : Int)) ∧ (∀ (z : Un), True → a = a ∧ b = b ∧ c = c ∧ d = d ∧ e = e ∧ f = f ∧ g = g ∧ h = h ∧ K (SF.mk (53 : Nat) (ST.node (SV.c (SC.sli (0 :
    Nat) (1 : Nat) true (0 : Nat) true (8 : Nat) (8 : Nat))) (ST.node (SV.tup []) (ST.node (SV.c (SC.ptr (101 : Nat) (0 : Nat))) (ST.node (SV.tup []) (ST.node (SV.c (SC.sli (0 : Nat) (1
    : Nat) true (0 : Nat) true (8 : Nat) (8 : Nat))) (ST.node (SV.c (SC.ptr (0 : Nat) (6 : Nat))) ST.nil ST.nil) (ST.node (SV.tup []) ST.nil ST.nil)) (ST.node (SV.c (SC.ptr (0 : Nat) (4
    : Nat))) (ST.node (SV.tup []) ST.nil ST.nil) ST.nil)) (ST.node (SV.tup []) (ST.node (SV.c (SC.sli (0 : Nat) (1 : Nat) true (0 : Nat) true (8 : Nat) (8 : Nat))) (ST.node (SV.c
    (SC.int false IntKind.u64 h)) ST.nil ST.nil) (ST.node (SV.tup []) ST.nil ST.nil)) (ST.node (SV.c (SC.ptr (0 : Nat) (5 : Nat))) (ST.node (SV.tup []) ST.nil ST.nil) ST.nil))) (ST.node
    (SV.c (SC.ptr (132 : Nat) (0 : Nat))) (ST.node (SV.c (SC.int true IntKind.i64 (8 : Int) Bd.any)) (ST.node (SV.c (SC.int false IntKind.u64 c)) (ST.node (SV.c (SC.sli (0 : Nat) (1 :
    Nat) true (0 : Nat) true (8 : Nat) (8 : Nat))) ST.nil ST.nil) (ST.node (SV.tup []) ST.nil ST.nil)) (ST.node (SV.c (SC.int false IntKind.i64 (smF e))) (ST.node (SV.tup []) ST.nil
    ST.nil) ST.nil)) (ST.node (SV.c (SC.ptr (0 : Nat) (1 : Nat))) (ST.node (SV.c (SC.int false IntKind.u64 d)) (ST.node (SV.agg [SC.int false IntKind.u64 b, SC.int false IntKind.i64
    (smF c), SC.int false IntKind.u64 d, SC.int false IntKind.i64 (smF e), SC.int false IntKind.i64 (smF f), SC.int false IntKind.u64 g, SC.int false IntKind.i64 (smF h)]) ST.nil
    ST.nil) ST.nil) (ST.node (SV.c (SC.int false IntKind.i64 (smF f))) (ST.node (SV.tup []) ST.nil ST.nil) ST.nil)))) (ST.node (SV.c (SC.int true IntKind.u64 (0 : Int))) (ST.node (SV.c
    (SC.boo true false)) (ST.node (SV.c (SC.sli (0 : Nat) (1 : Nat) true (0 : Nat) true (8 : Nat) (8 : Nat))) (ST.node (SV.c (SC.ptr (0 : Nat) (2 : Nat))) (ST.node (SV.c (SC.int false
    IntKind.u64 g)) ST.nil ST.nil) (ST.node (SV.tup []) ST.nil ST.nil)) (ST.node (SV.c (SC.int false IntKind.u64 e)) (ST.node (SV.tup []) ST.nil ST.nil) ST.nil)) (ST.node (SV.c (SC.sli
    (0 : Nat) (1 : Nat) true (0 : Nat) true (8 : Nat) (8 : Nat))) (ST.node (SV.c (SC.ptr (0 : Nat) (3 : Nat))) (ST.node (SV.c (SC.int false IntKind.i64 (smF h))) ST.nil ST.nil) (ST.node
    (SV.tup []) ST.nil ST.nil)) (ST.node (SV.c (SC.int false IntKind.u64 f)) (ST.node (SV.tup []) ST.nil ST.nil) ST.nil))) (ST.node (SV.tup []) (ST.node (SV.c (SC.boo true false))
    (ST.node (SV.c (SC.int false IntKind.i64 (smF c))) (ST.node (SV.c (SC.ptr (0 : Nat) (7 : Nat))) ST.nil ST.nil) (ST.node (SV.tup []) ST.nil ST.nil)) (ST.node (SV.c (SC.sli (0 : Nat)
    (1 : Nat) true (0 : Nat) true (8 : Nat) (8 : Nat))) (ST.node (SV.tup []) ST.nil ST.nil) ST.nil)) (ST.node (SV.c (SC.int false IntKind.u64 b)) (ST.node (SV.c (SC.sli (0 : Nat) (1 :
    Nat) true (0 : Nat) true (8 : Nat) (8 : Nat))) (ST.node (SV.tup []) ST.nil ST.nil) ST.nil) (ST.node (SV.c (SC.sli (0 : Nat) (1 : Nat) true (0 : Nat) true (8 : Nat) (8 : Nat)))
    (ST.node (SV.tup []) ST.nil ST.nil) ST.nil))))) []) (Mem.mk [((0 : Nat), SO.cells [SC.int false IntKind.u64 a, SC.int false IntKind.u64 b, SC.int false IntKind.u64 c, SC.int false
    IntKind.u64 d, SC.int false IntKind.u64 e, SC.int false IntKind.u64 f, SC.int false IntKind.u64 g, SC.int false IntKind.u64 h] (OfNat.ofNat (25 : Nat))), ((101 : Nat), SO.cells
    [SC.int true IntKind.u64 (0 : Int), SC.int true IntKind.i64 (0 : Int), SC.int true IntKind.u64 (0 : Int), SC.int true IntKind.i64 (0 : Int), SC.int true IntKind.i64 (0 : Int),
    SC.int true IntKind.u64 (0 : Int), SC.int true IntKind.i64 (0 : Int)] (75 : Nat)), ((132 : Nat), SO.cells [SC.int false IntKind.u64 b, SC.int false IntKind.i64 (smF c), SC.int false
    IntKind.u64 d, SC.int false IntKind.i64 (smF e), SC.int false IntKind.i64 (smF f), SC.int false IntKind.u64 g, SC.int false IntKind.i64 (smF h)] (75 : Nat))] (134 : Nat)) Scr.nil ∧
    True) ∧ True) ∧ True) ∧ True) ∧ True → a = a ∧ b = b ∧ c = c ∧ d = d ∧ e = e ∧ f = f ∧ g = g ∧ h = h ∧ (((0 : Int) ≤ f ∧ f ≤ (18446744073709551615 : Int)) ∧ (∀ (z : Un), True → a =
    a ∧ b = b ∧ c = c ∧ d = d ∧ e = e ∧ f = f ∧ g = g ∧ h = h ∧ (((0 : Int) ≤ h ∧ h ≤ (18446744073709551615 : Int)) ∧ (∀ (z : Un), True → a = a ∧ b = b ∧ c = c ∧ d = d ∧ e = e ∧ f = f ∧
    g = g ∧ h = h ∧ K (SF.mk (53 : Nat) (ST.node (SV.c (SC.sli (0 : Nat) (1 : Nat) true (0 : Nat) true (8 : Nat) (8 : Nat))) (ST.node (SV.tup []) (ST.node (SV.c (SC.ptr (101 : Nat) (0 :
    Nat))) (ST.node (SV.tup []) (ST.node (SV.c (SC.sli (0 : Nat) (1 : Nat) true (0 : Nat) true (8 : Nat) (8 : Nat))) (ST.node (SV.c (SC.ptr (0 : Nat) (6 : Nat))) ST.nil ST.nil) (ST.node
    (SV.tup []) ST.nil ST.nil)) (ST.node (SV.c (SC.ptr (0 : Nat) (4 : Nat))) (ST.node (SV.tup []) ST.nil ST.nil) ST.nil)) (ST.node (SV.tup []) (ST.node (SV.c (SC.sli (0 : Nat) (1 : Nat)
    true (0 : Nat) true (8 : Nat) (8 : Nat))) (ST.node (SV.c (SC.int false IntKind.u64 h)) ST.nil ST.nil) (ST.node (SV.tup []) ST.nil ST.nil)) (ST.node (SV.c (SC.ptr (0 : Nat) (5 :
    Nat))) (ST.node (SV.tup []) ST.nil ST.nil) ST.nil))) (ST.node (SV.c (SC.ptr (132 : Nat) (0 : Nat))) (ST.node (SV.c (SC.int true IntKind.i64 (8 : Int) Bd.any)) (ST.node (SV.c (SC.int
    false IntKind.u64 c)) (ST.node (SV.c (SC.sli (0 : Nat) (1 : Nat) true (0 : Nat) true (8 : Nat) (8 : Nat))) ST.nil ST.nil) (ST.node (SV.tup []) ST.nil ST.nil)) (ST.node (SV.c (SC.int
    false IntKind.i64 (smF e))) (ST.node (SV.tup []) ST.nil ST.nil) ST.nil)) (ST.node (SV.c (SC.ptr (0 : Nat) (1 : Nat))) (ST.node (SV.c (SC.int false IntKind.u64 d)) (ST.node (SV.agg
    [SC.int false IntKind.u64 b, SC.int false IntKind.i64 (smF c), SC.int false IntKind.u64 d, SC.int false IntKind.i64 (smF e), SC.int false IntKind.i64 (smF f), SC.int false
    IntKind.u64 g, SC.int false IntKind.i64 (smF h)]) ST.nil ST.nil) ST.nil) (ST.node (SV.c (SC.int false IntKind.i64 (smF f))) (ST.node (SV.tup []) ST.nil ST.nil) ST.nil)))) (ST.node
    (SV.c (SC.int true IntKind.u64 (0 : Int))) (ST.node (SV.c (SC.boo true false)) (ST.node (SV.c (SC.sli (0 : Nat) (1 : Nat) true (0 : Nat) true (8 : Nat) (8 : Nat))) (ST.node (SV.c
    (SC.ptr (0 : Nat) (2 : Nat))) (ST.node (SV.c (SC.int false IntKind.u64 g)) ST.nil ST.nil) (ST.node (SV.tup []) ST.nil ST.nil)) (ST.node (SV.c (SC.int false IntKind.u64 e)) (ST.node
    (SV.tup []) ST.nil ST.nil) ST.nil)) (ST.node (SV.c (SC.sli (0 : Nat) (1 : Nat) true (0 : Nat) true (8 : Nat) (8 : Nat))) (ST.node (SV.c (SC.ptr (0 : Nat) (3 : Nat))) (ST.node (SV.c
    (SC.int false IntKind.i64 (smF h))) ST.nil ST.nil) (ST.node (SV.tup []) ST.nil ST.nil)) (ST.node (SV.c (SC.int false IntKind.u64 f)) (ST.node (SV.tup []) ST.nil ST.nil) ST.nil)))
    (ST.node (SV.tup []) (ST.node (SV.c (SC.boo true false)) (ST.node (SV.c (SC.int false IntKind.i64 (smF c))) (ST.node (SV.c (SC.ptr (0 : Nat) (7 : Nat))) ST.nil ST.nil) (ST.node
    (SV.tup []) ST.nil ST.nil)) (ST.node (SV.c (SC.sli (0 : Nat) (1 : Nat) true (0 : Nat) true (8 : Nat) (8 : Nat))) (ST.node (SV.tup []) ST.nil ST.nil) ST.nil)) (ST.node (SV.c (SC.int
    false IntKind.u64 b)) (ST.node (SV.c (SC.sli (0 : Nat) (1 : Nat) true (0 : Nat) true (8 : Nat) (8 : Nat))) (ST.node (SV.tup []) ST.nil ST.nil) ST.nil) (ST.node (SV.c (SC.sli (0 :
    Nat) (1 : Nat) true (0 : Nat) true (8 : Nat) (8 : Nat))) (ST.node (SV.tup []) ST.nil ST.nil) ST.nil))))) []) (Mem.mk [((0 : Nat), SO.cells [SC.int false IntKind.u64 a, SC.int false
    IntKind.u64 b, SC.int false IntKind.u64 c, SC.int false IntKind.u64 d, SC.int false IntKind.u64 e, SC.int false IntKind.u64 f, SC.int false IntKind.u64 g, SC.int false IntKind.u64
    h] (OfNat.ofNat (25 : Nat))), ((101 : Nat), SO.cells [SC.int true IntKind.u64 (0 : Int), SC.int true IntKind.i64 (0 : Int), SC.int true IntKind.u64 (0 : Int), SC.int true
    IntKind.i64 (0 : Int), SC.int true IntKind.i64 (0 : Int), SC.int true IntKind.u64 (0 : Int), SC.int true IntKind.i64 (0 : Int)] (75 : Nat)), ((132 : Nat), SO.cells [SC.int false
    IntKind.u64 b, SC.int false IntKind.i64 (smF c), SC.int false IntKind.u64 d, SC.int false IntKind.i64 (smF e), SC.int false IntKind.i64 (smF f), SC.int false IntKind.u64 g, SC.int
    false IntKind.i64 (smF h)] (75 : Nat))] (134 : Nat)) Scr.nil ∧ True) ∧ True) ∧ True) ∧ True) ∧ True) ∧ True) ∧ True → a = a ∧ b = b ∧ c = c ∧ d = d ∧ e = e ∧ f = f ∧ g = g ∧ h = h ∧
    (((0 : Int) ≤ e ∧ e ≤ (18446744073709551615 : Int)) ∧ (∀ (z : Un), True → a = a ∧ b = b ∧ c = c ∧ d = d ∧ e = e ∧ f = f ∧ g = g ∧ h = h ∧ (((0 : Int) ≤ f ∧ f ≤ (18446744073709551615
    : Int)) ∧ (∀ (z : Un), True → a = a ∧ b = b ∧ c = c ∧ d = d ∧ e = e ∧ f = f ∧ g = g ∧ h = h ∧ (((0 : Int) ≤ h ∧ h ≤ (18446744073709551615 : Int)) ∧ (∀ (z : Un), True → a = a ∧ b = b
    ∧ c = c ∧ d = d ∧ e = e ∧ f = f ∧ g = g ∧ h = h ∧ K (SF.mk (53 : Nat) (ST.node (SV.c (SC.sli (0 : Nat) (1 : Nat) true (0 : Nat) true (8 : Nat) (8 : Nat))) (ST.node (SV.tup [])
    (ST.node (SV.c (SC.ptr (101 : Nat) (0 : Nat))) (ST.node (SV.tup []) (ST.node (SV.c (SC.sli (0 : Nat) (1 : Nat) true (0 : Nat) true (8 : Nat) (8 : Nat))) (ST.node (SV.c (SC.ptr (0 :
    Nat) (6 : Nat))) ST.nil ST.nil) (ST.node (SV.tup []) ST.nil ST.nil)) (ST.node (SV.c (SC.ptr (0 : Nat) (4 : Nat))) (ST.node (SV.tup []) ST.nil ST.nil) ST.nil)) (ST.node (SV.tup [])
    (ST.node (SV.c (SC.sli (0 : Nat) (1 : Nat) true (0 : Nat) true (8 : Nat) (8 : Nat))) (ST.node (SV.c (SC.int false IntKind.u64 h)) ST.nil ST.nil) (ST.node (SV.tup []) ST.nil ST.nil))
    (ST.node (SV.c (SC.ptr (0 : Nat) (5 : Nat))) (ST.node (SV.tup []) ST.nil ST.nil) ST.nil))) (ST.node (SV.c (SC.ptr (132 : Nat) (0 : Nat))) (ST.node (SV.c (SC.int true IntKind.i64 (8
    : Int) Bd.any)) (ST.node (SV.c (SC.int false IntKind.u64 c)) (ST.node (SV.c (SC.sli (0 : Nat) (1 : Nat) true (0 : Nat) true (8 : Nat) (8 : Nat))) ST.nil ST.nil) (ST.node (SV.tup [])
    ST.nil ST.nil)) (ST.node (SV.c (SC.int false IntKind.i64 (smF e))) (ST.node (SV.tup []) ST.nil ST.nil) ST.nil)) (ST.node (SV.c (SC.ptr (0 : Nat) (1 : Nat))) (ST.node (SV.c (SC.int
    false IntKind.u64 d)) (ST.node (SV.agg [SC.int false IntKind.u64 b, SC.int false IntKind.i64 (smF c), SC.int false IntKind.u64 d, SC.int false IntKind.i64 (smF e), SC.int false
    IntKind.i64 (smF f), SC.int false IntKind.u64 g, SC.int false IntKind.i64 (smF h)]) ST.nil ST.nil) ST.nil) (ST.node (SV.c (SC.int false IntKind.i64 (smF f))) (ST.node (SV.tup [])
    ST.nil ST.nil) ST.nil)))) (ST.node (SV.c (SC.int true IntKind.u64 (0 : Int))) (ST.node (SV.c (SC.boo true false)) (ST.node (SV.c (SC.sli (0 : Nat) (1 : Nat) true (0 : Nat) true (8 :
    Nat) (8 : Nat))) (ST.node (SV.c (SC.ptr (0 : Nat) (2 : Nat))) (ST.node (SV.c (SC.int false IntKind.u64 g)) ST.nil ST.nil) (ST.node (SV.tup []) ST.nil ST.nil)) (ST.node (SV.c (SC.int
    false IntKind.u64 e)) (ST.node (SV.tup []) ST.nil ST.nil) ST.nil)) (ST.node (SV.c (SC.sli (0 : Nat) (1 : Nat) true (0 : Nat) true (8 : Nat) (8 : Nat))) (ST.node (SV.c (SC.ptr (0 :
    Nat) (3 : Nat))) (ST.node (SV.c (SC.int false IntKind.i64 (smF h))) ST.nil ST.nil) (ST.node (SV.tup []) ST.nil ST.nil)) (ST.node (SV.c (SC.int false IntKind.u64 f)) (ST.node (SV.tup
    []) ST.nil ST.nil) ST.nil))) (ST.node (SV.tup []) (ST.node (SV.c (SC.boo true false)) (ST.node (SV.c (SC.int false IntKind.i64 (smF c))) (ST.node (SV.c (SC.ptr (0 : Nat) (7 : Nat)))
    ST.nil ST.nil) (ST.node (SV.tup []) ST.nil ST.nil)) (ST.node (SV.c (SC.sli (0 : Nat) (1 : Nat) true (0 : Nat) true (8 : Nat) (8 : Nat))) (ST.node (SV.tup []) ST.nil ST.nil) ST.nil))
    (ST.node (SV.c (SC.int false IntKind.u64 b)) (ST.node (SV.c (SC.sli (0 : Nat) (1 : Nat) true (0 : Nat) true (8 : Nat) (8 : Nat))) (ST.node (SV.tup []) ST.nil ST.nil) ST.nil)
    (ST.node (SV.c (SC.sli (0 : Nat) (1 : Nat) true (0 : Nat) true (8 : Nat) (8 : Nat))) (ST.node (SV.tup []) ST.nil ST.nil) ST.nil))))) []) (Mem.mk [((0 : Nat), SO.cells [SC.int false
    IntKind.u64 a, SC.int false IntKind.u64 b, SC.int false IntKind.u64 c, SC.int false IntKind.u64 d, SC.int false IntKind.u64 e, SC.int false IntKind.u64 f, SC.int false IntKind.u64
    g, SC.int false IntKind.u64 h] (OfNat.ofNat (25 : Nat))), ((101 : Nat), SO.cells [SC.int true IntKind.u64 (0 : Int), SC.int true IntKind.i64 (0 : Int), SC.int true IntKind.u64 (0 :
    Int), SC.int true IntKind.i64 (0 : Int), SC.int true IntKind.i64 (0 : Int), SC.int true IntKind.u64 (0 : Int), SC.int true IntKind.i64 (0 : Int)] (75 : Nat)), ((132 : Nat), SO.cells
    [SC.int false IntKind.u64 b, SC.int false IntKind.i64 (smF c), SC.int false IntKind.u64 d, SC.int false IntKind.i64 (smF e), SC.int false IntKind.i64 (smF f), SC.int false
    IntKind.u64 g, SC.int false IntKind.i64 (smF h)] (75 : Nat))] (134 : Nat)) Scr.nil ∧ True) ∧ True) ∧ True) ∧ True) ∧ True) ∧ True) ∧ True) ∧ True) ∧ True) ∧ (∀ (K : KO XE), ((0 :
    Int) ≤ c ∧ c ≤ (18446744073709551615 : Int)) ∧ (∀ (z : Un), True → a = a ∧ b = b ∧ c = c ∧ d = d ∧ e = e ∧ f = f ∧ g = g ∧ h = h ∧ (((0 : Int) ≤ e ∧ e ≤ (18446744073709551615 :
    Int)) ∧ (∀ (z : Un), True → a = a ∧ b = b ∧ c = c ∧ d = d ∧ e = e ∧ f = f ∧ g = g ∧ h = h ∧ (((0 : Int) ≤ f ∧ f ≤ (18446744073709551615 : Int)) ∧ (∀ (z : Un), True → a = a ∧ b = b ∧
    c = c ∧ d = d ∧ e = e ∧ f = f ∧ g = g ∧ h = h ∧ (((0 : Int) ≤ h ∧ h ≤ (18446744073709551615 : Int)) ∧ (∀ (z : Un), True → a = a ∧ b = b ∧ c = c ∧ d = d ∧ e = e ∧ f = f ∧ g = g ∧ h =
    h ∧ (a = a ∧ b = b ∧ c = c ∧ d = d ∧ e = e ∧ f = f ∧ g = g ∧ h = h ∧ K (SF.mk (53 : Nat) (ST.node (SV.c (SC.sli (0 : Nat) (1 : Nat) true (0 : Nat) true (8 : Nat) (8 : Nat)))
    (ST.node (SV.tup []) (ST.node (SV.c (SC.ptr (101 : Nat) (0 : Nat))) (ST.node (SV.tup []) (ST.node (SV.c (SC.sli (0 : Nat) (1 : Nat) true (0 : Nat) true (8 : Nat) (8 : Nat)))
    (ST.node (SV.c (SC.ptr (0 : Nat) (6 : Nat))) ST.nil ST.nil) (ST.node (SV.tup []) ST.nil ST.nil)) (ST.node (SV.c (SC.ptr (0 : Nat) (4 : Nat))) (ST.node (SV.tup []) ST.nil ST.nil)
    ST.nil)) (ST.node (SV.tup []) (ST.node (SV.c (SC.sli (0 : Nat) (1 : Nat) true (0 : Nat) true (8 : Nat) (8 : Nat))) (ST.node (SV.c (SC.int false IntKind.u64 h)) ST.nil ST.nil)
    (ST.node (SV.tup []) ST.nil ST.nil)) (ST.node (SV.c (SC.ptr (0 : Nat) (5 : Nat))) (ST.node (SV.tup []) ST.nil ST.nil) ST.nil))) (ST.node (SV.c (SC.ptr (132 : Nat) (0 : Nat)))
    (ST.node (SV.c (SC.int true IntKind.i64 (8 : Int) Bd.any)) (ST.node (SV.c (SC.int false IntKind.u64 c)) (ST.node (SV.c (SC.sli (0 : Nat) (1 : Nat) true (0 : Nat) true (8 : Nat) (8 :
    Nat))) ST.nil ST.nil) (ST.node (SV.tup []) ST.nil ST.nil)) (ST.node (SV.c (SC.int false IntKind.i64 (smF e))) (ST.node (SV.tup []) ST.nil ST.nil) ST.nil)) (ST.node (SV.c (SC.ptr (0
    : Nat) (1 : Nat))) (ST.node (SV.c (SC.int false IntKind.u64 d)) (ST.node (SV.agg [SC.int false IntKind.u64 b, SC.int false IntKind.i64 (smF c), SC.int false IntKind.u64 d, SC.int
    false IntKind.i64 (smF e), SC.int false IntKind.i64 (smF f), SC.int false IntKind.u64 g, SC.int false IntKind.i64 (smF h)]) ST.nil ST.nil) ST.nil) (ST.node (SV.c (SC.int false
    IntKind.i64 (smF f))) (ST.node (SV.tup []) ST.nil ST.nil) ST.nil)))) (ST.node (SV.c (SC.int true IntKind.u64 (0 : Int))) (ST.node (SV.c (SC.boo true false)) (ST.node (SV.c (SC.sli
    (0 : Nat) (1 : Nat) true (0 : Nat) true (8 : Nat) (8 : Nat))) (ST.node (SV.c (SC.ptr (0 : Nat) (2 : Nat))) (ST.node (SV.c (SC.int false IntKind.u64 g)) ST.nil ST.nil) (ST.node
    (SV.tup []) ST.nil ST.nil)) (ST.node (SV.c (SC.int false IntKind.u64 e)) (ST.node (SV.tup []) ST.nil ST.nil) ST.nil)) (ST.node (SV.c (SC.sli (0 : Nat) (1 : Nat) true (0 : Nat) true
    (8 : Nat) (8 : Nat))) (ST.node (SV.c (SC.ptr (0 : Nat) (3 : Nat))) (ST.node (SV.c (SC.int false IntKind.i64 (smF h))) ST.nil ST.nil) (ST.node (SV.tup []) ST.nil ST.nil)) (ST.node
    (SV.c (SC.int false IntKind.u64 f)) (ST.node (SV.tup []) ST.nil ST.nil) ST.nil))) (ST.node (SV.tup []) (ST.node (SV.c (SC.boo true false)) (ST.node (SV.c (SC.int false IntKind.i64
    (smF c))) (ST.node (SV.c (SC.ptr (0 : Nat) (7 : Nat))) ST.nil ST.nil) (ST.node (SV.tup []) ST.nil ST.nil)) (ST.node (SV.c (SC.sli (0 : Nat) (1 : Nat) true (0 : Nat) true (8 : Nat)
    (8 : Nat))) (ST.node (SV.tup []) ST.nil ST.nil) ST.nil)) (ST.node (SV.c (SC.int false IntKind.u64 b)) (ST.node (SV.c (SC.sli (0 : Nat) (1 : Nat) true (0 : Nat) true (8 : Nat) (8 :
    Nat))) (ST.node (SV.tup []) ST.nil ST.nil) ST.nil) (ST.node (SV.c (SC.sli (0 : Nat) (1 : Nat) true (0 : Nat) true (8 : Nat) (8 : Nat))) (ST.node (SV.tup []) ST.nil ST.nil)
    ST.nil))))) []) (Mem.mk [((0 : Nat), SO.cells [SC.int false IntKind.u64 a, SC.int false IntKind.u64 b, SC.int false IntKind.u64 c, SC.int false IntKind.u64 d, SC.int false
    IntKind.u64 e, SC.int false IntKind.u64 f, SC.int false IntKind.u64 g, SC.int false IntKind.u64 h] (OfNat.ofNat (25 : Nat))), ((101 : Nat), SO.cells [SC.int true IntKind.u64 (0 :
    Int), SC.int true IntKind.i64 (0 : Int), SC.int true IntKind.u64 (0 : Int), SC.int true IntKind.i64 (0 : Int), SC.int true IntKind.i64 (0 : Int), SC.int true IntKind.u64 (0 : Int),
    SC.int true IntKind.i64 (0 : Int)] (75 : Nat)), ((132 : Nat), SO.cells [SC.int false IntKind.u64 b, SC.int false IntKind.i64 (smF c), SC.int false IntKind.u64 d, SC.int false
    IntKind.i64 (smF e), SC.int false IntKind.i64 (smF f), SC.int false IntKind.u64 g, SC.int false IntKind.i64 (smF h)] (75 : Nat))] (134 : Nat)) Scr.nil ∧ True) ∧ True) ∧ True) ∧ (∀
    (K : KO XE), ((0 : Int) ≤ h ∧ h ≤ (18446744073709551615 : Int)) ∧ (∀ (z : Un), True → a = a ∧ b = b ∧ c = c ∧ d = d ∧ e = e ∧ f = f ∧ g = g ∧ h = h ∧ (a = a ∧ b = b ∧ c = c ∧ d = d
    ∧ e = e ∧ f = f ∧ g = g ∧ h = h ∧ K (SF.mk (53 : Nat) (ST.node (SV.c (SC.sli (0 : Nat) (1 : Nat) true (0 : Nat) true (8 : Nat) (8 : Nat))) (ST.node (SV.tup []) (ST.node (SV.c
    (SC.ptr (101 : Nat) (0 : Nat))) (ST.node (SV.tup []) (ST.node (SV.c (SC.sli (0 : Nat) (1 : Nat) true (0 : Nat) true (8 : Nat) (8 : Nat))) (ST.node (SV.c (SC.ptr (0 : Nat) (6 :
    Nat))) ST.nil ST.nil) (ST.node (SV.tup []) ST.nil ST.nil)) (ST.node (SV.c (SC.ptr (0 : Nat) (4 : Nat))) (ST.node (SV.tup []) ST.nil ST.nil) ST.nil)) (ST.node (SV.tup []) (ST.node
    (SV.c (SC.sli (0 : Nat) (1 : Nat) true (0 : Nat) true (8 : Nat) (8 : Nat))) (ST.node (SV.c (SC.int false IntKind.u64 h)) ST.nil ST.nil) (ST.node (SV.tup []) ST.nil ST.nil)) (ST.node
    (SV.c (SC.ptr (0 : Nat) (5 : Nat))) (ST.node (SV.tup []) ST.nil ST.nil) ST.nil))) (ST.node (SV.c (SC.ptr (132 : Nat) (0 : Nat))) (ST.node (SV.c (SC.int true IntKind.i64 (8 : Int)
    Bd.any)) (ST.node (SV.c (SC.int false IntKind.u64 c)) (ST.node (SV.c (SC.sli (0 : Nat) (1 : Nat) true (0 : Nat) true (8 : Nat) (8 : Nat))) ST.nil ST.nil) (ST.node (SV.tup []) ST.nil
    ST.nil)) (ST.node (SV.c (SC.int false IntKind.i64 (smF e))) (ST.node (SV.tup []) ST.nil ST.nil) ST.nil)) (ST.node (SV.c (SC.ptr (0 : Nat) (1 : Nat))) (ST.node (SV.c (SC.int false
    IntKind.u64 d)) (ST.node (SV.agg [SC.int false IntKind.u64 b, SC.int false IntKind.i64 (smF c), SC.int false IntKind.u64 d, SC.int false IntKind.i64 (smF e), SC.int false
    IntKind.i64 (smF f), SC.int false IntKind.u64 g, SC.int false IntKind.i64 (smF h)]) ST.nil ST.nil) ST.nil) (ST.node (SV.c (SC.int false IntKind.i64 (smF f))) (ST.node (SV.tup [])
    ST.nil ST.nil) ST.nil)))) (ST.node (SV.c (SC.int true IntKind.u64 (0 : Int))) (ST.node (SV.c (SC.boo true false)) (ST.node (SV.c (SC.sli (0 : Nat) (1 : Nat) true (0 : Nat) true (8 :
    Nat) (8 : Nat))) (ST.node (SV.c (SC.ptr (0 : Nat) (2 : Nat))) (ST.node (SV.c (SC.int false IntKind.u64 g)) ST.nil ST.nil) (ST.node (SV.tup []) ST.nil ST.nil)) (ST.node (SV.c (SC.int
    false IntKind.u64 e)) (ST.node (SV.tup []) ST.nil ST.nil) ST.nil)) (ST.node (SV.c (SC.sli (0 : Nat) (1 : Nat) true (0 : Nat) true (8 : Nat) (8 : Nat))) (ST.node (SV.c (SC.ptr (0 :
    Nat) (3 : Nat))) (ST.node (SV.c (SC.int false IntKind.i64 (smF h))) ST.nil ST.nil) (ST.node (SV.tup []) ST.nil ST.nil)) (ST.node (SV.c (SC.int false IntKind.u64 f)) (ST.node (SV.tup
    []) ST.nil ST.nil) ST.nil))) (ST.node (SV.tup []) (ST.node (SV.c (SC.boo true false)) (ST.node (SV.c (SC.int false IntKind.i64 (smF c))) (ST.node (SV.c (SC.ptr (0 : Nat) (7 : Nat)))
    ST.nil ST.nil) (ST.node (SV.tup []) ST.nil ST.nil)) (ST.node (SV.c (SC.sli (0 : Nat) (1 : Nat) true (0 : Nat) true (8 : Nat) (8 : Nat))) (ST.node (SV.tup []) ST.nil ST.nil) ST.nil))
    (ST.node (SV.c (SC.int false IntKind.u64 b)) (ST.node (SV.c (SC.sli (0 : Nat) (1 : Nat) true (0 : Nat) true (8 : Nat) (8 : Nat))) (ST.node (SV.tup []) ST.nil ST.nil) ST.nil)
    (ST.node (SV.c (SC.sli (0 : Nat) (1 : Nat) true (0 : Nat) true (8 : Nat) (8 : Nat))) (ST.node (SV.tup []) ST.nil ST.nil) ST.nil))))) []) (Mem.mk [((0 : Nat), SO.cells [SC.int false
    IntKind.u64 a, SC.int false IntKind.u64 b, SC.int false IntKind.u64 c, SC.int false IntKind.u64 d, SC.int false IntKind.u64 e, SC.int false IntKind.u64 f, SC.int false IntKind.u64
    g, SC.int false IntKind.u64 h] (OfNat.ofNat (25 : Nat))), ((101 : Nat), SO.cells [SC.int true IntKind.u64 (0 : Int), SC.int true IntKind.i64 (0 : Int), SC.int true IntKind.u64 (0 :
    Int), SC.int true IntKind.i64 (0 : Int), SC.int true IntKind.i64 (0 : Int), SC.int true IntKind.u64 (0 : Int), SC.int true IntKind.i64 (0 : Int)] (75 : Nat)), ((132 : Nat), SO.cells
    [SC.int false IntKind.u64 b, SC.int false IntKind.i64 (smF c), SC.int false IntKind.u64 d, SC.int false IntKind.i64 (smF e), SC.int false IntKind.i64 (smF f), SC.int false
    IntKind.u64 g, SC.int false IntKind.i64 (smF h)] (75 : Nat))] (134 : Nat)) Scr.nil ∧ True) ∧ True) ∧ True → a = a ∧ b = b ∧ c = c ∧ d = d ∧ e = e ∧ f = f ∧ g = g ∧ h = h ∧ (((0 :
    Int) ≤ h ∧ h ≤ (18446744073709551615 : Int)) ∧ (∀ (z : Un), True → a = a ∧ b = b ∧ c = c ∧ d = d ∧ e = e ∧ f = f ∧ g = g ∧ h = h ∧ K (SF.mk (53 : Nat) (ST.node (SV.c (SC.sli (0 :
    Nat) (1 : Nat) true (0 : Nat) true (8 : Nat) (8 : Nat))) (ST.node (SV.tup []) (ST.node (SV.c (SC.ptr (101 : Nat) (0 : Nat))) (ST.node (SV.tup []) (ST.node (SV.c (SC.sli (0 : Nat) (1
    : Nat) true (0 : Nat) true (8 : Nat) (8 : Nat))) (ST.node (SV.c (SC.ptr (0 : Nat) (6 : Nat))) ST.nil ST.nil) (ST.node (SV.tup []) ST.nil ST.nil)) (ST.node (SV.c (SC.ptr (0 : Nat) (4
    : Nat))) (ST.node (SV.tup []) ST.nil ST.nil) ST.nil)) (ST.node (SV.tup []) (ST.node (SV.c (SC.sli (0 : Nat) (1 : Nat) true (0 : Nat) true (8 : Nat) (8 : Nat))) (ST.node (SV.c
    (SC.int false IntKind.u64 h)) ST.nil ST.nil) (ST.node (SV.tup []) ST.nil ST.nil)) (ST.node (SV.c (SC.ptr (0 : Nat) (5 : Nat))) (ST.node (SV.tup []) ST.nil ST.nil) ST.nil))) (ST.node
    (SV.c (SC.ptr (132 : Nat) (0 : Nat))) (ST.node (SV.c (SC.int true IntKind.i64 (8 : Int) Bd.any)) (ST.node (SV.c (SC.int false IntKind.u64 c)) (ST.node (SV.c (SC.sli (0 : Nat) (1 :
    Nat) true (0 : Nat) true (8 : Nat) (8 : Nat))) ST.nil ST.nil) (ST.node (SV.tup []) ST.nil ST.nil)) (ST.node (SV.c (SC.int false IntKind.i64 (smF e))) (ST.node (SV.tup []) ST.nil
    ST.nil) ST.nil)) (ST.node (SV.c (SC.ptr (0 : Nat) (1 : Nat))) (ST.node (SV.c (SC.int false IntKind.u64 d)) (ST.node (SV.agg [SC.int false IntKind.u64 b, SC.int false IntKind.i64
    (smF c), SC.int false IntKind.u64 d, SC.int false IntKind.i64 (smF e), SC.int false IntKind.i64 (smF f), SC.int false IntKind.u64 g, SC.int false IntKind.i64 (smF h)]) ST.nil
    ST.nil) ST.nil) (ST.node (SV.c (SC.int false IntKind.i64 (smF f))) (ST.node (SV.tup []) ST.nil ST.nil) ST.nil)))) (ST.node (SV.c (SC.int true IntKind.u64 (0 : Int))) (ST.node (SV.c
    (SC.boo true false)) (ST.node (SV.c (SC.sli (0 : Nat) (1 : Nat) true (0 : Nat) true (8 : Nat) (8 : Nat))) (ST.node (SV.c (SC.ptr (0 : Nat) (2 : Nat))) (ST.node (SV.c (SC.int false
    IntKind.u64 g)) ST.nil ST.nil) (ST.node (SV.tup []) ST.nil ST.nil)) (ST.node (SV.c (SC.int false IntKind.u64 e)) (ST.node (SV.tup []) ST.nil ST.nil) ST.nil)) (ST.node (SV.c (SC.sli
    (0 : Nat) (1 : Nat) true (0 : Nat) true (8 : Nat) (8 : Nat))) (ST.node (SV.c (SC.ptr (0 : Nat) (3 : Nat))) (ST.node (SV.c (SC.int false IntKind.i64 (smF h))) ST.nil ST.nil) (ST.node
    (SV.tup []) ST.nil ST.nil)) (ST.node (SV.c (SC.int false IntKind.u64 f)) (ST.node (SV.tup []) ST.nil ST.nil) ST.nil))) (ST.node (SV.tup []) (ST.node (SV.c (SC.boo true false))
    (ST.node (SV.c (SC.int false IntKind.i64 (smF c))) (ST.node (SV.c (SC.ptr (0 : Nat) (7 : Nat))) ST.nil ST.nil) (ST.node (SV.tup []) ST.nil ST.nil)) (ST.node (SV.c (SC.sli (0 : Nat)
    (1 : Nat) true (0 : Nat) true (8 : Nat) (8 : Nat))) (ST.node (SV.tup []) ST.nil ST.nil) ST.nil)) (ST.node (SV.c (SC.int false IntKind.u64 b)) (ST.node (SV.c (SC.sli (0 : Nat) (1 :
    Nat) true (0 : Nat) true (8 : Nat) (8 : Nat))) (ST.node (SV.tup []) ST.nil ST.nil) ST.nil) (ST.node (SV.c (SC.sli (0 : Nat) (1 : Nat) true (0 : Nat) true (8 : Nat) (8 : Nat)))
    (ST.node (SV.tup []) ST.nil ST.nil) ST.nil))))) []) (Mem.mk [((0 : Nat), SO.cells [SC.int false IntKind.u64 a, SC.int false IntKind.u64 b, SC.int false IntKind.u64 c, SC.int false
    IntKind.u64 d, SC.int false IntKind.u64 e, SC.int false IntKind.u64 f, SC.int false IntKind.u64 g, SC.int false IntKind.u64 h] (OfNat.ofNat (25 : Nat))), ((101 : Nat), SO.cells
    [SC.int true IntKind.u64 (0 : Int), SC.int true IntKind.i64 (0 : Int), SC.int true IntKind.u64 (0 : Int), SC.int true IntKind.i64 (0 : Int), SC.int true IntKind.i64 (0 : Int),
    SC.int true IntKind.u64 (0 : Int), SC.int true IntKind.i64 (0 : Int)] (75 : Nat)), ((132 : Nat), SO.cells [SC.int false IntKind.u64 b, SC.int false IntKind.i64 (smF c), SC.int false
    IntKind.u64 d, SC.int false IntKind.i64 (smF e), SC.int false IntKind.i64 (smF f), SC.int false IntKind.u64 g, SC.int false IntKind.i64 (smF h)] (75 : Nat))] (134 : Nat)) Scr.nil ∧
    True) ∧ True) ∧ True) ∧ True) ∧ True) ∧ (∀ (K : KO XE), ((0 : Int) ≤ f ∧ f ≤ (18446744073709551615 : Int)) ∧ (∀ (z : Un), True → a = a ∧ b = b ∧ c = c ∧ d = d ∧ e = e ∧ f = f ∧ g =
    g ∧ h = h ∧ (((0 : Int) ≤ h ∧ h ≤ (18446744073709551615 : Int)) ∧ (∀ (z : Un), True → a = a ∧ b = b ∧ c = c ∧ d = d ∧ e = e ∧ f = f ∧ g = g ∧ h = h ∧ (a = a ∧ b = b ∧ c = c ∧ d = d
    ∧ e = e ∧ f = f ∧ g = g ∧ h = h ∧ K (SF.mk (53 : Nat) (ST.node (SV.c (SC.sli (0 : Nat) (1 : Nat) true (0 : Nat) true (8 : Nat) (8 : Nat))) (ST.node (SV.tup []) (ST.node (SV.c
    (SC.ptr (101 : Nat) (0 : Nat))) (ST.node (SV.tup []) (ST.node (SV.c (SC.sli (0 : Nat) (1 : Nat) true (0 : Nat) true (8 : Nat) (8 : Nat))) (ST.node (SV.c (SC.ptr (0 : Nat) (6 :
    Nat))) ST.nil ST.nil) (ST.node (SV.tup []) ST.nil ST.nil)) (ST.node (SV.c (SC.ptr (0 : Nat) (4 : Nat))) (ST.node (SV.tup []) ST.nil ST.nil) ST.nil)) (ST.node (SV.tup []) (ST.node
    (SV.c (SC.sli (0 : Nat) (1 : Nat) true (0 : Nat) true (8 : Nat) (8 : Nat))) (ST.node (SV.c (SC.int false IntKind.u64 h)) ST.nil ST.nil) (ST.node (SV.tup []) ST.nil ST.nil)) (ST.node
    (SV.c (SC.ptr (0 : Nat) (5 : Nat))) (ST.node (SV.tup []) ST.nil ST.nil) ST.nil))) (ST.node (SV.c (SC.ptr (132 : Nat) (0 : Nat))) (ST.node (SV.c (SC.int true IntKind.i64 (8 : Int)
    Bd.any)) (ST.node (SV.c (SC.int false IntKind.u64 c)) (ST.node (SV.c (SC.sli (0 : Nat) (1 : Nat) true (0 : Nat) true (8 : Nat) (8 : Nat))) ST.nil ST.nil) (ST.node (SV.tup []) ST.nil
    ST.nil)) (ST.node (SV.c (SC.int false IntKind.i64 (smF e))) (ST.node (SV.tup []) ST.nil ST.nil) ST.nil)) (ST.node (SV.c (SC.ptr (0 : Nat) (1 : Nat))) (ST.node (SV.c (SC.int false
    IntKind.u64 d)) (ST.node (SV.agg [SC.int false IntKind.u64 b, SC.int false IntKind.i64 (smF c), SC.int false IntKind.u64 d, SC.int false IntKind.i64 (smF e), SC.int false
    IntKind.i64 (smF f), SC.int false IntKind.u64 g, SC.int false IntKind.i64 (smF h)]) ST.nil ST.nil) ST.nil) (ST.node (SV.c (SC.int false IntKind.i64 (smF f))) (ST.node (SV.tup [])
    ST.nil ST.nil) ST.nil)))) (ST.node (SV.c (SC.int true IntKind.u64 (0 : Int))) (ST.node (SV.c (SC.boo true false)) (ST.node (SV.c (SC.sli (0 : Nat) (1 : Nat) true (0 : Nat) true (8 :
    Nat) (8 : Nat))) (ST.node (SV.c (SC.ptr (0 : Nat) (2 : Nat))) (ST.node (SV.c (SC.int false IntKind.u64 g)) ST.nil ST.nil) (ST.node (SV.tup []) ST.nil ST.nil)) (ST.node (SV.c (SC.int
    false IntKind.u64 e)) (ST.node (SV.tup []) ST.nil ST.nil) ST.nil)) (ST.node (SV.c (SC.sli (0 : Nat) (1 : Nat) true (0 : Nat) true (8 : Nat) (8 : Nat))) (ST.node (SV.c (SC.ptr (0 :
    Nat) (3 : Nat))) (ST.node (SV.c (SC.int false IntKind.i64 (smF h))) ST.nil ST.nil) (ST.node (SV.tup []) ST.nil ST.nil)) (ST.node (SV.c (SC.int false IntKind.u64 f)) (ST.node (SV.tup
    []) ST.nil ST.nil) ST.nil))) (ST.node (SV.tup []) (ST.node (SV.c (SC.boo true false)) (ST.node (SV.c (SC.int false IntKind.i64 (smF c))) (ST.node (SV.c (SC.ptr (0 : Nat) (7 : Nat)))
    ST.nil ST.nil) (ST.node (SV.tup []) ST.nil ST.nil)) (ST.node (SV.c (SC.sli (0 : Nat) (1 : Nat) true (0 : Nat) true (8 : Nat) (8 : Nat))) (ST.node (SV.tup []) ST.nil ST.nil) ST.nil))
    (ST.node (SV.c (SC.int false IntKind.u64 b)) (ST.node (SV.c (SC.sli (0 : Nat) (1 : Nat) true (0 : Nat) true (8 : Nat) (8 : Nat))) (ST.node (SV.tup []) ST.nil ST.nil) ST.nil)
    (ST.node (SV.c (SC.sli (0 : Nat) (1 : Nat) true (0 : Nat) true (8 : Nat) (8 : Nat))) (ST.node (SV.tup []) ST.nil ST.nil) ST.nil))))) []) (Mem.mk [((0 : Nat), SO.cells [SC.int false
    IntKind.u64 a, SC.int false IntKind.u64 b, SC.int false IntKind.u64 c, SC.int false IntKind.u64 d, SC.int false IntKind.u64 e, SC.int false IntKind.u64 f, SC.int false IntKind.u64
    g, SC.int false IntKind.u64 h] (OfNat.ofNat (25 : Nat))), ((101 : Nat), SO.cells [SC.int true IntKind.u64 (0 : Int), SC.int true IntKind.i64 (0 : Int), SC.int true IntKind.u64 (0 :
    Int), SC.int true IntKind.i64 (0 : Int), SC.int true IntKind.i64 (0 : Int), SC.int true IntKind.u64 (0 : Int), SC.int true IntKind.i64 (0 : Int)] (75 : Nat)), ((132 : Nat), SO.cells
    [SC.int false IntKind.u64 b, SC.int false IntKind.i64 (smF c), SC.int false IntKind.u64 d, SC.int false IntKind.i64 (smF e), SC.int false IntKind.i64 (smF f), SC.int false
    IntKind.u64 g, SC.int false IntKind.i64 (smF h)] (75 : Nat))] (134 : Nat)) Scr.nil ∧ True) ∧ True) ∧ True) ∧ (∀ (K : KO XE), ((0 : Int) ≤ h ∧ h ≤ (18446744073709551615 : Int)) ∧ (∀
    (z : Un), True → a = a ∧ b = b ∧ c = c ∧ d = d ∧ e = e ∧ f = f ∧ g = g ∧ h = h ∧ (a = a ∧ b = b ∧ c = c ∧ d = d ∧ e = e ∧ f = f ∧ g = g ∧ h = h ∧ K (SF.mk (53 : Nat) (ST.node (SV.c
    (SC.sli (0 : Nat) (1 : Nat) true (0 : Nat) true (8 : Nat) (8 : Nat))) (ST.node (SV.tup []) (ST.node (SV.c (SC.ptr (101 : Nat) (0 : Nat))) (ST.node (SV.tup []) (ST.node (SV.c (SC.sli
    (0 : Nat) (1 : Nat) true (0 : Nat) true (8 : Nat) (8 : Nat))) (ST.node (SV.c (SC.ptr (0 : Nat) (6 : Nat))) ST.nil ST.nil) (ST.node (SV.tup []) ST.nil ST.nil)) (ST.node (SV.c (SC.ptr
    (0 : Nat) (4 : Nat))) (ST.node (SV.tup []) ST.nil ST.nil) ST.nil)) (ST.node (SV.tup []) (ST.node (SV.c (SC.sli (0 : Nat) (1 : Nat) true (0 : Nat) true (8 : Nat) (8 : Nat))) (ST.node
    (SV.c (SC.int false IntKind.u64 h)) ST.nil ST.nil) (ST.node (SV.tup []) ST.nil ST.nil)) (ST.node (SV.c (SC.ptr (0 : Nat) (5 : Nat))) (ST.node (SV.tup []) ST.nil ST.nil) ST.nil)))
    (ST.node (SV.c (SC.ptr (132 : Nat) (0 : Nat))) (ST.node (SV.c (SC.int true IntKind.i64 (8 : Int) Bd.any)) (ST.node (SV.c (SC.int false IntKind.u64 c)) (ST.node (SV.c (SC.sli (0 :
    Nat) (1 : Nat) true (0 : Nat) true (8 : Nat) (8 : Nat))) ST.nil ST.nil) (ST.node (SV.tup []) ST.nil ST.nil)) (ST.node (SV.c (SC.int false IntKind.i64 (smF e))) (ST.node (SV.tup [])
    ST.nil ST.nil) ST.nil)) (ST.node (SV.c (SC.ptr (0 : Nat) (1 : Nat))) (ST.node (SV.c (SC.int false IntKind.u64 d)) (ST.node (SV.agg [SC.int false IntKind.u64 b, SC.int false
    IntKind.i64 (smF c), SC.int false IntKind.u64 d, SC.int false IntKind.i64 (smF e), SC.int false IntKind.i64 (smF f), SC.int false IntKind.u64 g, SC.int false IntKind.i64 (smF h)])
    ST.nil ST.nil) ST.nil) (ST.node (SV.c (SC.int false IntKind.i64 (smF f))) (ST.node (SV.tup []) ST.nil ST.nil) ST.nil)))) (ST.node (SV.c (SC.int true IntKind.u64 (0 : Int))) (ST.node
    (SV.c (SC.boo true false)) (ST.node (SV.c (SC.sli (0 : Nat) (1 : Nat) true (0 : Nat) true (8 : Nat) (8 : Nat))) (ST.node (SV.c (SC.ptr (0 : Nat) (2 : Nat))) (ST.node (SV.c (SC.int
    false IntKind.u64 g)) ST.nil ST.nil) (ST.node (SV.tup []) ST.nil ST.nil)) (ST.node (SV.c (SC.int false IntKind.u64 e)) (ST.node (SV.tup []) ST.nil ST.nil) ST.nil)) (ST.node (SV.c
    (SC.sli (0 : Nat) (1 : Nat) true (0 : Nat) true (8 : Nat) (8 : Nat))) (ST.node (SV.c (SC.ptr (0 : Nat) (3 : Nat))) (ST.node (SV.c (SC.int false IntKind.i64 (smF h))) ST.nil ST.nil)
    (ST.node (SV.tup []) ST.nil ST.nil)) (ST.node (SV.c (SC.int false IntKind.u64 f)) (ST.node (SV.tup []) ST.nil ST.nil) ST.nil))) (ST.node (SV.tup []) (ST.node (SV.c (SC.boo true
    false)) (ST.node (SV.c (SC.int false IntKind.i64 (smF c))) (ST.node (SV.c (SC.ptr (0 : Nat) (7 : Nat))) ST.nil ST.nil) (ST.node (SV.tup []) ST.nil ST.nil)) (ST.node (SV.c (SC.sli (0
    : Nat) (1 : Nat) true (0 : Nat) true (8 : Nat) (8 : Nat))) (ST.node (SV.tup []) ST.nil ST.nil) ST.nil)) (ST.node (SV.c (SC.int false IntKind.u64 b)) (ST.node (SV.c (SC.sli (0 : Nat)
    (1 : Nat) true (0 : Nat) true (8 : Nat) (8 : Nat))) (ST.node (SV.tup []) ST.nil ST.nil) ST.nil) (ST.node (SV.c (SC.sli (0 : Nat) (1 : Nat) true (0 : Nat) true (8 : Nat) (8 : Nat)))
    (ST.node (SV.tup []) ST.nil ST.nil) ST.nil))))) []) (Mem.mk [((0 : Nat), SO.cells [SC.int false IntKind.u64 a, SC.int false IntKind.u64 b, SC.int false IntKind.u64 c, SC.int false
    IntKind.u64 d, SC.int false IntKind.u64 e, SC.int false IntKind.u64 f, SC.int false IntKind.u64 g, SC.int false IntKind.u64 h] (OfNat.ofNat (25 : Nat))), ((101 : Nat), SO.cells
    [SC.int true IntKind.u64 (0 : Int), SC.int true IntKind.i64 (0 : Int), SC.int true IntKind.u64 (0 : Int), SC.int true IntKind.i64 (0 : Int), SC.int true IntKind.i64 (0 : Int),
    SC.int true IntKind.u64 (0 : Int), SC.int true IntKind.i64 (0 : Int)] (75 : Nat)), ((132 : Nat), SO.cells [SC.int false IntKind.u64 b, SC.int false IntKind.i64 (smF c), SC.int false
    IntKind.u64 d, SC.int false IntKind.i64 (smF e), SC.int false IntKind.i64 (smF f), SC.int false IntKind.u64 g, SC.int false IntKind.i64 (smF h)] (75 : Nat))] (134 : Nat)) Scr.nil ∧
    True) ∧ True) ∧ True → a = a ∧ b = b ∧ c = c ∧ d = d ∧ e = e ∧ f = f ∧ g = g ∧ h = h ∧ (((0 : Int) ≤ h ∧ h ≤ (18446744073709551615 : Int)) ∧ (∀ (z : Un), True → a = a ∧ b = b ∧ c =
    c ∧ d = d ∧ e = e ∧ f = f ∧ g = g ∧ h = h ∧ K (SF.mk (53 : Nat) (ST.node (SV.c (SC.sli (0 : Nat) (1 : Nat) true (0 : Nat) true (8 : Nat) (8 : Nat))) (ST.node (SV.tup []) (ST.node
    (SV.c (SC.ptr (101 : Nat) (0 : Nat))) (ST.node (SV.tup []) (ST.node (SV.c (SC.sli (0 : Nat) (1 : Nat) true (0 : Nat) true (8 : Nat) (8 : Nat))) (ST.node (SV.c (SC.ptr (0 : Nat) (6 :
    Nat))) ST.nil ST.nil) (ST.node (SV.tup []) ST.nil ST.nil)) (ST.node (SV.c (SC.ptr (0 : Nat) (4 : Nat))) (ST.node (SV.tup []) ST.nil ST.nil) ST.nil)) (ST.node (SV.tup []) (ST.node
    (SV.c (SC.sli (0 : Nat) (1 : Nat) true (0 : Nat) true (8 : Nat) (8 : Nat))) (ST.node (SV.c (SC.int false IntKind.u64 h)) ST.nil ST.nil) (ST.node (SV.tup []) ST.nil ST.nil)) (ST.node
    (SV.c (SC.ptr (0 : Nat) (5 : Nat))) (ST.node (SV.tup []) ST.nil ST.nil) ST.nil))) (ST.node (SV.c (SC.ptr (132 : Nat) (0 : Nat))) (ST.node (SV.c (SC.int true IntKind.i64 (8 : Int)
    Bd.any)) (ST.node (SV.c (SC.int false IntKind.u64 c)) (ST.node (SV.c (SC.sli (0 : Nat) (1 : Nat) true (0 : Nat) true (8 : Nat) (8 : Nat))) ST.nil ST.nil) (ST.node (SV.tup []) ST.nil
    ST.nil)) (ST.node (SV.c (SC.int false IntKind.i64 (smF e))) (ST.node (SV.tup []) ST.nil ST.nil) ST.nil)) (ST.node (SV.c (SC.ptr (0 : Nat) (1 : Nat))) (ST.node (SV.c (SC.int false
    IntKind.u64 d)) (ST.node (SV.agg [SC.int false IntKind.u64 b, SC.int false IntKind.i64 (smF c), SC.int false IntKind.u64 d, SC.int false IntKind.i64 (smF e), SC.int false
    IntKind.i64 (smF f), SC.int false IntKind.u64 g, SC.int false IntKind.i64 (smF h)]) ST.nil ST.nil) ST.nil) (ST.node (SV.c (SC.int false IntKind.i64 (smF f))) (ST.node (SV.tup [])
    ST.nil ST.nil) ST.nil)))) (ST.node (SV.c (SC.int true IntKind.u64 (0 : Int))) (ST.node (SV.c (SC.boo true false)) (ST.node (SV.c (SC.sli (0 : Nat) (1 : Nat) true (0 : Nat) true (8 :
    Nat) (8 : Nat))) (ST.node (SV.c (SC.ptr (0 : Nat) (2 : Nat))) (ST.node (SV.c (SC.int false IntKind.u64 g)) ST.nil ST.nil) (ST.node (SV.tup []) ST.nil ST.nil)) (ST.node (SV.c (SC.int
    false IntKind.u64 e)) (ST.node (SV.tup []) ST.nil ST.nil) ST.nil)) (ST.node (SV.c (SC.sli (0 : Nat) (1 : Nat) true (0 : Nat) true (8 : Nat) (8 : Nat))) (ST.node (SV.c (SC.ptr (0 :
    Nat) (3 : Nat))) (ST.node (SV.c (SC.int false IntKind.i64 (smF h))) ST.nil ST.nil) (ST.node (SV.tup []) ST.nil ST.nil)) (ST.node (SV.c (SC.int false IntKind.u64 f)) (ST.node (SV.tup
    []) ST.nil ST.nil) ST.nil))) (ST.node (SV.tup []) (ST.node (SV.c (SC.boo true false)) (ST.node (SV.c (SC.int false IntKind.i64 (smF c))) (ST.node (SV.c (SC.ptr (0 : Nat) (7 : Nat)))
    ST.nil ST.nil) (ST.node (SV.tup []) ST.nil ST.nil)) (ST.node (SV.c (SC.sli (0 : Nat) (1 : Nat) true (0 : Nat) true (8 : Nat) (8 : Nat))) (ST.node (SV.tup []) ST.nil ST.nil) ST.nil))
    (ST.node (SV.c (SC.int false IntKind.u64 b)) (ST.node (SV.c (SC.sli (0 : Nat) (1 : Nat) true (0 : Nat) true (8 : Nat) (8 : Nat))) (ST.node (SV.tup []) ST.nil ST.nil) ST.nil)
    (ST.node (SV.c (SC.sli (0 : Nat) (1 : Nat) true (0 : Nat) true (8 : Nat) (8 : Nat))) (ST.node (SV.tup []) ST.nil ST.nil) ST.nil))))) []) (Mem.mk [((0 : Nat), SO.cells [SC.int false
    IntKind.u64 a, SC.int false IntKind.u64 b, SC.int false IntKind.u64 c, SC.int false IntKind.u64 d, SC.int false IntKind.u64 e, SC.int false IntKind.u64 f, SC.int false IntKind.u64
    g, SC.int false IntKind.u64 h] (OfNat.ofNat (25 : Nat))), ((101 : Nat), SO.cells [SC.int true IntKind.u64 (0 : Int), SC.int true IntKind.i64 (0 : Int), SC.int true IntKind.u64 (0 :
    Int), SC.int true IntKind.i64 (0 : Int), SC.int true IntKind.i64 (0 : Int), SC.int true IntKind.u64 (0 : Int), SC.int true IntKind.i64 (0 : Int)] (75 : Nat)), ((132 : Nat), SO.cells
    [SC.int false IntKind.u64 b, SC.int false IntKind.i64 (smF c), SC.int false IntKind.u64 d, SC.int false IntKind.i64 (smF e), SC.int false IntKind.i64 (smF f), SC.int false
    IntKind.u64 g, SC.int false IntKind.i64 (smF h)] (75 : Nat))] (134 : Nat)) Scr.nil ∧ True) ∧ True) ∧ True) ∧ True) ∧ True → a = a ∧ b = b ∧ c = c ∧ d = d ∧ e = e ∧ f = f ∧ g = g ∧ h
    = h ∧ (((0 : Int) ≤ f ∧ f ≤ (18446744073709551615 : Int)) ∧ (∀ (z : Un), True → a = a ∧ b = b ∧ c = c ∧ d = d ∧ e = e ∧ f = f ∧ g = g ∧ h = h ∧ (((0 : Int) ≤ h ∧ h ≤
    (18446744073709551615 : Int)) ∧ (∀ (z : Un), True → a = a ∧ b = b ∧ c = c ∧ d = d ∧ e = e ∧ f = f ∧ g = g ∧ h = h ∧ K (SF.mk (53 : Nat) (ST.node (SV.c (SC.sli (0 : Nat) (1 : Nat)
    true (0 : Nat) true (8 : Nat) (8 : Nat))) (ST.node (SV.tup []) (ST.node (SV.c (SC.ptr (101 : Nat) (0 : Nat))) (ST.node (SV.tup []) (ST.node (SV.c (SC.sli (0 : Nat) (1 : Nat) true (0
    : Nat) true (8 : Nat) (8 : Nat))) (ST.node (SV.c (SC.ptr (0 : Nat) (6 : Nat))) ST.nil ST.nil) (ST.node (SV.tup []) ST.nil ST.nil)) (ST.node (SV.c (SC.ptr (0 : Nat) (4 : Nat)))
    (ST.node (SV.tup []) ST.nil ST.nil) ST.nil)) (ST.node (SV.tup []) (ST.node (SV.c (SC.sli (0 : Nat) (1 : Nat) true (0 : Nat) true (8 : Nat) (8 : Nat))) (ST.node (SV.c (SC.int false
    IntKind.u64 h)) ST.nil ST.nil) (ST.node (SV.tup []) ST.nil ST.nil)) (ST.node (SV.c (SC.ptr (0 : Nat) (5 : Nat))) (ST.node (SV.tup []) ST.nil ST.nil) ST.nil))) (ST.node (SV.c (SC.ptr
    (132 : Nat) (0 : Nat))) (ST.node (SV.c (SC.int true IntKind.i64 (8 : Int) Bd.any)) (ST.node (SV.c (SC.int false IntKind.u64 c)) (ST.node (SV.c (SC.sli (0 : Nat) (1 : Nat) true (0 :
    Nat) true (8 : Nat) (8 : Nat))) ST.nil ST.nil) (ST.node (SV.tup []) ST.nil ST.nil)) (ST.node (SV.c (SC.int false IntKind.i64 (smF e))) (ST.node (SV.tup []) ST.nil ST.nil) ST.nil))
    (ST.node (SV.c (SC.ptr (0 : Nat) (1 : Nat))) (ST.node (SV.c (SC.int false IntKind.u64 d)) (ST.node (SV.agg [SC.int false IntKind.u64 b, SC.int false IntKind.i64 (smF c), SC.int
    false IntKind.u64 d, SC.int false IntKind.i64 (smF e), SC.int false IntKind.i64 (smF f), SC.int false IntKind.u64 g, SC.int false IntKind.i64 (smF h)]) ST.nil ST.nil) ST.nil)
    (ST.node (SV.c (SC.int false IntKind.i64 (smF f))) (ST.node (SV.tup []) ST.nil ST.nil) ST.nil)))) (ST.node (SV.c (SC.int true IntKind.u64 (0 : Int))) (ST.node (SV.c (SC.boo true
    false)) (ST.node (SV.c (SC.sli (0 : Nat) (1 : Nat) true (0 : Nat) true (8 : Nat) (8 : Nat))) (ST.node (SV.c (SC.ptr (0 : Nat) (2 : Nat))) (ST.node (SV.c (SC.int false IntKind.u64
    g)) ST.nil ST.nil) (ST.node (SV.tup []) ST.nil ST.nil)) (ST.node (SV.c (SC.int false IntKind.u64 e)) (ST.node (SV.tup []) ST.nil ST.nil) ST.nil)) (ST.node (SV.c (SC.sli (0 : Nat) (1
    : Nat) true (0 : Nat) true (8 : Nat) (8 : Nat))) (ST.node (SV.c (SC.ptr (0 : Nat) (3 : Nat))) (ST.node (SV.c (SC.int false IntKind.i64 (smF h))) ST.nil ST.nil) (ST.node (SV.tup [])
    ST.nil ST.nil)) (ST.node (SV.c (SC.int false IntKind.u64 f)) (ST.node (SV.tup []) ST.nil ST.nil) ST.nil))) (ST.node (SV.tup []) (ST.node (SV.c (SC.boo true false)) (ST.node (SV.c
    (SC.int false IntKind.i64 (smF c))) (ST.node (SV.c (SC.ptr (0 : Nat) (7 : Nat))) ST.nil ST.nil) (ST.node (SV.tup []) ST.nil ST.nil)) (ST.node (SV.c (SC.sli (0 : Nat) (1 : Nat) true
    (0 : Nat) true (8 : Nat) (8 : Nat))) (ST.node (SV.tup []) ST.nil ST.nil) ST.nil)) (ST.node (SV.c (SC.int false IntKind.u64 b)) (ST.node (SV.c (SC.sli (0 : Nat) (1 : Nat) true (0 :
    Nat) true (8 : Nat) (8 : Nat))) (ST.node (SV.tup []) ST.nil ST.nil) ST.nil) (ST.node (SV.c (SC.sli (0 : Nat) (1 : Nat) true (0 : Nat) true (8 : Nat) (8 : Nat))) (ST.node (SV.tup [])
    ST.nil ST.nil) ST.nil))))) []) (Mem.mk [((0 : Nat), SO.cells [SC.int false IntKind.u64 a, SC.int false IntKind.u64 b, SC.int false IntKind.u64 c, SC.int false IntKind.u64 d, SC.int
    false IntKind.u64 e, SC.int false IntKind.u64 f, SC.int false IntKind.u64 g, SC.int false IntKind.u64 h] (OfNat.ofNat (25 : Nat))), ((101 : Nat), SO.cells [SC.int true IntKind.u64
    (0 : Int), SC.int true IntKind.i64 (0 : Int), SC.int true IntKind.u64 (0 : Int), SC.int true IntKind.i64 (0 : Int), SC.int true IntKind.i64 (0 : Int), SC.int true IntKind.u64 (0 :
    Int), SC.int true IntKind.i64 (0 : Int)] (75 : Nat)), ((132 : Nat), SO.cells [SC.int false IntKind.u64 b, SC.int false IntKind.i64 (smF c), SC.int false IntKind.u64 d, SC.int false
    IntKind.i64 (smF e), SC.int false IntKind.i64 (smF f), SC.int false IntKind.u64 g, SC.int false IntKind.i64 (smF h)] (75 : Nat))] (134 : Nat)) Scr.nil ∧ True) ∧ True) ∧ True) ∧
    True) ∧ True) ∧ True) ∧ True) ∧ (∀ (K : KO XE), ((0 : Int) ≤ e ∧ e ≤ (18446744073709551615 : Int)) ∧ (∀ (z : Un), True → a = a ∧ b = b ∧ c = c ∧ d = d ∧ e = e ∧ f = f ∧ g = g ∧ h =
    h ∧ (((0 : Int) ≤ f ∧ f ≤ (18446744073709551615 : Int)) ∧ (∀ (z : Un), True → a = a ∧ b = b ∧ c = c ∧ d = d ∧ e = e ∧ f = f ∧ g = g ∧ h = h ∧ (((0 : Int) ≤ h ∧ h ≤
    (18446744073709551615 : Int)) ∧ (∀ (z : Un), True → a = a ∧ b = b ∧ c = c ∧ d = d ∧ e = e ∧ f = f ∧ g = g ∧ h = h ∧ (a = a ∧ b = b ∧ c = c ∧ d = d ∧ e = e ∧ f = f ∧ g = g ∧ h = h ∧
    K (SF.mk (53 : Nat) (ST.node (SV.c (SC.sli (0 : Nat) (1 : Nat) true (0 : Nat) true (8 : Nat) (8 : Nat))) (ST.node (SV.tup []) (ST.node (SV.c (SC.ptr (101 : Nat) (0 : Nat))) (ST.node
    (SV.tup []) (ST.node (SV.c (SC.sli (0 : Nat) (1 : Nat) true (0 : Nat) true (8 : Nat) (8 : Nat))) (ST.node (SV.c (SC.ptr (0 : Nat) (6 : Nat))) ST.nil ST.nil) (ST.node (SV.tup [])
    ST.nil ST.nil)) (ST.node (SV.c (SC.ptr (0 : Nat) (4 : Nat))) (ST.node (SV.tup []) ST.nil ST.nil) ST.nil)) (ST.node (SV.tup []) (ST.node (SV.c (SC.sli (0 : Nat) (1 : Nat) true (0 :
    Nat) true (8 : Nat) (8 : Nat))) (ST.node (SV.c (SC.int false IntKind.u64 h)) ST.nil ST.nil) (ST.node (SV.tup []) ST.nil ST.nil)) (ST.node (SV.c (SC.ptr (0 : Nat) (5 : Nat)))
    (ST.node (SV.tup []) ST.nil ST.nil) ST.nil))) (ST.node (SV.c (SC.ptr (132 : Nat) (0 : Nat))) (ST.node (SV.c (SC.int true IntKind.i64 (8 : Int) Bd.any)) (ST.node (SV.c (SC.int false
    IntKind.u64 c)) (ST.node (SV.c (SC.sli (0 : Nat) (1 : Nat) true (0 : Nat) true (8 : Nat) (8 : Nat))) ST.nil ST.nil) (ST.node (SV.tup []) ST.nil ST.nil)) (ST.node (SV.c (SC.int false
    IntKind.i64 (smF e))) (ST.node (SV.tup []) ST.nil ST.nil) ST.nil)) (ST.node (SV.c (SC.ptr (0 : Nat) (1 : Nat))) (ST.node (SV.c (SC.int false IntKind.u64 d)) (ST.node (SV.agg [SC.int
    false IntKind.u64 b, SC.int false IntKind.i64 (smF c), SC.int false IntKind.u64 d, SC.int false IntKind.i64 (smF e), SC.int false IntKind.i64 (smF f), SC.int false IntKind.u64 g,
    SC.int false IntKind.i64 (smF h)]) ST.nil ST.nil) ST.nil) (ST.node (SV.c (SC.int false IntKind.i64 (smF f))) (ST.node (SV.tup []) ST.nil ST.nil) ST.nil)))) (ST.node (SV.c (SC.int
    true IntKind.u64 (0 : Int))) (ST.node (SV.c (SC.boo true false)) (ST.node (SV.c (SC.sli (0 : Nat) (1 : Nat) true (0 : Nat) true (8 : Nat) (8 : Nat))) (ST.node (SV.c (SC.ptr (0 :
    Nat) (2 : Nat))) (ST.node (SV.c (SC.int false IntKind.u64 g)) ST.nil ST.nil) (ST.node (SV.tup []) ST.nil ST.nil)) (ST.node (SV.c (SC.int false IntKind.u64 e)) (ST.node (SV.tup [])
    ST.nil ST.nil) ST.nil)) (ST.node (SV.c (SC.sli (0 : Nat) (1 : Nat) true (0 : Nat) true (8 : Nat) (8 : Nat))) (ST.node (SV.c (SC.ptr (0 : Nat) (3 : Nat))) (ST.node (SV.c (SC.int
    false IntKind.i64 (smF h))) ST.nil ST.nil) (ST.node (SV.tup []) ST.nil ST.nil)) (ST.node (SV.c (SC.int false IntKind.u64 f)) (ST.node (SV.tup []) ST.nil ST.nil) ST.nil))) (ST.node
    (SV.tup []) (ST.node (SV.c (SC.boo true false)) (ST.node (SV.c (SC.int false IntKind.i64 (smF c))) (ST.node (SV.c (SC.ptr (0 : Nat) (7 : Nat))) ST.nil ST.nil) (ST.node (SV.tup [])
    ST.nil ST.nil)) (ST.node (SV.c (SC.sli (0 : Nat) (1 : Nat) true (0 : Nat) true (8 : Nat) (8 : Nat))) (ST.node (SV.tup []) ST.nil ST.nil) ST.nil)) (ST.node (SV.c (SC.int false
    IntKind.u64 b)) (ST.node (SV.c (SC.sli (0 : Nat) (1 : Nat) true (0 : Nat) true (8 : Nat) (8 : Nat))) (ST.node (SV.tup []) ST.nil ST.nil) ST.nil) (ST.node (SV.c (SC.sli (0 : Nat) (1
    : Nat) true (0 : Nat) true (8 : Nat) (8 : Nat))) (ST.node (SV.tup []) ST.nil ST.nil) ST.nil))))) []) (Mem.mk [((0 : Nat), SO.cells [SC.int false IntKind.u64 a, SC.int false
    IntKind.u64 b, SC.int false IntKind.u64 c, SC.int false IntKind.u64 d, SC.int false IntKind.u64 e, SC.int false IntKind.u64 f, SC.int false IntKind.u64 g, SC.int false IntKind.u64
    h] (OfNat.ofNat (25 : Nat))), ((101 : Nat), SO.cells [SC.int true IntKind.u64 (0 : Int), SC.int true IntKind.i64 (0 : Int), SC.int true IntKind.u64 (0 : Int), SC.int true
    IntKind.i64 (0 : Int), SC.int true IntKind.i64 (0 : Int), SC.int true IntKind.u64 (0 : Int), SC.int true IntKind.i64 (0 : Int)] (75 : Nat)), ((132 : Nat), SO.cells [SC.int false
    IntKind.u64 b, SC.int false IntKind.i64 (smF c), SC.int false IntKind.u64 d, SC.int false IntKind.i64 (smF e), SC.int false IntKind.i64 (smF f), SC.int false IntKind.u64 g, SC.int
    false IntKind.i64 (smF h)] (75 : Nat))] (134 : Nat)) Scr.nil ∧ True) ∧ True) ∧ True) ∧ (∀ (K : KO XE), ((0 : Int) ≤ h ∧ h ≤ (18446744073709551615 : Int)) ∧ (∀ (z : Un), True → a = a
    ∧ b = b ∧ c = c ∧ d = d ∧ e = e ∧ f = f ∧ g = g ∧ h = h ∧ (a = a ∧ b = b ∧ c = c ∧ d = d ∧ e = e ∧ f = f ∧ g = g ∧ h = h ∧ K (SF.mk (53 : Nat) (ST.node (SV.c (SC.sli (0 : Nat) (1 :
    Nat) true (0 : Nat) true (8 : Nat) (8 : Nat))) (ST.node (SV.tup []) (ST.node (SV.c (SC.ptr (101 : Nat) (0 : Nat))) (ST.node (SV.tup []) (ST.node (SV.c (SC.sli (0 : Nat) (1 : Nat)
    true (0 : Nat) true (8 : Nat) (8 : Nat))) (ST.node (SV.c (SC.ptr (0 : Nat) (6 : Nat))) ST.nil ST.nil) (ST.node (SV.tup []) ST.nil ST.nil)) (ST.node (SV.c (SC.ptr (0 : Nat) (4 :
    Nat))) (ST.node (SV.tup []) ST.nil ST.nil) ST.nil)) (ST.node (SV.tup []) (ST.node (SV.c (SC.sli (0 : Nat) (1 : Nat) true (0 : Nat) true (8 : Nat) (8 : Nat))) (ST.node (SV.c (SC.int
    false IntKind.u64 h)) ST.nil ST.nil) (ST.node (SV.tup []) ST.nil ST.nil)) (ST.node (SV.c (SC.ptr (0 : Nat) (5 : Nat))) (ST.node (SV.tup []) ST.nil ST.nil) ST.nil))) (ST.node (SV.c
    (SC.ptr (132 : Nat) (0 : Nat))) (ST.node (SV.c (SC.int true IntKind.i64 (8 : Int) Bd.any)) (ST.node (SV.c (SC.int false IntKind.u64 c)) (ST.node (SV.c (SC.sli (0 : Nat) (1 : Nat)
    true (0 : Nat) true (8 : Nat) (8 : Nat))) ST.nil ST.nil) (ST.node (SV.tup []) ST.nil ST.nil)) (ST.node (SV.c (SC.int false IntKind.i64 (smF e))) (ST.node (SV.tup []) ST.nil ST.nil)
    ST.nil)) (ST.node (SV.c (SC.ptr (0 : Nat) (1 : Nat))) (ST.node (SV.c (SC.int false IntKind.u64 d)) (ST.node (SV.agg [SC.int false IntKind.u64 b, SC.int false IntKind.i64 (smF c),
    SC.int false IntKind.u64 d, SC.int false IntKind.i64 (smF e), SC.int false IntKind.i64 (smF f), SC.int false IntKind.u64 g, SC.int false IntKind.i64 (smF h)]) ST.nil ST.nil) ST.nil)
    (ST.node (SV.c (SC.int false IntKind.i64 (smF f))) (ST.node (SV.tup []) ST.nil ST.nil) ST.nil)))) (ST.node (SV.c (SC.int true IntKind.u64 (0 : Int))) (ST.node (SV.c (SC.boo true
    false)) (ST.node (SV.c (SC.sli (0 : Nat) (1 : Nat) true (0 : Nat) true (8 : Nat) (8 : Nat))) (ST.node (SV.c (SC.ptr (0 : Nat) (2 : Nat))) (ST.node (SV.c (SC.int false IntKind.u64
    g)) ST.nil ST.nil) (ST.node (SV.tup []) ST.nil ST.nil)) (ST.node (SV.c (SC.int false IntKind.u64 e)) (ST.node (SV.tup []) ST.nil ST.nil) ST.nil)) (ST.node (SV.c (SC.sli (0 : Nat) (1
    : Nat) true (0 : Nat) true (8 : Nat) (8 : Nat))) (ST.node (SV.c (SC.ptr (0 : Nat) (3 : Nat))) (ST.node (SV.c (SC.int false IntKind.i64 (smF h))) ST.nil ST.nil) (ST.node (SV.tup [])
    ST.nil ST.nil)) (ST.node (SV.c (SC.int false IntKind.u64 f)) (ST.node (SV.tup []) ST.nil ST.nil) ST.nil))) (ST.node (SV.tup []) (ST.node (SV.c (SC.boo true false)) (ST.node (SV.c
    (SC.int false IntKind.i64 (smF c))) (ST.node (SV.c (SC.ptr (0 : Nat) (7 : Nat))) ST.nil ST.nil) (ST.node (SV.tup []) ST.nil ST.nil)) (ST.node (SV.c (SC.sli (0 : Nat) (1 : Nat) true
    (0 : Nat) true (8 : Nat) (8 : Nat))) (ST.node (SV.tup []) ST.nil ST.nil) ST.nil)) (ST.node (SV.c (SC.int false IntKind.u64 b)) (ST.node (SV.c (SC.sli (0 : Nat) (1 : Nat) true (0 :
    Nat) true (8 : Nat) (8 : Nat))) (ST.node (SV.tup []) ST.nil ST.nil) ST.nil) (ST.node (SV.c (SC.sli (0 : Nat) (1 : Nat) true (0 : Nat) true (8 : Nat) (8 : Nat))) (ST.node (SV.tup [])
    ST.nil ST.nil) ST.nil))))) []) (Mem.mk [((0 : Nat), SO.cells [SC.int false IntKind.u64 a, SC.int false IntKind.u64 b, SC.int false IntKind.u64 c, SC.int false IntKind.u64 d, SC.int
    false IntKind.u64 e, SC.int false IntKind.u64 f, SC.int false IntKind.u64 g, SC.int false IntKind.u64 h] (OfNat.ofNat (25 : Nat))), ((101 : Nat), SO.cells [SC.int true IntKind.u64
    (0 : Int), SC.int true IntKind.i64 (0 : Int), SC.int true IntKind.u64 (0 : Int), SC.int true IntKind.i64 (0 : Int), SC.int true IntKind.i64 (0 : Int), SC.int true IntKind.u64 (0 :
    Int), SC.int true IntKind.i64 (0 : Int)] (75 : Nat)), ((132 : Nat), SO.cells [SC.int false IntKind.u64 b, SC.int false IntKind.i64 (smF c), SC.int false IntKind.u64 d, SC.int false
    IntKind.i64 (smF e), SC.int false IntKind.i64 (smF f), SC.int false IntKind.u64 g, SC.int false IntKind.i64 (smF h)] (75 : Nat))] (134 : Nat)) Scr.nil ∧ True) ∧ True) ∧ True → a = a
    ∧ b = b ∧ c = c ∧ d = d ∧ e = e ∧ f = f ∧ g = g ∧ h = h ∧ (((0 : Int) ≤ h ∧ h ≤ (18446744073709551615 : Int)) ∧ (∀ (z : Un), True → a = a ∧ b = b ∧ c = c ∧ d = d ∧ e = e ∧ f = f ∧ g
    = g ∧ h = h ∧ K (SF.mk (53 : Nat) (ST.node (SV.c (SC.sli (0 : Nat) (1 : Nat) true (0 : Nat) true (8 : Nat) (8 : Nat))) (ST.node (SV.tup []) (ST.node (SV.c (SC.ptr (101 : Nat) (0 :
    Nat))) (ST.node (SV.tup []) (ST.node (SV.c (SC.sli (0 : Nat) (1 : Nat) true (0 : Nat) true (8 : Nat) (8 : Nat))) (ST.node (SV.c (SC.ptr (0 : Nat) (6 : Nat))) ST.nil ST.nil) (ST.node
    (SV.tup []) ST.nil ST.nil)) (ST.node (SV.c (SC.ptr (0 : Nat) (4 : Nat))) (ST.node (SV.tup []) ST.nil ST.nil) ST.nil)) (ST.node (SV.tup []) (ST.node (SV.c (SC.sli (0 : Nat) (1 : Nat)
    true (0 : Nat) true (8 : Nat) (8 : Nat))) (ST.node (SV.c (SC.int false IntKind.u64 h)) ST.nil ST.nil) (ST.node (SV.tup []) ST.nil ST.nil)) (ST.node (SV.c (SC.ptr (0 : Nat) (5 :
    Nat))) (ST.node (SV.tup []) ST.nil ST.nil) ST.nil))) (ST.node (SV.c (SC.ptr (132 : Nat) (0 : Nat))) (ST.node (SV.c (SC.int true IntKind.i64 (8 : Int) Bd.any)) (ST.node (SV.c (SC.int
    false IntKind.u64 c)) (ST.node (SV.c (SC.sli (0 : Nat) (1 : Nat) true (0 : Nat) true (8 : Nat) (8 : Nat))) ST.nil ST.nil) (ST.node (SV.tup []) ST.nil ST.nil)) (ST.node (SV.c (SC.int
    false IntKind.i64 (smF e))) (ST.node (SV.tup []) ST.nil ST.nil) ST.nil)) (ST.node (SV.c (SC.ptr (0 : Nat) (1 : Nat))) (ST.node (SV.c (SC.int false IntKind.u64 d)) (ST.node (SV.agg
    [SC.int false IntKind.u64 b, SC.int false IntKind.i64 (smF c), SC.int false IntKind.u64 d, SC.int false IntKind.i64 (smF e), SC.int false IntKind.i64 (smF f), SC.int false
    IntKind.u64 g, SC.int false IntKind.i64 (smF h)]) ST.nil ST.nil) ST.nil) (ST.node (SV.c (SC.int false IntKind.i64 (smF f))) (ST.node (SV.tup []) ST.nil ST.nil) ST.nil)))) (ST.node
    (SV.c (SC.int true IntKind.u64 (0 : Int))) (ST.node (SV.c (SC.boo true false)) (ST.node (SV.c (SC.sli (0 : Nat) (1 : Nat) true (0 : Nat) true (8 : Nat) (8 : Nat))) (ST.node (SV.c
    (SC.ptr (0 : Nat) (2 : Nat))) (ST.node (SV.c (SC.int false IntKind.u64 g)) ST.nil ST.nil) (ST.node (SV.tup []) ST.nil ST.nil)) (ST.node (SV.c (SC.int false IntKind.u64 e)) (ST.node
    (SV.tup []) ST.nil ST.nil) ST.nil)) (ST.node (SV.c (SC.sli (0 : Nat) (1 : Nat) true (0 : Nat) true (8 : Nat) (8 : Nat))) (ST.node (SV.c (SC.ptr (0 : Nat) (3 : Nat))) (ST.node (SV.c
    (SC.int false IntKind.i64 (smF h))) ST.nil ST.nil) (ST.node (SV.tup []) ST.nil ST.nil)) (ST.node (SV.c (SC.int false IntKind.u64 f)) (ST.node (SV.tup []) ST.nil ST.nil) ST.nil)))
    (ST.node (SV.tup []) (ST.node (SV.c (SC.boo true false)) (ST.node (SV.c (SC.int false IntKind.i64 (smF c))) (ST.node (SV.c (SC.ptr (0 : Nat) (7 : Nat))) ST.nil ST.nil) (ST.node
    (SV.tup []) ST.nil ST.nil)) (ST.node (SV.c (SC.sli (0 : Nat) (1 : Nat) true (0 : Nat) true (8 : Nat) (8 : Nat))) (ST.node (SV.tup []) ST.nil ST.nil) ST.nil)) (ST.node (SV.c (SC.int
    false IntKind.u64 b)) (ST.node (SV.c (SC.sli (0 : Nat) (1 : Nat) true (0 : Nat) true (8 : Nat) (8 : Nat))) (ST.node (SV.tup []) ST.nil ST.nil) ST.nil) (ST.node (SV.c (SC.sli (0 :
    Nat) (1 : Nat) true (0 : Nat) true (8 : Nat) (8 : Nat))) (ST.node (SV.tup []) ST.nil ST.nil) ST.nil))))) []) (Mem.mk [((0 : Nat), SO.cells [SC.int false IntKind.u64 a, SC.int false
    IntKind.u64 b, SC.int false IntKind.u64 c, SC.int false IntKind.u64 d, SC.int false IntKind.u64 e, SC.int false IntKind.u64 f, SC.int false IntKind.u64 g, SC.int false IntKind.u64
    h] (OfNat.ofNat (25 : Nat))), ((101 : Nat), SO.cells [SC.int true IntKind.u64 (0 : Int), SC.int true IntKind.i64 (0 : Int), SC.int true IntKind.u64 (0 : Int), SC.int true
    IntKind.i64 (0 : Int), SC.int true IntKind.i64 (0 : Int), SC.int true IntKind.u64 (0 : Int), SC.int true IntKind.i64 (0 : Int)] (75 : Nat)), ((132 : Nat), SO.cells [SC.int false
    IntKind.u64 b, SC.int false IntKind.i64 (smF c), SC.int false IntKind.u64 d, SC.int false IntKind.i64 (smF e), SC.int false IntKind.i64 (smF f), SC.int false IntKind.u64 g, SC.int
    false IntKind.i64 (smF h)] (75 : Nat))] (134 : Nat)) Scr.nil ∧ True) ∧ True) ∧ True) ∧ True) ∧ True) ∧ (∀ (K : KO XE), ((0 : Int) ≤ f ∧ f ≤ (18446744073709551615 : Int)) ∧ (∀ (z :
    Un), True → a = a ∧ b = b ∧ c = c ∧ d = d ∧ e = e ∧ f = f ∧ g = g ∧ h = h ∧ (((0 : Int) ≤ h ∧ h ≤ (18446744073709551615 : Int)) ∧ (∀ (z : Un), True → a = a ∧ b = b ∧ c = c ∧ d = d ∧
    e = e ∧ f = f ∧ g = g ∧ h = h ∧ (a = a ∧ b = b ∧ c = c ∧ d = d ∧ e = e ∧ f = f ∧ g = g ∧ h = h ∧ K (SF.mk (53 : Nat) (ST.node (SV.c (SC.sli (0 : Nat) (1 : Nat) true (0 : Nat) true
    (8 : Nat) (8 : Nat))) (ST.node (SV.tup []) (ST.node (SV.c (SC.ptr (101 : Nat) (0 : Nat))) (ST.node (SV.tup []) (ST.node (SV.c (SC.sli (0 : Nat) (1 : Nat) true (0 : Nat) true (8 :
    Nat) (8 : Nat))) (ST.node (SV.c (SC.ptr (0 : Nat) (6 : Nat))) ST.nil ST.nil) (ST.node (SV.tup []) ST.nil ST.nil)) (ST.node (SV.c (SC.ptr (0 : Nat) (4 : Nat))) (ST.node (SV.tup [])
    ST.nil ST.nil) ST.nil)) (ST.node (SV.tup []) (ST.node (SV.c (SC.sli (0 : Nat) (1 : Nat) true (0 : Nat) true (8 : Nat) (8 : Nat))) (ST.node (SV.c (SC.int false IntKind.u64 h)) ST.nil
    ST.nil) (ST.node (SV.tup []) ST.nil ST.nil)) (ST.node (SV.c (SC.ptr (0 : Nat) (5 : Nat))) (ST.node (SV.tup []) ST.nil ST.nil) ST.nil))) (ST.node (SV.c (SC.ptr (132 : Nat) (0 :
    Nat))) (ST.node (SV.c (SC.int true IntKind.i64 (8 : Int) Bd.any)) (ST.node (SV.c (SC.int false IntKind.u64 c)) (ST.node (SV.c (SC.sli (0 : Nat) (1 : Nat) true (0 : Nat) true (8 :
    Nat) (8 : Nat))) ST.nil ST.nil) (ST.node (SV.tup []) ST.nil ST.nil)) (ST.node (SV.c (SC.int false IntKind.i64 (smF e))) (ST.node (SV.tup []) ST.nil ST.nil) ST.nil)) (ST.node (SV.c
    (SC.ptr (0 : Nat) (1 : Nat))) (ST.node (SV.c (SC.int false IntKind.u64 d)) (ST.node (SV.agg [SC.int false IntKind.u64 b, SC.int false IntKind.i64 (smF c), SC.int false IntKind.u64
    d, SC.int false IntKind.i64 (smF e), SC.int false IntKind.i64 (smF f), SC.int false IntKind.u64 g, SC.int false IntKind.i64 (smF h)]) ST.nil ST.nil) ST.nil) (ST.node (SV.c (SC.int
    false IntKind.i64 (smF f))) (ST.node (SV.tup []) ST.nil ST.nil) ST.nil)))) (ST.node (SV.c (SC.int true IntKind.u64 (0 : Int))) (ST.node (SV.c (SC.boo true false)) (ST.node (SV.c
    (SC.sli (0 : Nat) (1 : Nat) true (0 : Nat) true (8 : Nat) (8 : Nat))) (ST.node (SV.c (SC.ptr (0 : Nat) (2 : Nat))) (ST.node (SV.c (SC.int false IntKind.u64 g)) ST.nil ST.nil)
    (ST.node (SV.tup []) ST.nil ST.nil)) (ST.node (SV.c (SC.int false IntKind.u64 e)) (ST.node (SV.tup []) ST.nil ST.nil) ST.nil)) (ST.node (SV.c (SC.sli (0 : Nat) (1 : Nat) true (0 :
    Nat) true (8 : Nat) (8 : Nat))) (ST.node (SV.c (SC.ptr (0 : Nat) (3 : Nat))) (ST.node (SV.c (SC.int false IntKind.i64 (smF h))) ST.nil ST.nil) (ST.node (SV.tup []) ST.nil ST.nil))
    (ST.node (SV.c (SC.int false IntKind.u64 f)) (ST.node (SV.tup []) ST.nil ST.nil) ST.nil))) (ST.node (SV.tup []) (ST.node (SV.c (SC.boo true false)) (ST.node (SV.c (SC.int false
    IntKind.i64 (smF c))) (ST.node (SV.c (SC.ptr (0 : Nat) (7 : Nat))) ST.nil ST.nil) (ST.node (SV.tup []) ST.nil ST.nil)) (ST.node (SV.c (SC.sli (0 : Nat) (1 : Nat) true (0 : Nat) true
    (8 : Nat) (8 : Nat))) (ST.node (SV.tup []) ST.nil ST.nil) ST.nil)) (ST.node (SV.c (SC.int false IntKind.u64 b)) (ST.node (SV.c (SC.sli (0 : Nat) (1 : Nat) true (0 : Nat) true (8 :
    Nat) (8 : Nat))) (ST.node (SV.tup []) ST.nil ST.nil) ST.nil) (ST.node (SV.c (SC.sli (0 : Nat) (1 : Nat) true (0 : Nat) true (8 : Nat) (8 : Nat))) (ST.node (SV.tup []) ST.nil ST.nil)
    ST.nil))))) []) (Mem.mk [((0 : Nat), SO.cells [SC.int false IntKind.u64 a, SC.int false IntKind.u64 b, SC.int false IntKind.u64 c, SC.int false IntKind.u64 d, SC.int false
    IntKind.u64 e, SC.int false IntKind.u64 f, SC.int false IntKind.u64 g, SC.int false IntKind.u64 h] (OfNat.ofNat (25 : Nat))), ((101 : Nat), SO.cells [SC.int true IntKind.u64 (0 :
    Int), SC.int true IntKind.i64 (0 : Int), SC.int true IntKind.u64 (0 : Int), SC.int true IntKind.i64 (0 : Int), SC.int true IntKind.i64 (0 : Int), SC.int true IntKind.u64 (0 : Int),
    SC.int true IntKind.i64 (0 : Int)] (75 : Nat)), ((132 : Nat), SO.cells [SC.int false IntKind.u64 b, SC.int false IntKind.i64 (smF c), SC.int false IntKind.u64 d, SC.int false
    IntKind.i64 (smF e), SC.int false IntKind.i64 (smF f), SC.int false IntKind.u64 g, SC.int false IntKind.i64 (smF h)] (75 : Nat))] (134 : Nat)) Scr.nil ∧ True) ∧ True) ∧ True) ∧ (∀
    (K : KO XE), ((0 : Int) ≤ h ∧ h ≤ (18446744073709551615 : Int)) ∧ (∀ (z : Un), True → a = a ∧ b = b ∧ c = c ∧ d = d ∧ e = e ∧ f = f ∧ g = g ∧ h = h ∧ (a = a ∧ b = b ∧ c = c ∧ d = d
    ∧ e = e ∧ f = f ∧ g = g ∧ h = h ∧ K (SF.mk (53 : Nat) (ST.node (SV.c (SC.sli (0 : Nat) (1 : Nat) true (0 : Nat) true (8 : Nat) (8 : Nat))) (ST.node (SV.tup []) (ST.node (SV.c
    (SC.ptr (101 : Nat) (0 : Nat))) (ST.node (SV.tup []) (ST.node (SV.c (SC.sli (0 : Nat) (1 : Nat) true (0 : Nat) true (8 : Nat) (8 : Nat))) (ST.node (SV.c (SC.ptr (0 : Nat) (6 :
    Nat))) ST.nil ST.nil) (ST.node (SV.tup []) ST.nil ST.nil)) (ST.node (SV.c (SC.ptr (0 : Nat) (4 : Nat))) (ST.node (SV.tup []) ST.nil ST.nil) ST.nil)) (ST.node (SV.tup []) (ST.node
    (SV.c (SC.sli (0 : Nat) (1 : Nat) true (0 : Nat) true (8 : Nat) (8 : Nat))) (ST.node (SV.c (SC.int false IntKind.u64 h)) ST.nil ST.nil) (ST.node (SV.tup []) ST.nil ST.nil)) (ST.node
    (SV.c (SC.ptr (0 : Nat) (5 : Nat))) (ST.node (SV.tup []) ST.nil ST.nil) ST.nil))) (ST.node (SV.c (SC.ptr (132 : Nat) (0 : Nat))) (ST.node (SV.c (SC.int true IntKind.i64 (8 : Int)
    Bd.any)) (ST.node (SV.c (SC.int false IntKind.u64 c)) (ST.node (SV.c (SC.sli (0 : Nat) (1 : Nat) true (0 : Nat) true (8 : Nat) (8 : Nat))) ST.nil ST.nil) (ST.node (SV.tup []) ST.nil
    ST.nil)) (ST.node (SV.c (SC.int false IntKind.i64 (smF e))) (ST.node (SV.tup []) ST.nil ST.nil) ST.nil)) (ST.node (SV.c (SC.ptr (0 : Nat) (1 : Nat))) (ST.node (SV.c (SC.int false
    IntKind.u64 d)) (ST.node (SV.agg [SC.int false IntKind.u64 b, SC.int false IntKind.i64 (smF c), SC.int false IntKind.u64 d, SC.int false IntKind.i64 (smF e), SC.int false
    IntKind.i64 (smF f), SC.int false IntKind.u64 g, SC.int false IntKind.i64 (smF h)]) ST.nil ST.nil) ST.nil) (ST.node (SV.c (SC.int false IntKind.i64 (smF f))) (ST.node (SV.tup [])
    ST.nil ST.nil) ST.nil)))) (ST.node (SV.c (SC.int true IntKind.u64 (0 : Int))) (ST.node (SV.c (SC.boo true false)) (ST.node (SV.c (SC.sli (0 : Nat) (1 : Nat) true (0 : Nat) true (8 :
    Nat) (8 : Nat))) (ST.node (SV.c (SC.ptr (0 : Nat) (2 : Nat))) (ST.node (SV.c (SC.int false IntKind.u64 g)) ST.nil ST.nil) (ST.node (SV.tup []) ST.nil ST.nil)) (ST.node (SV.c (SC.int
    false IntKind.u64 e)) (ST.node (SV.tup []) ST.nil ST.nil) ST.nil)) (ST.node (SV.c (SC.sli (0 : Nat) (1 : Nat) true (0 : Nat) true (8 : Nat) (8 : Nat))) (ST.node (SV.c (SC.ptr (0 :
    Nat) (3 : Nat))) (ST.node (SV.c (SC.int false IntKind.i64 (smF h))) ST.nil ST.nil) (ST.node (SV.tup []) ST.nil ST.nil)) (ST.node (SV.c (SC.int false IntKind.u64 f)) (ST.node (SV.tup
    []) ST.nil ST.nil) ST.nil))) (ST.node (SV.tup []) (ST.node (SV.c (SC.boo true false)) (ST.node (SV.c (SC.int false IntKind.i64 (smF c))) (ST.node (SV.c (SC.ptr (0 : Nat) (7 : Nat)))
    ST.nil ST.nil) (ST.node (SV.tup []) ST.nil ST.nil)) (ST.node (SV.c (SC.sli (0 : Nat) (1 : Nat) true (0 : Nat) true (8 : Nat) (8 : Nat))) (ST.node (SV.tup []) ST.nil ST.nil) ST.nil))
    (ST.node (SV.c (SC.int false IntKind.u64 b)) (ST.node (SV.c (SC.sli (0 : Nat) (1 : Nat) true (0 : Nat) true (8 : Nat) (8 : Nat))) (ST.node (SV.tup []) ST.nil ST.nil) ST.nil)
    (ST.node (SV.c (SC.sli (0 : Nat) (1 : Nat) true (0 : Nat) true (8 : Nat) (8 : Nat))) (ST.node (SV.tup []) ST.nil ST.nil) ST.nil))))) []) (Mem.mk [((0 : Nat), SO.cells [SC.int false
    IntKind.u64 a, SC.int false IntKind.u64 b, SC.int false IntKind.u64 c, SC.int false IntKind.u64 d, SC.int false IntKind.u64 e, SC.int false IntKind.u64 f, SC.int false IntKind.u64
    g, SC.int false IntKind.u64 h] (OfNat.ofNat (25 : Nat))), ((101 : Nat), SO.cells [SC.int true IntKind.u64 (0 : Int), SC.int true IntKind.i64 (0 : Int), SC.int true IntKind.u64 (0 :
    Int), SC.int true IntKind.i64 (0 : Int), SC.int true IntKind.i64 (0 : Int), SC.int true IntKind.u64 (0 : Int), SC.int true IntKind.i64 (0 : Int)] (75 : Nat)), ((132 : Nat), SO.cells
    [SC.int false IntKind.u64 b, SC.int false IntKind.i64 (smF c), SC.int false IntKind.u64 d, SC.int false IntKind.i64 (smF e), SC.int false IntKind.i64 (smF f), SC.int false
    IntKind.u64 g, SC.int false IntKind.i64 (smF h)] (75 : Nat))] (134 : Nat)) Scr.nil ∧ True) ∧ True) ∧ True → a = a ∧ b = b ∧ c = c ∧ d = d ∧ e = e ∧ f = f ∧ g = g ∧ h = h ∧ (((0 :
    Int) ≤ h ∧ h ≤ (18446744073709551615 : Int)) ∧ (∀ (z : Un), True → a = a ∧ b = b ∧ c = c ∧ d = d ∧ e = e ∧ f = f ∧ g = g ∧ h = h ∧ K (SF.mk (53 : Nat) (ST.node (SV.c (SC.sli (0 :
    Nat) (1 : Nat) true (0 : Nat) true (8 : Nat) (8 : Nat))) (ST.node (SV.tup []) (ST.node (SV.c (SC.ptr (101 : Nat) (0 : Nat))) (ST.node (SV.tup []) (ST.node (SV.c (SC.sli (0 : Nat) (1
    : Nat) true (0 : Nat) true (8 : Nat) (8 : Nat))) (ST.node (SV.c (SC.ptr (0 : Nat) (6 : Nat))) ST.nil ST.nil) (ST.node (SV.tup []) ST.nil ST.nil)) (ST.node (SV.c (SC.ptr (0 : Nat) (4
    : Nat))) (ST.node (SV.tup []) ST.nil ST.nil) ST.nil)) (ST.node (SV.tup []) (ST.node (SV.c (SC.sli (0 : Nat) (1 : Nat) true (0 : Nat) true (8 : Nat) (8 : Nat))) (ST.node (SV.c
    (SC.int false IntKind.u64 h)) ST.nil ST.nil) (ST.node (SV.tup []) ST.nil ST.nil)) (ST.node (SV.c (SC.ptr (0 : Nat) (5 : Nat))) (ST.node (SV.tup []) ST.nil ST.nil) ST.nil))) (ST.node
    (SV.c (SC.ptr (132 : Nat) (0 : Nat))) (ST.node (SV.c (SC.int true IntKind.i64 (8 : Int) Bd.any)) (ST.node (SV.c (SC.int false IntKind.u64 c)) (ST.node (SV.c (SC.sli (0 : Nat) (1 :
    Nat) true (0 : Nat) true (8 : Nat) (8 : Nat))) ST.nil ST.nil) (ST.node (SV.tup []) ST.nil ST.nil)) (ST.node (SV.c (SC.int false IntKind.i64 (smF e))) (ST.node (SV.tup []) ST.nil
    ST.nil) ST.nil)) (ST.node (SV.c (SC.ptr (0 : Nat) (1 : Nat))) (ST.node (SV.c (SC.int false IntKind.u64 d)) (ST.node (SV.agg [SC.int false IntKind.u64 b, SC.int false IntKind.i64
    (smF c), SC.int false IntKind.u64 d, SC.int false IntKind.i64 (smF e), SC.int false IntKind.i64 (smF f), SC.int false IntKind.u64 g, SC.int false IntKind.i64 (smF h)]) ST.nil
    ST.nil) ST.nil) (ST.node (SV.c (SC.int false IntKind.i64 (smF f))) (ST.node (SV.tup []) ST.nil ST.nil) ST.nil)))) (ST.node (SV.c (SC.int true IntKind.u64 (0 : Int))) (ST.node (SV.c
    (SC.boo true false)) (ST.node (SV.c (SC.sli (0 : Nat) (1 : Nat) true (0 : Nat) true (8 : Nat) (8 : Nat))) (ST.node (SV.c (SC.ptr (0 : Nat) (2 : Nat))) (ST.node (SV.c (SC.int false
    IntKind.u64 g)) ST.nil ST.nil) (ST.node (SV.tup []) ST.nil ST.nil)) (ST.node (SV.c (SC.int false IntKind.u64 e)) (ST.node (SV.tup []) ST.nil ST.nil) ST.nil)) (ST.node (SV.c (SC.sli
    (0 : Nat) (1 : Nat) true (0 : Nat) true (8 : Nat) (8 : Nat))) (ST.node (SV.c (SC.ptr (0 : Nat) (3 : Nat))) (ST.node (SV.c (SC.int false IntKind.i64 (smF h))) ST.nil ST.nil) (ST.node
    (SV.tup []) ST.nil ST.nil)) (ST.node (SV.c (SC.int false IntKind.u64 f)) (ST.node (SV.tup []) ST.nil ST.nil) ST.nil))) (ST.node (SV.tup []) (ST.node (SV.c (SC.boo true false))
    (ST.node (SV.c (SC.int false IntKind.i64 (smF c))) (ST.node (SV.c (SC.ptr (0 : Nat) (7 : Nat))) ST.nil ST.nil) (ST.node (SV.tup []) ST.nil ST.nil)) (ST.node (SV.c (SC.sli (0 : Nat)
    (1 : Nat) true (0 : Nat) true (8 : Nat) (8 : Nat))) (ST.node (SV.tup []) ST.nil ST.nil) ST.nil)) (ST.node (SV.c (SC.int false IntKind.u64 b)) (ST.node (SV.c (SC.sli (0 : Nat) (1 :
    Nat) true (0 : Nat) true (8 : Nat) (8 : Nat))) (ST.node (SV.tup []) ST.nil ST.nil) ST.nil) (ST.node (SV.c (SC.sli (0 : Nat) (1 : Nat) true (0 : Nat) true (8 : Nat) (8 : Nat)))
    (ST.node (SV.tup []) ST.nil ST.nil) ST.nil))))) []) (Mem.mk [((0 : Nat), SO.cells [SC.int false IntKind.u64 a, SC.int false IntKind.u64 b, SC.int false IntKind.u64 c, SC.int false
    IntKind.u64 d, SC.int false IntKind.u64 e, SC.int false IntKind.u64 f, SC.int false IntKind.u64 g, SC.int false IntKind.u64 h] (OfNat.ofNat (25 : Nat))), ((101 : Nat), SO.cells
    [SC.int true IntKind.u64 (0 : Int), SC.int true IntKind.i64 (0 : Int), SC.int true IntKind.u64 (0 : Int), SC.int true IntKind.i64 (0 : Int), SC.int true IntKind.i64 (0 : Int),
    SC.int true IntKind.u64 (0 : Int), SC.int true IntKind.i64 (0 : Int)] (75 : Nat)), ((132 : Nat), SO.cells [SC.int false IntKind.u64 b, SC.int false IntKind.i64 (smF c), SC.int false
    IntKind.u64 d, SC.int false IntKind.i64 (smF e), SC.int false IntKind.i64 (smF f), SC.int false IntKind.u64 g, SC.int false IntKind.i64 (smF h)] (75 : Nat))] (134 : Nat)) Scr.nil ∧
    True) ∧ True) ∧ True) ∧ True) ∧ True → a = a ∧ b = b ∧ c = c ∧ d = d ∧ e = e ∧ f = f ∧ g = g ∧ h = h ∧ (((0 : Int) ≤ f ∧ f ≤ (18446744073709551615 : Int)) ∧ (∀ (z : Un), True → a =
    a ∧ b = b ∧ c = c ∧ d = d ∧ e = e ∧ f = f ∧ g = g ∧ h = h ∧ (((0 : Int) ≤ h ∧ h ≤ (18446744073709551615 : Int)) ∧ (∀ (z : Un), True → a = a ∧ b = b ∧ c = c ∧ d = d ∧ e = e ∧ f = f ∧
    g = g ∧ h = h ∧ K (SF.mk (53 : Nat) (ST.node (SV.c (SC.sli (0 : Nat) (1 : Nat) true (0 : Nat) true (8 : Nat) (8 : Nat))) (ST.node (SV.tup []) (ST.node (SV.c (SC.ptr (101 : Nat) (0 :
    Nat))) (ST.node (SV.tup []) (ST.node (SV.c (SC.sli (0 : Nat) (1 : Nat) true (0 : Nat) true (8 : Nat) (8 : Nat))) (ST.node (SV.c (SC.ptr (0 : Nat) (6 : Nat))) ST.nil ST.nil) (ST.node
    (SV.tup []) ST.nil ST.nil)) (ST.node (SV.c (SC.ptr (0 : Nat) (4 : Nat))) (ST.node (SV.tup []) ST.nil ST.nil) ST.nil)) (ST.node (SV.tup []) (ST.node (SV.c (SC.sli (0 : Nat) (1 : Nat)
    true (0 : Nat) true (8 : Nat) (8 : Nat))) (ST.node (SV.c (SC.int false IntKind.u64 h)) ST.nil ST.nil) (ST.node (SV.tup []) ST.nil ST.nil)) (ST.node (SV.c (SC.ptr (0 : Nat) (5 :
    Nat))) (ST.node (SV.tup []) ST.nil ST.nil) ST.nil))) (ST.node (SV.c (SC.ptr (132 : Nat) (0 : Nat))) (ST.node (SV.c (SC.int true IntKind.i64 (8 : Int) Bd.any)) (ST.node (SV.c (SC.int
    false IntKind.u64 c)) (ST.node (SV.c (SC.sli (0 : Nat) (1 : Nat) true (0 : Nat) true (8 : Nat) (8 : Nat))) ST.nil ST.nil) (ST.node (SV.tup []) ST.nil ST.nil)) (ST.node (SV.c (SC.int
    false IntKind.i64 (smF e))) (ST.node (SV.tup []) ST.nil ST.nil) ST.nil)) (ST.node (SV.c (SC.ptr (0 : Nat) (1 : Nat))) (ST.node (SV.c (SC.int false IntKind.u64 d)) (ST.node (SV.agg
    [SC.int false IntKind.u64 b, SC.int false IntKind.i64 (smF c), SC.int false IntKind.u64 d, SC.int false IntKind.i64 (smF e), SC.int false IntKind.i64 (smF f), SC.int false
    IntKind.u64 g, SC.int false IntKind.i64 (smF h)]) ST.nil ST.nil) ST.nil) (ST.node (SV.c (SC.int false IntKind.i64 (smF f))) (ST.node (SV.tup []) ST.nil ST.nil) ST.nil)))) (ST.node
    (SV.c (SC.int true IntKind.u64 (0 : Int))) (ST.node (SV.c (SC.boo true false)) (ST.node (SV.c (SC.sli (0 : Nat) (1 : Nat) true (0 : Nat) true (8 : Nat) (8 : Nat))) (ST.node (SV.c
    (SC.ptr (0 : Nat) (2 : Nat))) (ST.node (SV.c (SC.int false IntKind.u64 g)) ST.nil ST.nil) (ST.node (SV.tup []) ST.nil ST.nil)) (ST.node (SV.c (SC.int false IntKind.u64 e)) (ST.node
    (SV.tup []) ST.nil ST.nil) ST.nil)) (ST.node (SV.c (SC.sli (0 : Nat) (1 : Nat) true (0 : Nat) true (8 : Nat) (8 : Nat))) (ST.node (SV.c (SC.ptr (0 : Nat) (3 : Nat))) (ST.node (SV.c
    (SC.int false IntKind.i64 (smF h))) ST.nil ST.nil) (ST.node (SV.tup []) ST.nil ST.nil)) (ST.node (SV.c (SC.int false IntKind.u64 f)) (ST.node (SV.tup []) ST.nil ST.nil) ST.nil)))
    (ST.node (SV.tup []) (ST.node (SV.c (SC.boo true false)) (ST.node (SV.c (SC.int false IntKind.i64 (smF c))) (ST.node (SV.c (SC.ptr (0 : Nat) (7 : Nat))) ST.nil ST.nil) (ST.node
    (SV.tup []) ST.nil ST.nil)) (ST.node (SV.c (SC.sli (0 : Nat) (1 : Nat) true (0 : Nat) true (8 : Nat) (8 : Nat))) (ST.node (SV.tup []) ST.nil ST.nil) ST.nil)) (ST.node (SV.c (SC.int
    false IntKind.u64 b)) (ST.node (SV.c (SC.sli (0 : Nat) (1 : Nat) true (0 : Nat) true (8 : Nat) (8 : Nat))) (ST.node (SV.tup []) ST.nil ST.nil) ST.nil) (ST.node (SV.c (SC.sli (0 :
    Nat) (1 : Nat) true (0 : Nat) true (8 : Nat) (8 : Nat))) (ST.node (SV.tup []) ST.nil ST.nil) ST.nil))))) []) (Mem.mk [((0 : Nat), SO.cells [SC.int false IntKind.u64 a, SC.int false
    IntKind.u64 b, SC.int false IntKind.u64 c, SC.int false IntKind.u64 d, SC.int false IntKind.u64 e, SC.int false IntKind.u64 f, SC.int false IntKind.u64 g, SC.int false IntKind.u64
    h] (OfNat.ofNat (25 : Nat))), ((101 : Nat), SO.cells [SC.int true IntKind.u64 (0 : Int), SC.int true IntKind.i64 (0 : Int), SC.int true IntKind.u64 (0 : Int), SC.int true
    IntKind.i64 (0 : Int), SC.int true IntKind.i64 (0 : Int), SC.int true IntKind.u64 (0 : Int), SC.int true IntKind.i64 (0 : Int)] (75 : Nat)), ((132 : Nat), SO.cells [SC.int false
    IntKind.u64 b, SC.int false IntKind.i64 (smF c), SC.int false IntKind.u64 d, SC.int false IntKind.i64 (smF e), SC.int false IntKind.i64 (smF f), SC.int false IntKind.u64 g, SC.int
    false IntKind.i64 (smF h)] (75 : Nat))] (134 : Nat)) Scr.nil ∧ True) ∧ True) ∧ True) ∧ True) ∧ True) ∧ True) ∧ True → a = a ∧ b = b ∧ c = c ∧ d = d ∧ e = e ∧ f = f ∧ g = g ∧ h = h ∧
    (((0 : Int) ≤ e ∧ e ≤ (18446744073709551615 : Int)) ∧ (∀ (z : Un), True → a = a ∧ b = b ∧ c = c ∧ d = d ∧ e = e ∧ f = f ∧ g = g ∧ h = h ∧ (((0 : Int) ≤ f ∧ f ≤ (18446744073709551615
    : Int)) ∧ (∀ (z : Un), True → a = a ∧ b = b ∧ c = c ∧ d = d ∧ e = e ∧ f = f ∧ g = g ∧ h = h ∧ (((0 : Int) ≤ h ∧ h ≤ (18446744073709551615 : Int)) ∧ (∀ (z : Un), True → a = a ∧ b = b
    ∧ c = c ∧ d = d ∧ e = e ∧ f = f ∧ g = g ∧ h = h ∧ K (SF.mk (53 : Nat) (ST.node (SV.c (SC.sli (0 : Nat) (1 : Nat) true (0 : Nat) true (8 : Nat) (8 : Nat))) (ST.node (SV.tup [])
    (ST.node (SV.c (SC.ptr (101 : Nat) (0 : Nat))) (ST.node (SV.tup []) (ST.node (SV.c (SC.sli (0 : Nat) (1 : Nat) true (0 : Nat) true (8 : Nat) (8 : Nat))) (ST.node (SV.c (SC.ptr (0 :
    Nat) (6 : Nat))) ST.nil ST.nil) (ST.node (SV.tup []) ST.nil ST.nil)) (ST.node (SV.c (SC.ptr (0 : Nat) (4 : Nat))) (ST.node (SV.tup []) ST.nil ST.nil) ST.nil)) (ST.node (SV.tup [])
    (ST.node (SV.c (SC.sli (0 : Nat) (1 : Nat) true (0 : Nat) true (8 : Nat) (8 : Nat))) (ST.node (SV.c (SC.int false IntKind.u64 h)) ST.nil ST.nil) (ST.node (SV.tup []) ST.nil ST.nil))
    (ST.node (SV.c (SC.ptr (0 : Nat) (5 : Nat))) (ST.node (SV.tup []) ST.nil ST.nil) ST.nil))) (ST.node (SV.c (SC.ptr (132 : Nat) (0 : Nat))) (ST.node (SV.c (SC.int true IntKind.i64 (8
    : Int) Bd.any)) (ST.node (SV.c (SC.int false IntKind.u64 c)) (ST.node (SV.c (SC.sli (0 : Nat) (1 : Nat) true (0 : Nat) true (8 : Nat) (8 : Nat))) ST.nil ST.nil) (ST.node (SV.tup [])
    ST.nil ST.nil)) (ST.node (SV.c (SC.int false IntKind.i64 (smF e))) (ST.node (SV.tup []) ST.nil ST.nil) ST.nil)) (ST.node (SV.c (SC.ptr (0 : Nat) (1 : Nat))) (ST.node (SV.c (SC.int
    false IntKind.u64 d)) (ST.node (SV.agg [SC.int false IntKind.u64 b, SC.int false IntKind.i64 (smF c), SC.int false IntKind.u64 d, SC.int false IntKind.i64 (smF e), SC.int false
    IntKind.i64 (smF f), SC.int false IntKind.u64 g, SC.int false IntKind.i64 (smF h)]) ST.nil ST.nil) ST.nil) (ST.node (SV.c (SC.int false IntKind.i64 (smF f))) (ST.node (SV.tup [])
    ST.nil ST.nil) ST.nil)))) (ST.node (SV.c (SC.int true IntKind.u64 (0 : Int))) (ST.node (SV.c (SC.boo true false)) (ST.node (SV.c (SC.sli (0 : Nat) (1 : Nat) true (0 : Nat) true (8 :
    Nat) (8 : Nat))) (ST.node (SV.c (SC.ptr (0 : Nat) (2 : Nat))) (ST.node (SV.c (SC.int false IntKind.u64 g)) ST.nil ST.nil) (ST.node (SV.tup []) ST.nil ST.nil)) (ST.node (SV.c (SC.int
    false IntKind.u64 e)) (ST.node (SV.tup []) ST.nil ST.nil) ST.nil)) (ST.node (SV.c (SC.sli (0 : Nat) (1 : Nat) true (0 : Nat) true (8 : Nat) (8 : Nat))) (ST.node (SV.c (SC.ptr (0 :
    Nat) (3 : Nat))) (ST.node (SV.c (SC.int false IntKind.i64 (smF h))) ST.nil ST.nil) (ST.node (SV.tup []) ST.nil ST.nil)) (ST.node (SV.c (SC.int false IntKind.u64 f)) (ST.node (SV.tup
    []) ST.nil ST.nil) ST.nil))) (ST.node (SV.tup []) (ST.node (SV.c (SC.boo true false)) (ST.node (SV.c (SC.int false IntKind.i64 (smF c))) (ST.node (SV.c (SC.ptr (0 : Nat) (7 : Nat)))
    ST.nil ST.nil) (ST.node (SV.tup []) ST.nil ST.nil)) (ST.node (SV.c (SC.sli (0 : Nat) (1 : Nat) true (0 : Nat) true (8 : Nat) (8 : Nat))) (ST.node (SV.tup []) ST.nil ST.nil) ST.nil))
    (ST.node (SV.c (SC.int false IntKind.u64 b)) (ST.node (SV.c (SC.sli (0 : Nat) (1 : Nat) true (0 : Nat) true (8 : Nat) (8 : Nat))) (ST.node (SV.tup []) ST.nil ST.nil) ST.nil)
    (ST.node (SV.c (SC.sli (0 : Nat) (1 : Nat) true (0 : Nat) true (8 : Nat) (8 : Nat))) (ST.node (SV.tup []) ST.nil ST.nil) ST.nil))))) []) (Mem.mk [((0 : Nat), SO.cells [SC.int false
    IntKind.u64 a, SC.int false IntKind.u64 b, SC.int false IntKind.u64 c, SC.int false IntKind.u64 d, SC.int false IntKind.u64 e, SC.int false IntKind.u64 f, SC.int false IntKind.u64
    g, SC.int false IntKind.u64 h] (OfNat.ofNat (25 : Nat))), ((101 : Nat), SO.cells [SC.int true IntKind.u64 (0 : Int), SC.int true IntKind.i64 (0 : Int), SC.int true IntKind.u64 (0 :
    Int), SC.int true IntKind.i64 (0 : Int), SC.int true IntKind.i64 (0 : Int), SC.int true IntKind.u64 (0 : Int), SC.int true IntKind.i64 (0 : Int)] (75 : Nat)), ((132 : Nat), SO.cells
    [SC.int false IntKind.u64 b, SC.int false IntKind.i64 (smF c), SC.int false IntKind.u64 d, SC.int false IntKind.i64 (smF e), SC.int false IntKind.i64 (smF f), SC.int false
    IntKind.u64 g, SC.int false IntKind.i64 (smF h)] (75 : Nat))] (134 : Nat)) Scr.nil ∧ True) ∧ True) ∧ True) ∧ True) ∧ True) ∧ True) ∧ True) ∧ True) ∧ True → a = a ∧ b = b ∧ c = c ∧ d
    = d ∧ e = e ∧ f = f ∧ g = g ∧ h = h ∧ (((0 : Int) ≤ c ∧ c ≤ (18446744073709551615 : Int)) ∧ (∀ (z : Un), True → a = a ∧ b = b ∧ c = c ∧ d = d ∧ e = e ∧ f = f ∧ g = g ∧ h = h ∧ (((0
    : Int) ≤ e ∧ e ≤ (18446744073709551615 : Int)) ∧ (∀ (z : Un), True → a = a ∧ b = b ∧ c = c ∧ d = d ∧ e = e ∧ f = f ∧ g = g ∧ h = h ∧ (((0 : Int) ≤ f ∧ f ≤ (18446744073709551615 :
    Int)) ∧ (∀ (z : Un), True → a = a ∧ b = b ∧ c = c ∧ d = d ∧ e = e ∧ f = f ∧ g = g ∧ h = h ∧ (((0 : Int) ≤ h ∧ h ≤ (18446744073709551615 : Int)) ∧ (∀ (z : Un), True → a = a ∧ b = b ∧
    c = c ∧ d = d ∧ e = e ∧ f = f ∧ g = g ∧ h = h ∧ K (SF.mk (53 : Nat) (ST.node (SV.c (SC.sli (0 : Nat) (1 : Nat) true (0 : Nat) true (8 : Nat) (8 : Nat))) (ST.node (SV.tup [])
    (ST.node (SV.c (SC.ptr (101 : Nat) (0 : Nat))) (ST.node (SV.tup []) (ST.node (SV.c (SC.sli (0 : Nat) (1 : Nat) true (0 : Nat) true (8 : Nat) (8 : Nat))) (ST.node (SV.c (SC.ptr (0 :
    Nat) (6 : Nat))) ST.nil ST.nil) (ST.node (SV.tup []) ST.nil ST.nil)) (ST.node (SV.c (SC.ptr (0 : Nat) (4 : Nat))) (ST.node (SV.tup []) ST.nil ST.nil) ST.nil)) (ST.node (SV.tup [])
    (ST.node (SV.c (SC.sli (0 : Nat) (1 : Nat) true (0 : Nat) true (8 : Nat) (8 : Nat))) (ST.node (SV.c (SC.int false IntKind.u64 h)) ST.nil ST.nil) (ST.node (SV.tup []) ST.nil ST.nil))
    (ST.node (SV.c (SC.ptr (0 : Nat) (5 : Nat))) (ST.node (SV.tup []) ST.nil ST.nil) ST.nil))) (ST.node (SV.c (SC.ptr (132 : Nat) (0 : Nat))) (ST.node (SV.c (SC.int true IntKind.i64 (8
    : Int) Bd.any)) (ST.node (SV.c (SC.int false IntKind.u64 c)) (ST.node (SV.c (SC.sli (0 : Nat) (1 : Nat) true (0 : Nat) true (8 : Nat) (8 : Nat))) ST.nil ST.nil) (ST.node (SV.tup [])
    ST.nil ST.nil)) (ST.node (SV.c (SC.int false IntKind.i64 (smF e))) (ST.node (SV.tup []) ST.nil ST.nil) ST.nil)) (ST.node (SV.c (SC.ptr (0 : Nat) (1 : Nat))) (ST.node (SV.c (SC.int
    false IntKind.u64 d)) (ST.node (SV.agg [SC.int false IntKind.u64 b, SC.int false IntKind.i64 (smF c), SC.int false IntKind.u64 d, SC.int false IntKind.i64 (smF e), SC.int false
    IntKind.i64 (smF f), SC.int false IntKind.u64 g, SC.int false IntKind.i64 (smF h)]) ST.nil ST.nil) ST.nil) (ST.node (SV.c (SC.int false IntKind.i64 (smF f))) (ST.node (SV.tup [])
    ST.nil ST.nil) ST.nil)))) (ST.node (SV.c (SC.int true IntKind.u64 (0 : Int))) (ST.node (SV.c (SC.boo true false)) (ST.node (SV.c (SC.sli (0 : Nat) (1 : Nat) true (0 : Nat) true (8 :
    Nat) (8 : Nat))) (ST.node (SV.c (SC.ptr (0 : Nat) (2 : Nat))) (ST.node (SV.c (SC.int false IntKind.u64 g)) ST.nil ST.nil) (ST.node (SV.tup []) ST.nil ST.nil)) (ST.node (SV.c (SC.int
    false IntKind.u64 e)) (ST.node (SV.tup []) ST.nil ST.nil) ST.nil)) (ST.node (SV.c (SC.sli (0 : Nat) (1 : Nat) true (0 : Nat) true (8 : Nat) (8 : Nat))) (ST.node (SV.c (SC.ptr (0 :
    Nat) (3 : Nat))) (ST.node (SV.c (SC.int false IntKind.i64 (smF h))) ST.nil ST.nil) (ST.node (SV.tup []) ST.nil ST.nil)) (ST.node (SV.c (SC.int false IntKind.u64 f)) (ST.node (SV.tup
    []) ST.nil ST.nil) ST.nil))) (ST.node (SV.tup []) (ST.node (SV.c (SC.boo true false)) (ST.node (SV.c (SC.int false IntKind.i64 (smF c))) (ST.node (SV.c (SC.ptr (0 : Nat) (7 : Nat)))
    ST.nil ST.nil) (ST.node (SV.tup []) ST.nil ST.nil)) (ST.node (SV.c (SC.sli (0 : Nat) (1 : Nat) true (0 : Nat) true (8 : Nat) (8 : Nat))) (ST.node (SV.tup []) ST.nil ST.nil) ST.nil))
    (ST.node (SV.c (SC.int false IntKind.u64 b)) (ST.node (SV.c (SC.sli (0 : Nat) (1 : Nat) true (0 : Nat) true (8 : Nat) (8 : Nat))) (ST.node (SV.tup []) ST.nil ST.nil) ST.nil)
    (ST.node (SV.c (SC.sli (0 : Nat) (1 : Nat) true (0 : Nat) true (8 : Nat) (8 : Nat))) (ST.node (SV.tup []) ST.nil ST.nil) ST.nil))))) []) (Mem.mk [((0 : Nat), SO.cells [SC.int false
    IntKind.u64 a, SC.int false IntKind.u64 b, SC.int false IntKind.u64 c, SC.int false IntKind.u64 d, SC.int false IntKind.u64 e, SC.int false IntKind.u64 f, SC.int false IntKind.u64
    g, SC.int false IntKind.u64 h] (OfNat.ofNat (25 : Nat))), ((101 : Nat), SO.cells [SC.int true IntKind.u64 (0 : Int), SC.int true IntKind.i64 (0 : Int), SC.int true IntKind.u64 (0 :
    Int), SC.int true IntKind.i64 (0 : Int), SC.int true IntKind.i64 (0 : Int), SC.int true IntKind.u64 (0 : Int), SC.int true IntKind.i64 (0 : Int)] (75 : Nat)), ((132 : Nat), SO.cells
    [SC.int false IntKind.u64 b, SC.int false IntKind.i64 (smF c), SC.int false IntKind.u64 d, SC.int false IntKind.i64 (smF e), SC.int false IntKind.i64 (smF f), SC.int false
    IntKind.u64 g, SC.int false IntKind.i64 (smF h)] (75 : Nat))] (134 : Nat)) Scr.nil ∧ True) ∧ True) ∧ True) ∧ True) ∧ True) ∧ True) ∧ True) ∧ True) ∧ True) ∧ True) := by
  kernel_rfl
theorem read8_run (a b c d e f g h : Int) (hc : (0 ≤ a ∧ a ≤ 18446744073709551615) ∧ (0 ≤ b ∧ b ≤ 18446744073709551615) ∧ (0 ≤ c ∧ c ≤ 18446744073709551615) ∧ (0 ≤ d ∧ d ≤ 18446744073709551615) ∧ (0 ≤ e ∧ e ≤ 18446744073709551615) ∧ (0 ≤ f ∧ f ≤ 18446744073709551615) ∧ (0 ≤ g ∧ g ≤ 18446744073709551615) ∧ (0 ≤ h ∧ h ≤ 18446744073709551615)) : Run (callN Try.prog (tblK : List (Smry Try.prog XE)) (fun _ _ => false) 100 20 40 [.c (.sli 0 1 true 0 true 8 8)] ⟨[(0, .cells (row8w a b c d e f g h) 25)], 100⟩ (.nil) (fun v m _ => outM (rdRes a b c d e f g h) [(0, .cells (row8w a b c d e f g h) 25)] v m)) := by
  constructor
  rw [read8_vc]
  obtain ⟨h0, h1, h2, h3, h4, h5, h6, h7⟩ := hc

  repeat' first
    | with_reducible apply And.intro
    | with_reducible exact trivial
    | with_reducible assumption
    | with_reducible exact Eq.refl _
    | (intro (K : KO XE); simp only [eq_self, true_and, and_true, forall_const, true_implies, and_imp]; intros; (repeat' first | with_reducible apply And.intro | with_reducible assumption); done)
    | intro hh
  all_goals first
    | omega
    | (unfold rdB8; first | assumption | exact if_pos (by assumption) | exact if_neg (by rw [‹headB _ _ _ _ _ _ _ _ = false›]; exact Bool.false_ne_true))
    | skip
def in64 (x : Int) : Bool := leI 0 x && leI x 18446744073709551615
theorem in64_ok {x : Int} (h : in64 x = true) : 0 ≤ x ∧ x ≤ 18446744073709551615 := by
  unfold in64 at h
  simp only [Bool.and_eq_true] at h
  exact ⟨leI_le h.1, leI_le h.2⟩
/-- A head whose words are known, read. -/
def read8K : Smry Try.prog XE where
  g := 40
  run := fun args m K => match args with
    | [.c (.sli s 1 _ 0 _ 8 8)] => match m.hp.get s with
      | some (.cells [.int _ .u64 a _, .int _ .u64 b _, .int _ .u64 c _, .int _ .u64 d _, .int _ .u64 e _, .int _ .u64 f _, .int _ .u64 g _, .int _ .u64 h _] T) => bif Nat.beq T 25 && (in64 a && (in64 b && (in64 c && (in64 d && (in64 e && (in64 f && (in64 g && in64 h))))))) then knV (fun v => K v m) (rdRes a b c d e f g h) else Stuck 870
      | _ => Stuck 871
    | _ => Stuck 872
  ok := fun args m K hr => by
    split at hr <;> try exact hr.elim
    rename_i s lo ll
    split at hr <;> try exact hr.elim
    rename_i l0 a b0 l1 b b1 l2 c b2 l3 d b3 l4 e b4 l5 f b5 l6 g b6 l7 h b7 T hS
    cases hb : Nat.beq T 25 && (in64 a && (in64 b && (in64 c && (in64 d && (in64 e && (in64 f && (in64 g && in64 h))))))) <;> rw [hb] at hr
    · exact hr.elim
    simp only [cond_true] at hr
    simp only [Bool.and_eq_true] at hb
    obtain ⟨hT, ha, hb', hc, hd, he, hf, hg, hh⟩ := hb
    have hT := Nat.eq_of_beq_eq_true hT
    subst hT
    obtain ⟨u, hu, eu⟩ := knV_of hr
    intro ν w R w0 Hs HK
    rw [SH.den_get ν hS, Assn.mul_assoc] at Hs
    have H1 : Sat w ((⟨[(0, .cells (row8w a b c d e f g h) 25)], 100⟩ : Mem XE).hp.den (fun _ => ν s) * ((m.hp.del s).den ν * R)) := by
      refine Hs.cast ?_
      simp only [SH.den]
      rw [Assn.mul_comm _ (1 : Assn), Assn.one_mul]
      rfl
    have hrun := callN_ok namesOk mixed _ _ _ _ _ _ _ _ _ (read8_run a b c d e f g h ⟨in64_ok ha, in64_ok hb', in64_ok hc, in64_ok hd, in64_ok he, in64_ok hf, in64_ok hg, in64_ok hh⟩).out (fun _ => ν s) w _ w0 H1 HK
    refine Calls.mono (hrun : Calls Try.prog 40 (List.map (SV.den ν) [.c (.sli s 1 lo 0 ll 8 8)]).toArray w _) ?_
    rintro e' w' ⟨r, m', s', ξ, hv, ag, _, he', hs, hk⟩
    obtain ⟨κ, ag2, hd2, hs2⟩ := outM_sound hv hs
    refine ⟨u, m, ν, hu, Agree.refl _ _, Nat.le_refl _, by rw [he', hd2, eu]; rfl, ?_, hk⟩
    rw [SH.den_get ν hS, Assn.mul_assoc]
    simp only [SH.den] at hs2
    rw [Assn.mul_comm _ (1 : Assn), Assn.one_mul, ag2 0 (by decide), ag 0 (show 0 < 100 by decide)] at hs2
    exact hs2
end Go.Proofs.Ytcmoffcaiepgbaa
