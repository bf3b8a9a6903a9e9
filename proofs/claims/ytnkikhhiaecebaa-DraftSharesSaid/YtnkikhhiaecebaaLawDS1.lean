/- DraftShares, code 1. -/
import Derived.Test.YtnkikhhiaecebaaDsT
import Derived.Test.YtnkikhhiaecebaaBaseC
set_option linter.all false
namespace Go.Proofs.Ytnkikhhiaecebaa
open Go Go.RowKit
set_option maxRecDepth 1000000
set_option maxHeartbeats 0
def ds1_28 (d e : Int) : Prop := (0 : Int) ≤ dkF ((d + e) % (256 : Int)) (3 : Int) ∧ dkF ((d + e) % (256 : Int)) (3 : Int) < (4 : Int)
def ds1_1 (d e : Int) (g_1 g_2 g_3 : Nat → Value) (X0 : Prop) : Prop := ((if (dkF ((d + e) % (256 : Int)) (0 : Int)).toNat = 0 then (0 : Int) else (0 : Int)) = if (dkF ((d + e) %
 (256 : Int)) (0 : Int)).toNat = 0 then (0 : Int) else (0 : Int)) ∧ ((if (dkF ((d + e) % (256 : Int)) (0 : Int)).toNat = 1 then (0 : Int) else (0 : Int)) = if (dkF ((d + e) % (256 :
 Int)) (0 : Int)).toNat = 1 then (0 : Int) else (0 : Int)) ∧ ((if (dkF ((d + e) % (256 : Int)) (0 : Int)).toNat = 2 then (0 : Int) else (0 : Int)) = if (dkF ((d + e) % (256 : Int))
 (0 : Int)).toNat = 2 then (0 : Int) else (0 : Int)) ∧ ((if (dkF ((d + e) % (256 : Int)) (0 : Int)).toNat = 3 then (0 : Int) else (0 : Int)) = if (dkF ((d + e) % (256 : Int)) (0 :
 Int)).toNat = 3 then (0 : Int) else (0 : Int)) ∧ g_1 0 = g_1 0 ∧ g_1 1 = g_1 1 ∧ g_1 2 = g_1 2 ∧ g_1 3 = g_1 3 ∧ ((if (dkF ((d + e) % (256 : Int)) (1 : Int)).toNat = 0 then (0 :
 Int) else (0 : Int)) = if (dkF ((d + e) % (256 : Int)) (1 : Int)).toNat = 0 then (0 : Int) else (0 : Int)) ∧ ((if (dkF ((d + e) % (256 : Int)) (1 : Int)).toNat = 1 then (0 : Int)
 else (0 : Int)) = if (dkF ((d + e) % (256 : Int)) (1 : Int)).toNat = 1 then (0 : Int) else (0 : Int)) ∧ ((if (dkF ((d + e) % (256 : Int)) (1 : Int)).toNat = 2 then (0 : Int) else (0
 : Int)) = if (dkF ((d + e) % (256 : Int)) (1 : Int)).toNat = 2 then (0 : Int) else (0 : Int)) ∧ ((if (dkF ((d + e) % (256 : Int)) (1 : Int)).toNat = 3 then (0 : Int) else (0 : Int))
 = if (dkF ((d + e) % (256 : Int)) (1 : Int)).toNat = 3 then (0 : Int) else (0 : Int)) ∧ g_2 0 = g_2 0 ∧ g_2 1 = g_2 1 ∧ g_2 2 = g_2 2 ∧ g_2 3 = g_2 3 ∧ ((if (dkF ((d + e) % (256 :
 Int)) (2 : Int)).toNat = 0 then (0 : Int) else (0 : Int)) = if (dkF ((d + e) % (256 : Int)) (2 : Int)).toNat = 0 then (0 : Int) else (0 : Int)) ∧ ((if (dkF ((d + e) % (256 : Int))
 (2 : Int)).toNat = 1 then (0 : Int) else (0 : Int)) = if (dkF ((d + e) % (256 : Int)) (2 : Int)).toNat = 1 then (0 : Int) else (0 : Int)) ∧ ((if (dkF ((d + e) % (256 : Int)) (2 :
 Int)).toNat = 2 then (0 : Int) else (0 : Int)) = if (dkF ((d + e) % (256 : Int)) (2 : Int)).toNat = 2 then (0 : Int) else (0 : Int)) ∧ ((if (dkF ((d + e) % (256 : Int)) (2 :
 Int)).toNat = 3 then (0 : Int) else (0 : Int)) = if (dkF ((d + e) % (256 : Int)) (2 : Int)).toNat = 3 then (0 : Int) else (0 : Int)) ∧ g_3 0 = g_3 0 ∧ g_3 1 = g_3 1 ∧ g_3 2 = g_3 2
 ∧ g_3 3 = g_3 3 ∧ ((ds1_28 d e) ∧ (dkF ((d + e) % (256 : Int)) (3 : Int)).toNat < 4 ∧ ((if (dkF ((d + e) % (256 : Int)) (0 : Int)).toNat = 0 then (0 : Int) else (0 : Int)) = if (dkF
 ((d + e) % (256 : Int)) (0 : Int)).toNat = 0 then (0 : Int) else (0 : Int)) ∧ ((if (dkF ((d + e) % (256 : Int)) (0 : Int)).toNat = 1 then (0 : Int) else (0 : Int)) = if (dkF ((d +
 e) % (256 : Int)) (0 : Int)).toNat = 1 then (0 : Int) else (0 : Int)) ∧ ((if (dkF ((d + e) % (256 : Int)) (0 : Int)).toNat = 2 then (0 : Int) else (0 : Int)) = if (dkF ((d + e) %
 (256 : Int)) (0 : Int)).toNat = 2 then (0 : Int) else (0 : Int)) ∧ ((if (dkF ((d + e) % (256 : Int)) (0 : Int)).toNat = 3 then (0 : Int) else (0 : Int)) = if (dkF ((d + e) % (256 :
 Int)) (0 : Int)).toNat = 3 then (0 : Int) else (0 : Int)) ∧ g_1 0 = g_1 0 ∧ g_1 1 = g_1 1 ∧ g_1 2 = g_1 2 ∧ g_1 3 = g_1 3 ∧ ((if (dkF ((d + e) % (256 : Int)) (1 : Int)).toNat = 0
 then (0 : Int) else (0 : Int)) = if (dkF ((d + e) % (256 : Int)) (1 : Int)).toNat = 0 then (0 : Int) else (0 : Int)) ∧ ((if (dkF ((d + e) % (256 : Int)) (1 : Int)).toNat = 1 then (0
 : Int) else (0 : Int)) = if (dkF ((d + e) % (256 : Int)) (1 : Int)).toNat = 1 then (0 : Int) else (0 : Int)) ∧ ((if (dkF ((d + e) % (256 : Int)) (1 : Int)).toNat = 2 then (0 : Int)
 else (0 : Int)) = if (dkF ((d + e) % (256 : Int)) (1 : Int)).toNat = 2 then (0 : Int) else (0 : Int)) ∧ ((if (dkF ((d + e) % (256 : Int)) (1 : Int)).toNat = 3 then (0 : Int) else (0
 : Int)) = if (dkF ((d + e) % (256 : Int)) (1 : Int)).toNat = 3 then (0 : Int) else (0 : Int)) ∧ g_2 0 = g_2 0 ∧ g_2 1 = g_2 1 ∧ g_2 2 = g_2 2 ∧ g_2 3 = g_2 3 ∧ ((if (dkF ((d + e) %
 (256 : Int)) (2 : Int)).toNat = 0 then (0 : Int) else (0 : Int)) = if (dkF ((d + e) % (256 : Int)) (2 : Int)).toNat = 0 then (0 : Int) else (0 : Int)) ∧ ((if (dkF ((d + e) % (256 :
 Int)) (2 : Int)).toNat = 1 then (0 : Int) else (0 : Int)) = if (dkF ((d + e) % (256 : Int)) (2 : Int)).toNat = 1 then (0 : Int) else (0 : Int)) ∧ ((if (dkF ((d + e) % (256 : Int))
 (2 : Int)).toNat = 2 then (0 : Int) else (0 : Int)) = if (dkF ((d + e) % (256 : Int)) (2 : Int)).toNat = 2 then (0 : Int) else (0 : Int)) ∧ ((if (dkF ((d + e) % (256 : Int)) (2 :
 Int)).toNat = 3 then (0 : Int) else (0 : Int)) = if (dkF ((d + e) % (256 : Int)) (2 : Int)).toNat = 3 then (0 : Int) else (0 : Int)) ∧ g_3 0 = g_3 0 ∧ g_3 1 = g_3 1 ∧ g_3 2 = g_3 2
 ∧ g_3 3 = g_3 3 ∧ X0 ∧ True) ∧ True
def ds1_17 (a b f g : Int) : Prop := ((a != a) = true → false = true) ∧ ((a != a) = false → ((b != b) = true → false = true) ∧ ((b != b) = false → ((f != f) = true → false = true) ∧
 ((f != f) = false → ((g != g) = true → false = true) ∧ ((g != g) = false → true = true))))
def ds1_2 (d e : Int) (g_1 g_2 g_3 : Nat → Value) (p a b f g : Int) : Prop := ((if (dkF ((d + e) % (256 : Int)) (0 : Int)).toNat = 0 then (0 : Int) else (0 : Int)) = if (dkF ((d +
 e) % (256 : Int)) (0 : Int)).toNat = 0 then (0 : Int) else (0 : Int)) ∧ ((if (dkF ((d + e) % (256 : Int)) (0 : Int)).toNat = 1 then (0 : Int) else (0 : Int)) = if (dkF ((d + e) %
 (256 : Int)) (0 : Int)).toNat = 1 then (0 : Int) else (0 : Int)) ∧ ((if (dkF ((d + e) % (256 : Int)) (0 : Int)).toNat = 2 then (0 : Int) else (0 : Int)) = if (dkF ((d + e) % (256 :
 Int)) (0 : Int)).toNat = 2 then (0 : Int) else (0 : Int)) ∧ ((if (dkF ((d + e) % (256 : Int)) (0 : Int)).toNat = 3 then (0 : Int) else (0 : Int)) = if (dkF ((d + e) % (256 : Int))
 (0 : Int)).toNat = 3 then (0 : Int) else (0 : Int)) ∧ g_1 0 = g_1 0 ∧ g_1 1 = g_1 1 ∧ g_1 2 = g_1 2 ∧ g_1 3 = g_1 3 ∧ ((if (dkF ((d + e) % (256 : Int)) (1 : Int)).toNat = 0 then (0
 : Int) else (0 : Int)) = if (dkF ((d + e) % (256 : Int)) (1 : Int)).toNat = 0 then (0 : Int) else (0 : Int)) ∧ ((if (dkF ((d + e) % (256 : Int)) (1 : Int)).toNat = 1 then (0 : Int)
 else (0 : Int)) = if (dkF ((d + e) % (256 : Int)) (1 : Int)).toNat = 1 then (0 : Int) else (0 : Int)) ∧ ((if (dkF ((d + e) % (256 : Int)) (1 : Int)).toNat = 2 then (0 : Int) else (0
 : Int)) = if (dkF ((d + e) % (256 : Int)) (1 : Int)).toNat = 2 then (0 : Int) else (0 : Int)) ∧ ((if (dkF ((d + e) % (256 : Int)) (1 : Int)).toNat = 3 then (0 : Int) else (0 : Int))
 = if (dkF ((d + e) % (256 : Int)) (1 : Int)).toNat = 3 then (0 : Int) else (0 : Int)) ∧ g_2 0 = g_2 0 ∧ g_2 1 = g_2 1 ∧ g_2 2 = g_2 2 ∧ g_2 3 = g_2 3 ∧ ((if (dkF ((d + e) % (256 :
 Int)) (2 : Int)).toNat = 0 then (0 : Int) else (0 : Int)) = if (dkF ((d + e) % (256 : Int)) (2 : Int)).toNat = 0 then (0 : Int) else (0 : Int)) ∧ ((if (dkF ((d + e) % (256 : Int))
 (2 : Int)).toNat = 1 then (0 : Int) else (0 : Int)) = if (dkF ((d + e) % (256 : Int)) (2 : Int)).toNat = 1 then (0 : Int) else (0 : Int)) ∧ ((if (dkF ((d + e) % (256 : Int)) (2 :
 Int)).toNat = 2 then (0 : Int) else (0 : Int)) = if (dkF ((d + e) % (256 : Int)) (2 : Int)).toNat = 2 then (0 : Int) else (0 : Int)) ∧ ((if (dkF ((d + e) % (256 : Int)) (2 :
 Int)).toNat = 3 then (0 : Int) else (0 : Int)) = if (dkF ((d + e) % (256 : Int)) (2 : Int)).toNat = 3 then (0 : Int) else (0 : Int)) ∧ g_3 0 = g_3 0 ∧ g_3 1 = g_3 1 ∧ g_3 2 = g_3 2
 ∧ g_3 3 = g_3 3 ∧ (True ∧ (∀ (z : Un), True → ((if (dkF ((d + e) % (256 : Int)) (0 : Int)).toNat = 0 then (0 : Int) else (0 : Int)) = if (dkF ((d + e) % (256 : Int)) (0 :
 Int)).toNat = 0 then (0 : Int) else (0 : Int)) ∧ ((if (dkF ((d + e) % (256 : Int)) (0 : Int)).toNat = 1 then (0 : Int) else (0 : Int)) = if (dkF ((d + e) % (256 : Int)) (0 :
 Int)).toNat = 1 then (0 : Int) else (0 : Int)) ∧ ((if (dkF ((d + e) % (256 : Int)) (0 : Int)).toNat = 2 then (0 : Int) else (0 : Int)) = if (dkF ((d + e) % (256 : Int)) (0 :
 Int)).toNat = 2 then (0 : Int) else (0 : Int)) ∧ ((if (dkF ((d + e) % (256 : Int)) (0 : Int)).toNat = 3 then (0 : Int) else (0 : Int)) = if (dkF ((d + e) % (256 : Int)) (0 :
 Int)).toNat = 3 then (0 : Int) else (0 : Int)) ∧ g_1 0 = g_1 0 ∧ g_1 1 = g_1 1 ∧ g_1 2 = g_1 2 ∧ g_1 3 = g_1 3 ∧ ((if (dkF ((d + e) % (256 : Int)) (1 : Int)).toNat = 0 then (0 :
 Int) else (0 : Int)) = if (dkF ((d + e) % (256 : Int)) (1 : Int)).toNat = 0 then (0 : Int) else (0 : Int)) ∧ ((if (dkF ((d + e) % (256 : Int)) (1 : Int)).toNat = 1 then (0 : Int)
 else (0 : Int)) = if (dkF ((d + e) % (256 : Int)) (1 : Int)).toNat = 1 then (0 : Int) else (0 : Int)) ∧ ((if (dkF ((d + e) % (256 : Int)) (1 : Int)).toNat = 2 then (0 : Int) else (0
 : Int)) = if (dkF ((d + e) % (256 : Int)) (1 : Int)).toNat = 2 then (0 : Int) else (0 : Int)) ∧ ((if (dkF ((d + e) % (256 : Int)) (1 : Int)).toNat = 3 then (0 : Int) else (0 : Int))
 = if (dkF ((d + e) % (256 : Int)) (1 : Int)).toNat = 3 then (0 : Int) else (0 : Int)) ∧ g_2 0 = g_2 0 ∧ g_2 1 = g_2 1 ∧ g_2 2 = g_2 2 ∧ g_2 3 = g_2 3 ∧ ((if (dkF ((d + e) % (256 :
 Int)) (2 : Int)).toNat = 0 then (0 : Int) else (0 : Int)) = if (dkF ((d + e) % (256 : Int)) (2 : Int)).toNat = 0 then (0 : Int) else (0 : Int)) ∧ ((if (dkF ((d + e) % (256 : Int))
 (2 : Int)).toNat = 1 then (0 : Int) else (0 : Int)) = if (dkF ((d + e) % (256 : Int)) (2 : Int)).toNat = 1 then (0 : Int) else (0 : Int)) ∧ ((if (dkF ((d + e) % (256 : Int)) (2 :
 Int)).toNat = 2 then (0 : Int) else (0 : Int)) = if (dkF ((d + e) % (256 : Int)) (2 : Int)).toNat = 2 then (0 : Int) else (0 : Int)) ∧ ((if (dkF ((d + e) % (256 : Int)) (2 :
 Int)).toNat = 3 then (0 : Int) else (0 : Int)) = if (dkF ((d + e) % (256 : Int)) (2 : Int)).toNat = 3 then (0 : Int) else (0 : Int)) ∧ g_3 0 = g_3 0 ∧ g_3 1 = g_3 1 ∧ g_3 2 = g_3 2
 ∧ g_3 3 = g_3 3 ∧ ((ds1_28 d e) ∧ (dkF ((d + e) % (256 : Int)) (3 : Int)).toNat < 4 ∧ ((if (dkF ((d + e) % (256 : Int)) (0 : Int)).toNat = 0 then (0 : Int) else (0 : Int)) = if (dkF
 ((d + e) % (256 : Int)) (0 : Int)).toNat = 0 then (0 : Int) else (0 : Int)) ∧ ((if (dkF ((d + e) % (256 : Int)) (0 : Int)).toNat = 1 then (0 : Int) else (0 : Int)) = if (dkF ((d +
 e) % (256 : Int)) (0 : Int)).toNat = 1 then (0 : Int) else (0 : Int)) ∧ ((if (dkF ((d + e) % (256 : Int)) (0 : Int)).toNat = 2 then (0 : Int) else (0 : Int)) = if (dkF ((d + e) %
 (256 : Int)) (0 : Int)).toNat = 2 then (0 : Int) else (0 : Int)) ∧ ((if (dkF ((d + e) % (256 : Int)) (0 : Int)).toNat = 3 then (0 : Int) else (0 : Int)) = if (dkF ((d + e) % (256 :
 Int)) (0 : Int)).toNat = 3 then (0 : Int) else (0 : Int)) ∧ g_1 0 = g_1 0 ∧ g_1 1 = g_1 1 ∧ g_1 2 = g_1 2 ∧ g_1 3 = g_1 3 ∧ ((if (dkF ((d + e) % (256 : Int)) (1 : Int)).toNat = 0
 then (0 : Int) else (0 : Int)) = if (dkF ((d + e) % (256 : Int)) (1 : Int)).toNat = 0 then (0 : Int) else (0 : Int)) ∧ ((if (dkF ((d + e) % (256 : Int)) (1 : Int)).toNat = 1 then (0
 : Int) else (0 : Int)) = if (dkF ((d + e) % (256 : Int)) (1 : Int)).toNat = 1 then (0 : Int) else (0 : Int)) ∧ ((if (dkF ((d + e) % (256 : Int)) (1 : Int)).toNat = 2 then (0 : Int)
 else (0 : Int)) = if (dkF ((d + e) % (256 : Int)) (1 : Int)).toNat = 2 then (0 : Int) else (0 : Int)) ∧ ((if (dkF ((d + e) % (256 : Int)) (1 : Int)).toNat = 3 then (0 : Int) else (0
 : Int)) = if (dkF ((d + e) % (256 : Int)) (1 : Int)).toNat = 3 then (0 : Int) else (0 : Int)) ∧ g_2 0 = g_2 0 ∧ g_2 1 = g_2 1 ∧ g_2 2 = g_2 2 ∧ g_2 3 = g_2 3 ∧ ((if (dkF ((d + e) %
 (256 : Int)) (2 : Int)).toNat = 0 then (0 : Int) else (0 : Int)) = if (dkF ((d + e) % (256 : Int)) (2 : Int)).toNat = 0 then (0 : Int) else (0 : Int)) ∧ ((if (dkF ((d + e) % (256 :
 Int)) (2 : Int)).toNat = 1 then (0 : Int) else (0 : Int)) = if (dkF ((d + e) % (256 : Int)) (2 : Int)).toNat = 1 then (0 : Int) else (0 : Int)) ∧ ((if (dkF ((d + e) % (256 : Int))
 (2 : Int)).toNat = 2 then (0 : Int) else (0 : Int)) = if (dkF ((d + e) % (256 : Int)) (2 : Int)).toNat = 2 then (0 : Int) else (0 : Int)) ∧ ((if (dkF ((d + e) % (256 : Int)) (2 :
 Int)).toNat = 3 then (0 : Int) else (0 : Int)) = if (dkF ((d + e) % (256 : Int)) (2 : Int)).toNat = 3 then (0 : Int) else (0 : Int)) ∧ g_3 0 = g_3 0 ∧ g_3 1 = g_3 1 ∧ g_3 2 = g_3 2
 ∧ g_3 3 = g_3 3 ∧ (((false == ((if (dkF ((d + e) % (256 : Int)) (3 : Int)).toNat = 0 then p + (1 : Int) else (0 : Int)) == (0 : Int) && ((if (dkF ((d + e) % (256 : Int)) (3 :
 Int)).toNat = 1 then p + (1 : Int) else (0 : Int)) == (0 : Int) && ((if (dkF ((d + e) % (256 : Int)) (3 : Int)).toNat = 2 then p + (1 : Int) else (0 : Int)) == (0 : Int) && ((if
 (dkF ((d + e) % (256 : Int)) (3 : Int)).toNat = 3 then p + (1 : Int) else (0 : Int)) == (0 : Int) && true))))) = true → ((((-9223372036854775808 : Int) ≤ e + (1 : Int) ∧ e + (1 :
 Int) ≤ (9223372036854775807 : Int)) ∧ True ∧ True ∧ 1 ≤ 1000000000 ∧ ∀ (cap : Nat), 1 ≤ cap → cap = cap ∧ True ∧ 2 ≤ 1000000000 ∧ ∀ (cap : Nat), 2 ≤ cap → cap = cap ∧ True ∧ 3 ≤
 1000000000 ∧ ∀ (cap : Nat), 3 ≤ cap → cap = cap ∧ True ∧ 4 ≤ 1000000000 ∧ ∀ (cap : Nat), 4 ≤ cap → ds1_17 a b f g) ∧ True) ∧ True) ∧ ((false == ((if (dkF ((d + e) % (256 : Int)) (3
 : Int)).toNat = 0 then p + (1 : Int) else (0 : Int)) == (0 : Int) && ((if (dkF ((d + e) % (256 : Int)) (3 : Int)).toNat = 1 then p + (1 : Int) else (0 : Int)) == (0 : Int) && ((if
 (dkF ((d + e) % (256 : Int)) (3 : Int)).toNat = 2 then p + (1 : Int) else (0 : Int)) == (0 : Int) && ((if (dkF ((d + e) % (256 : Int)) (3 : Int)).toNat = 3 then p + (1 : Int) else
 (0 : Int)) == (0 : Int) && true))))) = false → Stuck 131)) ∧ True) ∧ True) ∧ True) ∧ True
def ds1_11  : List SC := [SC.int true .u64 (0 : Int), SC.int true .u64 (0 : Int), SC.int true .u64 (0 : Int), SC.int true .u64 (0 : Int)]
def ds1_3 (c d e : Int) : SF := SF.mk 50 (np 95 0 (nv (SV.agg [SC.int false .u64 c, SC.raw (Value.pointer none)]) (nu (nv (SV.c (tb false)) (nu (np 95 10 tn tn) nu0) (nu nu0 tn))
 (nv (SV.c (SC.raw (Value.pointer none))) (nu (nv (SV.tup [(true, (ds1_11)), (false, [tb false])]) tn tn) tn) (nu nu0 tn))) (nu (nv (SV.c (tb false)) (nu (np 238 0 tn tn) nu0) (nu
 nu0 tn)) (nu (nu (nv (SV.c (tb false)) tn tn) tn) (np 95 0 nu0 tn)))) (nv (SV.c (SC.int false .i64 (dkF ((d + e) % (256 : Int)) (0 : Int)) (Bd.w (0 : Int) (3 : Int) (dkF_bd ((d + e)
 % (256 : Int)) (Int.ofNat 0))))) (np 238 0 (np 254 0 (nu (nv (SV.c (SC.map 93)) tn tn) nu0) (nu nu0 tn)) (nv (SV.c (tb false)) (nu (nv (SV.agg (ds1_11)) tn tn) tn) (nv (SV.tup
 [(true, (ds1_11)), (false, [tb false])]) nu0 tn))) (np 239 0 (np 238 1 (nu (nv (SV.c (SC.int false .u64 c)) tn tn) tn) (nu nu0 tn)) (nu (nu nu0 tn) (np 95 0 nu0 tn))))) []
def ds1_4 (k : Int) (hk : 0 ≤ k ∧ k ≤ 255) (p : Int) (hp : 0 ≤ p ∧ p ≤ 1023) (q : Int) (hq : 0 ≤ q ∧ q ≤ 1023) : List SC := [SC.int true .i64 (1 : Int), SC.int false .i64 k (Bd.w (0
 : Int) (255 : Int) hk), SC.int false .i64 p (Bd.w (0 : Int) (1023 : Int) hp), SC.int false .i64 q (Bd.w (0 : Int) (1023 : Int) hq)]
def ds1_5 (a b c d e f g : Int) : List SC := [SC.int false .u64 a, SC.int false .i64 b, SC.int false .u64 c, SC.int false .i64 d, SC.int false .i64 e, SC.int false .u64 f, SC.int
 false .i64 g]
def ds1_16 (d e : Int) : SV := SV.c (SC.int false .i64 ((d + e) % (256 : Int)) (Bd.w (0 : Int) (255 : Int) (mod_bd Bd.of._proof_1 rfl)))
def ds1_6 (c d e : Int) : SF := SF.mk 40 (np 95 0 (nv (SV.c (SC.int true .i64 (1 : Int))) (nu (nv (SV.c (tb false)) (np 95 7 (nv (SV.tup [(true, [SC.int true .u64 (0 : Int), SC.raw
 (Value.pointer none)]), (false, [tb false])]) tn tn) tn) (nv (SV.agg [SC.int false .u64 c, SC.raw (Value.pointer none)]) nu0 tn)) (nv (SV.c (tb false)) (nv (SV.agg [SC.int false
 .u64 c, SC.raw (Value.pointer none)]) nu0 tn) (nv (SV.agg [SC.int false .u64 c, SC.raw (Value.pointer none)]) tn tn))) (nu (nv (SV.c (SC.int true .i64 (0 : Int))) (np 87 0 (nv (SV.c
 (tb false)) tn tn) tn) (nv (SV.tup [(true, [SC.int true .u64 (0 : Int), SC.raw (Value.pointer none)]), (false, [tb false])]) tn tn)) (nv (SV.c (SC.int true .i64 (1 : Int))) (nv
 (SV.c (tb true)) nu0 tn) (nv (SV.c (SC.int true .i64 (0 : Int))) tn tn)))) (nv (ds1_16 d e) (nu (np 207 0 (np 95 8 (nv (SV.agg [SC.int true .u64 (0 : Int), SC.raw (Value.pointer
 none)]) tn tn) tn) (nv (SV.c (tb false)) tn tn)) (np 95 0 (nv (SV.c (SC.int true .i64 (0 : Int))) nu0 tn) (nv (ds1_16 d e) tn tn))) (nv (SV.c (SC.int true .u64 (0 : Int))) (np 235 0
 (np 87 0 nu0 tn) (np 95 0 tn tn)) (np 95 0 (nv (SV.c (SC.int true .i64 (0 : Int))) nu0 tn) (nv (SV.c (SC.int false .i64 (dkF ((d + e) % (256 : Int)) (0 : Int)) (Bd.w (0 : Int) (3 :
 Int) (dkF_bd ((d + e) % (256 : Int)) (Int.ofNat 0))))) tn tn))))) []
def ds1_7 (a c f b d e g : Int) (X0 : Prop) : Prop := a = a ∧ Value.pointer none = Value.pointer none ∧ c = c ∧ Value.pointer none = Value.pointer none ∧ f = f ∧ Value.pointer none
 = Value.pointer none ∧ ([] : List (Int × Value)) = [] ∧ a = a ∧ b = b ∧ c = c ∧ d = d ∧ e = e ∧ f = f ∧ g = g ∧ c = c ∧ Value.pointer none = Value.pointer none ∧ (X0 ∧ True) ∧ True
def ds1_8 (d e p : Int) : List SC := [SC.int false .u64 (if (dkF ((d + e) % (256 : Int)) (3 : Int)).toNat = 0 then p + (1 : Int) else (0 : Int)) Bd.any, SC.int false .u64 (if (dkF
 ((d + e) % (256 : Int)) (3 : Int)).toNat = 1 then p + (1 : Int) else (0 : Int)) Bd.any, SC.int false .u64 (if (dkF ((d + e) % (256 : Int)) (3 : Int)).toNat = 2 then p + (1 : Int)
 else (0 : Int)) Bd.any, SC.int false .u64 (if (dkF ((d + e) % (256 : Int)) (3 : Int)).toNat = 3 then p + (1 : Int) else (0 : Int)) Bd.any]
def ds1_9 (d e : Int) (g_1 g_2 g_3 : Nat → Value) (X0 : Prop) : Prop := True ∧ (∀ (z : Un), True → ((if (dkF ((d + e) % (256 : Int)) (0 : Int)).toNat = 0 then (0 : Int) else (0 :
 Int)) = if (dkF ((d + e) % (256 : Int)) (0 : Int)).toNat = 0 then (0 : Int) else (0 : Int)) ∧ ((if (dkF ((d + e) % (256 : Int)) (0 : Int)).toNat = 1 then (0 : Int) else (0 : Int)) =
 if (dkF ((d + e) % (256 : Int)) (0 : Int)).toNat = 1 then (0 : Int) else (0 : Int)) ∧ ((if (dkF ((d + e) % (256 : Int)) (0 : Int)).toNat = 2 then (0 : Int) else (0 : Int)) = if (dkF
 ((d + e) % (256 : Int)) (0 : Int)).toNat = 2 then (0 : Int) else (0 : Int)) ∧ ((if (dkF ((d + e) % (256 : Int)) (0 : Int)).toNat = 3 then (0 : Int) else (0 : Int)) = if (dkF ((d +
 e) % (256 : Int)) (0 : Int)).toNat = 3 then (0 : Int) else (0 : Int)) ∧ g_1 0 = g_1 0 ∧ g_1 1 = g_1 1 ∧ g_1 2 = g_1 2 ∧ g_1 3 = g_1 3 ∧ ((if (dkF ((d + e) % (256 : Int)) (1 :
 Int)).toNat = 0 then (0 : Int) else (0 : Int)) = if (dkF ((d + e) % (256 : Int)) (1 : Int)).toNat = 0 then (0 : Int) else (0 : Int)) ∧ ((if (dkF ((d + e) % (256 : Int)) (1 :
 Int)).toNat = 1 then (0 : Int) else (0 : Int)) = if (dkF ((d + e) % (256 : Int)) (1 : Int)).toNat = 1 then (0 : Int) else (0 : Int)) ∧ ((if (dkF ((d + e) % (256 : Int)) (1 :
 Int)).toNat = 2 then (0 : Int) else (0 : Int)) = if (dkF ((d + e) % (256 : Int)) (1 : Int)).toNat = 2 then (0 : Int) else (0 : Int)) ∧ ((if (dkF ((d + e) % (256 : Int)) (1 :
 Int)).toNat = 3 then (0 : Int) else (0 : Int)) = if (dkF ((d + e) % (256 : Int)) (1 : Int)).toNat = 3 then (0 : Int) else (0 : Int)) ∧ g_2 0 = g_2 0 ∧ g_2 1 = g_2 1 ∧ g_2 2 = g_2 2
 ∧ g_2 3 = g_2 3 ∧ ((if (dkF ((d + e) % (256 : Int)) (2 : Int)).toNat = 0 then (0 : Int) else (0 : Int)) = if (dkF ((d + e) % (256 : Int)) (2 : Int)).toNat = 0 then (0 : Int) else (0
 : Int)) ∧ ((if (dkF ((d + e) % (256 : Int)) (2 : Int)).toNat = 1 then (0 : Int) else (0 : Int)) = if (dkF ((d + e) % (256 : Int)) (2 : Int)).toNat = 1 then (0 : Int) else (0 : Int))
 ∧ ((if (dkF ((d + e) % (256 : Int)) (2 : Int)).toNat = 2 then (0 : Int) else (0 : Int)) = if (dkF ((d + e) % (256 : Int)) (2 : Int)).toNat = 2 then (0 : Int) else (0 : Int)) ∧ ((if
 (dkF ((d + e) % (256 : Int)) (2 : Int)).toNat = 3 then (0 : Int) else (0 : Int)) = if (dkF ((d + e) % (256 : Int)) (2 : Int)).toNat = 3 then (0 : Int) else (0 : Int)) ∧ g_3 0 = g_3
 0 ∧ g_3 1 = g_3 1 ∧ g_3 2 = g_3 2 ∧ g_3 3 = g_3 3 ∧ (ds1_1 d e g_1 g_2 g_3 X0) ∧ True) ∧ True
def ds1_33 (c f a b d e g : Int) (X1 : Prop) : Prop := Value.pointer none = Value.pointer none ∧ c = c ∧ Value.pointer none = Value.pointer none ∧ f = f ∧ Value.pointer none =
 Value.pointer none ∧ ([] : List (Int × Value)) = [] ∧ a = a ∧ b = b ∧ c = c ∧ d = d ∧ e = e ∧ f = f ∧ g = g ∧ c = c ∧ Value.pointer none = Value.pointer none ∧ X1 ∧ True
def ds1_10 (a c f b d e g : Int) (X0 : Prop) (k : Int) (hk : 0 ≤ k ∧ k ≤ 255) (p : Int) (hp : 0 ≤ p ∧ p ≤ 1023) (q : Int) (hq : 0 ≤ q ∧ q ≤ 1023) : Prop := a = a ∧ Value.pointer
 none = Value.pointer none ∧ c = c ∧ Value.pointer none = Value.pointer none ∧ f = f ∧ Value.pointer none = Value.pointer none ∧ ([] : List (Int × Value)) = [] ∧ a = a ∧ b = b ∧ c =
 c ∧ d = d ∧ e = e ∧ f = f ∧ g = g ∧ c = c ∧ Value.pointer none = Value.pointer none ∧ (((ds1_7 a c f b d e g X0) ∧ True) ∧ (∀ (K : KO XN), (fun X1 : Prop => (a = a ∧ ds1_33 c f a b
 d e g X1) ∧ True → ds1_7 a c f b d e g X1) (K (ds1_3 c d e) (Mem.mk [(1, SO.cells (ds1_5 a b c d e f g) 75), (2, SO.cells (ds1_4 k hk p hp q hq) 77), (45, SO.cells (ds1_5 a b c d e
 f g) 75), (51, SO.cells (ds1_5 a b c d e f g) 75), (83, SO.cells [SC.int false .u64 a, SC.raw (Value.pointer none)] 199), (87, SO.cells [SC.int false .u64 c, SC.raw (Value.pointer
 none)] 199), (91, SO.cells [SC.int false .u64 f, SC.raw (Value.pointer none)] 199), (93, SO.mp true []), (95, SO.cells [SC.int false .u64 a, SC.int false .i64 b, SC.int false .u64
 c, SC.int false .i64 d, SC.int false .i64 e, SC.int false .u64 f, SC.int false .i64 g, sp 83 0, sp 87 0, sp 91 0, SC.map 93, SC.nls, SC.nls, SC.nls, SC.int true .u64 (0 : Int)]
 204), (109, SO.cells (ds1_4 k hk p hp q hq) 77), (110, SO.cells [SC.int true .i64 (0 : Int), SC.int true .i64 (0 : Int)] 82), (128, SO.cells [SC.int true .i64 (0 : Int), SC.int true
 .i64 (0 : Int)] 82), (137, SO.cells (ds1_4 k hk p hp q hq) 77), (138, SO.cells [SC.int true .i64 (0 : Int), SC.int true .i64 (0 : Int)] 82), (207, SO.cells [SC.int false .u64 c,
 SC.raw (Value.pointer none)] 199), (215, SO.cells [SC.int false .u64 c, SC.raw (Value.pointer none)] 199), (235, SO.cells [SC.int true .u64 (0 : Int), SC.raw (Value.pointer none)]
 199), (238, SO.cells [SC.int false .u64 c, SC.raw (Value.pointer none)] 199), (239, SO.cells [SC.int true .u64 (0 : Int), SC.raw (Value.pointer none)] 199), (254, SO.cells [SC.int
 true .u64 (0 : Int), SC.int true .u64 (0 : Int), SC.int true .u64 (0 : Int), SC.int true .u64 (0 : Int)] 87)] 244) Scr.nil)) ∧ True) ∧ True
def ds1_12 (a c f b d e g : Int) (X0 : Prop) : Prop := a = a ∧ ds1_33 c f a b d e g X0
def ds1_13 (a b c d e f g : Int) : List SC := [SC.int false .u64 a, SC.int false .i64 b, SC.int false .u64 c, SC.int false .i64 d, SC.int false .i64 e, SC.int false .u64 f, SC.int
 false .i64 g, sp 83 0, sp 87 0, sp 91 0, SC.map 93, SC.nls, SC.nls, SC.nls, SC.int true .u64 (0 : Int)]
def ds1_14 (d e : Int) : SV := SV.c (SC.int false .i64 (dkF ((d + e) % (256 : Int)) (2 : Int)) (Bd.w (0 : Int) (3 : Int) (dkF_bd ((d + e) % (256 : Int)) (Int.ofNat (1 + 1)))))
def ds1_15 (d e : Int) : SV := SV.c (SC.int false .i64 (dkF ((d + e) % (256 : Int)) (3 : Int)) (Bd.w (0 : Int) (3 : Int) (dkF_bd ((d + e) % (256 : Int)) (Int.ofNat (2 + 1)))))
def ds1_18 (a c f b d e g k : Int) (hk : 0 ≤ k ∧ k ≤ 255) (p : Int) (hp : 0 ≤ p ∧ p ≤ 1023) (q : Int) (hq : 0 ≤ q ∧ q ≤ 1023) : Prop := ∀ (K : KO XN), (fun X1 : Prop => (ds1_12 a c
 f b d e g X1) ∧ True → ds1_7 a c f b d e g X1) (K (ds1_3 c d e) (Mem.mk [(1, SO.cells (ds1_5 a b c d e f g) 75), (2, SO.cells (ds1_4 k hk p hp q hq) 77), (45, SO.cells (ds1_5 a b c
 d e f g) 75), (51, SO.cells (ds1_5 a b c d e f g) 75), (83, SO.cells [SC.int false .u64 a, SC.raw (Value.pointer none)] 199), (87, SO.cells [SC.int false .u64 c, SC.raw
 (Value.pointer none)] 199), (91, SO.cells [SC.int false .u64 f, SC.raw (Value.pointer none)] 199), (93, SO.mp true []), (95, SO.cells (ds1_13 a b c d e f g) 204), (109, SO.cells
 (ds1_4 k hk p hp q hq) 77), (110, SO.cells [SC.int true .i64 (0 : Int), SC.int true .i64 (0 : Int)] 82), (128, SO.cells [SC.int true .i64 (0 : Int), SC.int true .i64 (0 : Int)] 82),
 (137, SO.cells (ds1_4 k hk p hp q hq) 77), (138, SO.cells [SC.int true .i64 (0 : Int), SC.int true .i64 (0 : Int)] 82), (207, SO.cells [SC.int false .u64 c, SC.raw (Value.pointer
 none)] 199), (215, SO.cells [SC.int false .u64 c, SC.raw (Value.pointer none)] 199), (238, SO.cells [SC.int false .u64 c, SC.raw (Value.pointer none)] 199), (239, SO.cells [SC.int
 true .u64 (0 : Int), SC.raw (Value.pointer none)] 199), (254, SO.cells (ds1_11) 87)] 244) Scr.nil)
def ds1_19 (d e : Int) : Prop := (0 : Int) ≤ dkF ((d + e) % (256 : Int)) (0 : Int) ∧ dkF ((d + e) % (256 : Int)) (0 : Int) < (4 : Int)
def ds1_20 (d e : Int) : Prop := (0 : Int) ≤ dkF ((d + e) % (256 : Int)) (1 : Int) ∧ dkF ((d + e) % (256 : Int)) (1 : Int) < (4 : Int)
def ds1_21 (d e : Int) : Prop := (0 : Int) ≤ dkF ((d + e) % (256 : Int)) (2 : Int) ∧ dkF ((d + e) % (256 : Int)) (2 : Int) < (4 : Int)
def ds1_22 (d e p : Int) : List SC := [ti .i64 (3 : Int), SC.int false .u64 (if (dkF ((d + e) % (256 : Int)) (3 : Int)).toNat = 0 then p + (1 : Int) else (0 : Int)) Bd.any, SC.int
 false .u64 (if (dkF ((d + e) % (256 : Int)) (3 : Int)).toNat = 1 then p + (1 : Int) else (0 : Int)) Bd.any, SC.int false .u64 (if (dkF ((d + e) % (256 : Int)) (3 : Int)).toNat = 2
 then p + (1 : Int) else (0 : Int)) Bd.any, SC.int false .u64 (if (dkF ((d + e) % (256 : Int)) (3 : Int)).toNat = 3 then p + (1 : Int) else (0 : Int)) Bd.any, SC.raw (Value.pointer
 none), SC.raw (Value.pointer none), SC.raw (Value.pointer none), SC.raw (Value.pointer none), tb false]
def ds1_23 (d e : Int) (g_1 : Nat → Value) : List SC := [SC.int true .i64 (0 : Int), SC.int false .u64 (if (dkF ((d + e) % (256 : Int)) (0 : Int)).toNat = 0 then (0 : Int) else (0 :
 Int)) Bd.any, SC.int false .u64 (if (dkF ((d + e) % (256 : Int)) (0 : Int)).toNat = 1 then (0 : Int) else (0 : Int)) Bd.any, SC.int false .u64 (if (dkF ((d + e) % (256 : Int)) (0 :
 Int)).toNat = 2 then (0 : Int) else (0 : Int)) Bd.any, SC.int false .u64 (if (dkF ((d + e) % (256 : Int)) (0 : Int)).toNat = 3 then (0 : Int) else (0 : Int)) Bd.any, SC.raw (g_1 0),
 SC.raw (g_1 1), SC.raw (g_1 2), SC.raw (g_1 3), tb false]
def ds1_24 (d e : Int) (g_2 : Nat → Value) : List SC := [ti .i64 (1 : Int), SC.int false .u64 (if (dkF ((d + e) % (256 : Int)) (1 : Int)).toNat = 0 then (0 : Int) else (0 : Int))
 Bd.any, SC.int false .u64 (if (dkF ((d + e) % (256 : Int)) (1 : Int)).toNat = 1 then (0 : Int) else (0 : Int)) Bd.any, SC.int false .u64 (if (dkF ((d + e) % (256 : Int)) (1 :
 Int)).toNat = 2 then (0 : Int) else (0 : Int)) Bd.any, SC.int false .u64 (if (dkF ((d + e) % (256 : Int)) (1 : Int)).toNat = 3 then (0 : Int) else (0 : Int)) Bd.any, SC.raw (g_2 0),
 SC.raw (g_2 1), SC.raw (g_2 2), SC.raw (g_2 3), tb false]
def ds1_25 (d e : Int) (g_3 : Nat → Value) : List SC := [ti .i64 (2 : Int), SC.int false .u64 (if (dkF ((d + e) % (256 : Int)) (2 : Int)).toNat = 0 then (0 : Int) else (0 : Int))
 Bd.any, SC.int false .u64 (if (dkF ((d + e) % (256 : Int)) (2 : Int)).toNat = 1 then (0 : Int) else (0 : Int)) Bd.any, SC.int false .u64 (if (dkF ((d + e) % (256 : Int)) (2 :
 Int)).toNat = 2 then (0 : Int) else (0 : Int)) Bd.any, SC.int false .u64 (if (dkF ((d + e) % (256 : Int)) (2 : Int)).toNat = 3 then (0 : Int) else (0 : Int)) Bd.any, SC.raw (g_3 0),
 SC.raw (g_3 1), SC.raw (g_3 2), SC.raw (g_3 3), tb false]
def ds1_26 (a c f b d e g : Int) (X0 : Prop) : Prop := (a = a ∧ Value.pointer none = Value.pointer none ∧ c = c ∧ Value.pointer none = Value.pointer none ∧ f = f ∧ Value.pointer
 none = Value.pointer none ∧ ([] : List (Int × Value)) = [] ∧ a = a ∧ b = b ∧ c = c ∧ d = d ∧ e = e ∧ f = f ∧ g = g ∧ c = c ∧ Value.pointer none = Value.pointer none ∧ ((X0 ∧ True) ∧
 True) ∧ True) ∧ True
def ds1_27 (p : Int) (hp : 0 ≤ p ∧ p ≤ 1023) : SV := SV.c (SC.int false .u64 (p + (1 : Int)) (Bd.w (1 : Int) (1024 : Int) (Bd.add._proof_1 (Int.ofNat 0) (Int.ofNat (1022 + 1)) hp (1
 : Int) (1 : Int) Bd.of._proof_1)))
def ds1_29 (a b c d e f g : Int) : List SC := [SC.int false .u64 a, SC.int false .i64 b, SC.int false .u64 c, SC.int false .i64 d, SC.int false .i64 e, SC.int false .u64 f, SC.int
 false .i64 g, sp 83 0, sp 87 0, sp 91 0, SC.map 93, SC.nls, SC.nls, SC.nls, SC.int false .u64 c]
def ds1_30  : List SC := [SC.int true .i64 (0 : Int), SC.int true .u64 (0 : Int), SC.int true .u64 (0 : Int), SC.int true .u64 (0 : Int), SC.int true .u64 (0 : Int), SC.raw
 (Value.pointer none), SC.raw (Value.pointer none), SC.raw (Value.pointer none), SC.raw (Value.pointer none), tb false]
def ds1_31 (d e : Int) : ST := nv (SV.c (ti .i64 (3 : Int))) (nv (SV.c (SC.int false .i64 (dkF ((d + e) % (256 : Int)) (3 : Int)) (Bd.w (0 : Int) (3 : Int) (dkF_bd ((d + e) % (256 :
 Int)) (3 : Int))))) tn tn) tn
def ds1_32 (d e : Int) : ST := nv (SV.c (SC.int true .i64 (1 : Int))) (np 239 3 (nv (ds1_14 d e) tn tn) nu0) (nv (SV.agg [ti .u64 (0 : Int), SC.raw (Value.pointer none)]) (nv
 (ds1_16 d e) tn tn) tn)
/-- What the executor leaves to be shown of roundelay/roundelaylaw08.DraftShares, written out. -/
theorem ds1_vc (a b c d e f g : Int) (k p q : Int) (hk : 0 ≤ k ∧ k ≤ 255) (hp : 0 ≤ p ∧ p ≤ 1023) (hq : 0 ≤ q ∧ q ≤ 1023) : (callN Try.prog (tblDS : List (Smry Try.prog XN)) (fun _ _ => false) 100 20 4 [.agg [.int false .u64 a, .int false .i64 b, .int false .u64 c, .int false .i64 d, .int false .i64 e, .int false .u64 f, .int false .i64 g], .agg [.int true .i64 1, .int false .i64 k (.w 0 255 hk), .int false .i64 p (.w 0 1023 hp), .int false .i64 q (.w 0 1023 hq)]] ⟨[], 1⟩ (.cut 4 (liveL [2, 3, 4, 5, 6, 8, 9, 11, 13, 131]) [] Unit (fun _ _ => ([], [])) .nil fun _ => .nil) (fun v _ _ => retTrue v)) = (
 (((c == (0 : Int)) = true → (decide (e > (0 : Int)) = true → ∃ (y : Unit), a = a ∧ b = b ∧ c = c ∧ d = d ∧ e = e ∧ f = f ∧ g = g ∧ k = k ∧ p = p ∧ q = q ∧ True) ∧ (decide (e > (0 :
 Int)) = false → ∃ (y : Unit), a = a ∧ b = b ∧ c = c ∧ d = d ∧ e = e ∧ f = f ∧ g = g ∧ k = k ∧ p = p ∧ q = q ∧ True)) ∧ ((c == (0 : Int)) = false → ∃ (y : Unit), a = a ∧ b = b ∧ c =
 c ∧ d = d ∧ e = e ∧ f = f ∧ g = g ∧ k = k ∧ p = p ∧ q = q ∧ True)) ∧ ∀ (y : Unit) (ρ : Nat → Value), (decide (min (min (min b e) g) d ≥ (0 : Int)) = true → (decide (max (max b e) g
 ≤ (256 : Int)) = true → ((!decide (d < (256 : Int))) = true → true = true) ∧ ((!decide (d < (256 : Int))) = false → True ∧ (∀ (z : Un), True → ((!decide (RightO (1 : Int) k p q)) =
 true → ds1_17 a b f g) ∧ ((!decide (RightO (1 : Int) k p q)) = false → (decide (e ≥ (256 : Int)) = true → ds1_17 a b f g) ∧ (decide (e ≥ (256 : Int)) = false →
 ((-9223372036854775808 : Int) ≤ d + e ∧ d + e ≤ (9223372036854775807 : Int)) ∧ ((0 : Int) ≤ d + e ∧ (0 : Int) < (256 : Int)) ∧ (a = a ∧ Value.pointer none = Value.pointer none ∧ c =
 c ∧ Value.pointer none = Value.pointer none ∧ f = f ∧ Value.pointer none = Value.pointer none ∧ ([] : List (Int × Value)) = [] ∧ a = a ∧ b = b ∧ c = c ∧ d = d ∧ e = e ∧ f = f ∧ g =
 g ∧ k = k ∧ p = p ∧ q = q ∧ (((c == (0 : Int)) = true → ((c != (0 : Int)) = true → (((c = c ∧ Value.pointer none = Value.pointer none ∧ (c = c ∧ Value.pointer none = Value.pointer
 none ∧ (True ∧ True ∧ 1 ≤ 1000000000 ∧ ∀ (cap : Nat), 1 ≤ cap → (True ∧ True ∧ 1 ≤ 1000000000 ∧ ∀ (cap_1 : Nat), 1 ≤ cap_1 → True ∧ (∀ (z : Un), True → (ds1_19 d e) ∧ (dkF ((d + e)
 % (256 : Int)) (0 : Int)).toNat < 4 ∧ (ds1_19 d e) ∧ (dkF ((d + e) % (256 : Int)) (0 : Int)).toNat < 4 ∧ (cap_1 = cap_1 ∧ True ∧ 2 ≤ 1000000000 ∧ ∀ (cap_2 : Nat), 2 ≤ cap_2 → True ∧
 (∀ (z : Un), True → (ds1_20 d e) ∧ (dkF ((d + e) % (256 : Int)) (1 : Int)).toNat < 4 ∧ (ds1_20 d e) ∧ (dkF ((d + e) % (256 : Int)) (1 : Int)).toNat < 4 ∧ (True ∧ (∀ (z : Un), True →
 (ds1_19 d e) ∧ ((dkF ((d + e) % (256 : Int)) (0 : Int)).toNat < 4 ∧ ∀ (g_1 : Nat → Value), Value.pointer none = Value.pointer none ∧ Value.pointer none = Value.pointer none ∧
 Value.pointer none = Value.pointer none ∧ Value.pointer none = Value.pointer none ∧ Value.pointer none = Value.pointer none ∧ Value.pointer none = Value.pointer none ∧ (ds1_19 d e)
 ∧ ((dkF ((d + e) % (256 : Int)) (0 : Int)).toNat < 4 ∧ cap_2 = cap_2 ∧ True ∧ 3 ≤ 1000000000 ∧ ∀ (cap_3 : Nat), 3 ≤ cap_3 → True ∧ (∀ (z : Un), True → (ds1_21 d e) ∧ (dkF ((d + e) %
 (256 : Int)) (2 : Int)).toNat < 4 ∧ (ds1_21 d e) ∧ (dkF ((d + e) % (256 : Int)) (2 : Int)).toNat < 4 ∧ (True ∧ (∀ (z : Un), True → (ds1_20 d e) ∧ ((dkF ((d + e) % (256 : Int)) (1 :
 Int)).toNat < 4 ∧ ∀ (g_2 : Nat → Value), Value.pointer none = Value.pointer none ∧ Value.pointer none = Value.pointer none ∧ Value.pointer none = Value.pointer none ∧ Value.pointer
 none = Value.pointer none ∧ Value.pointer none = Value.pointer none ∧ (ds1_20 d e) ∧ ((dkF ((d + e) % (256 : Int)) (1 : Int)).toNat < 4 ∧ cap_3 = cap_3 ∧ True ∧ 4 ≤ 1000000000 ∧ ∀
 (cap_4 : Nat), 4 ≤ cap_4 → True ∧ (∀ (z : Un), True → (ds1_28 d e) ∧ (dkF ((d + e) % (256 : Int)) (3 : Int)).toNat < 4 ∧ (ds1_28 d e) ∧ (dkF ((d + e) % (256 : Int)) (3 : Int)).toNat
 < 4 ∧ (True ∧ (∀ (z : Un), True → (ds1_21 d e) ∧ ((dkF ((d + e) % (256 : Int)) (2 : Int)).toNat < 4 ∧ ∀ (g_3 : Nat → Value), ((if (dkF ((d + e) % (256 : Int)) (0 : Int)).toNat = 0
 then (0 : Int) else (0 : Int)) = if (dkF ((d + e) % (256 : Int)) (0 : Int)).toNat = 0 then (0 : Int) else (0 : Int)) ∧ ((if (dkF ((d + e) % (256 : Int)) (0 : Int)).toNat = 1 then (0
 : Int) else (0 : Int)) = if (dkF ((d + e) % (256 : Int)) (0 : Int)).toNat = 1 then (0 : Int) else (0 : Int)) ∧ ((if (dkF ((d + e) % (256 : Int)) (0 : Int)).toNat = 2 then (0 : Int)
 else (0 : Int)) = if (dkF ((d + e) % (256 : Int)) (0 : Int)).toNat = 2 then (0 : Int) else (0 : Int)) ∧ ((if (dkF ((d + e) % (256 : Int)) (0 : Int)).toNat = 3 then (0 : Int) else (0
 : Int)) = if (dkF ((d + e) % (256 : Int)) (0 : Int)).toNat = 3 then (0 : Int) else (0 : Int)) ∧ g_1 0 = g_1 0 ∧ g_1 1 = g_1 1 ∧ g_1 2 = g_1 2 ∧ g_1 3 = g_1 3 ∧ Value.pointer none =
 Value.pointer none ∧ Value.pointer none = Value.pointer none ∧ Value.pointer none = Value.pointer none ∧ Value.pointer none = Value.pointer none ∧ (ds1_21 d e) ∧ ((dkF ((d + e) %
 (256 : Int)) (2 : Int)).toNat < 4 ∧ (ds1_2 d e g_1 g_2 g_3 p a b f g) ∧ (∀ (K : KO XN), (fun X0 : Prop => ((if (dkF ((d + e) % (256 : Int)) (0 : Int)).toNat = 0 then (0 : Int) else
 (0 : Int)) = if (dkF ((d + e) % (256 : Int)) (0 : Int)).toNat = 0 then (0 : Int) else (0 : Int)) ∧ ((if (dkF ((d + e) % (256 : Int)) (0 : Int)).toNat = 1 then (0 : Int) else (0 :
 Int)) = if (dkF ((d + e) % (256 : Int)) (0 : Int)).toNat = 1 then (0 : Int) else (0 : Int)) ∧ ((if (dkF ((d + e) % (256 : Int)) (0 : Int)).toNat = 2 then (0 : Int) else (0 : Int)) =
 if (dkF ((d + e) % (256 : Int)) (0 : Int)).toNat = 2 then (0 : Int) else (0 : Int)) ∧ ((if (dkF ((d + e) % (256 : Int)) (0 : Int)).toNat = 3 then (0 : Int) else (0 : Int)) = if (dkF
 ((d + e) % (256 : Int)) (0 : Int)).toNat = 3 then (0 : Int) else (0 : Int)) ∧ g_1 0 = g_1 0 ∧ g_1 1 = g_1 1 ∧ g_1 2 = g_1 2 ∧ g_1 3 = g_1 3 ∧ ((if (dkF ((d + e) % (256 : Int)) (1 :
 Int)).toNat = 0 then (0 : Int) else (0 : Int)) = if (dkF ((d + e) % (256 : Int)) (1 : Int)).toNat = 0 then (0 : Int) else (0 : Int)) ∧ ((if (dkF ((d + e) % (256 : Int)) (1 :
 Int)).toNat = 1 then (0 : Int) else (0 : Int)) = if (dkF ((d + e) % (256 : Int)) (1 : Int)).toNat = 1 then (0 : Int) else (0 : Int)) ∧ ((if (dkF ((d + e) % (256 : Int)) (1 :
 Int)).toNat = 2 then (0 : Int) else (0 : Int)) = if (dkF ((d + e) % (256 : Int)) (1 : Int)).toNat = 2 then (0 : Int) else (0 : Int)) ∧ ((if (dkF ((d + e) % (256 : Int)) (1 :
 Int)).toNat = 3 then (0 : Int) else (0 : Int)) = if (dkF ((d + e) % (256 : Int)) (1 : Int)).toNat = 3 then (0 : Int) else (0 : Int)) ∧ g_2 0 = g_2 0 ∧ g_2 1 = g_2 1 ∧ g_2 2 = g_2 2
 ∧ g_2 3 = g_2 3 ∧ ((if (dkF ((d + e) % (256 : Int)) (2 : Int)).toNat = 0 then (0 : Int) else (0 : Int)) = if (dkF ((d + e) % (256 : Int)) (2 : Int)).toNat = 0 then (0 : Int) else (0
 : Int)) ∧ ((if (dkF ((d + e) % (256 : Int)) (2 : Int)).toNat = 1 then (0 : Int) else (0 : Int)) = if (dkF ((d + e) % (256 : Int)) (2 : Int)).toNat = 1 then (0 : Int) else (0 : Int))
 ∧ ((if (dkF ((d + e) % (256 : Int)) (2 : Int)).toNat = 2 then (0 : Int) else (0 : Int)) = if (dkF ((d + e) % (256 : Int)) (2 : Int)).toNat = 2 then (0 : Int) else (0 : Int)) ∧ ((if
 (dkF ((d + e) % (256 : Int)) (2 : Int)).toNat = 3 then (0 : Int) else (0 : Int)) = if (dkF ((d + e) % (256 : Int)) (2 : Int)).toNat = 3 then (0 : Int) else (0 : Int)) ∧ g_3 0 = g_3
 0 ∧ g_3 1 = g_3 1 ∧ g_3 2 = g_3 2 ∧ g_3 3 = g_3 3 ∧ (True ∧ (∀ (z : Un), True → ds1_1 d e g_1 g_2 g_3 X0) ∧ True) ∧ True → ds1_9 d e g_1 g_2 g_3 X0) (K (SF.mk 110 (np 95 0 (nv (SV.c
 (SC.int true .i64 (1 : Int))) (nv (ds1_27 p hp) (nu (ds1_32 d e) (nv (SV.c (tb false)) (nv (SV.c (SC.elp 514 (dkF ((d + e) % (256 : Int)) (3 : Int)).toNat 1 1)) (nv (SV.c (ti .i64
 (4 : Int))) tn tn) nu0) (nv (SV.c (ti .i64 (2 : Int))) nu0 tn))) (np 514 0 (np 87 0 (np 514 0 (nv (SV.c (SC.elp 431 (dkF ((d + e) % (256 : Int)) (2 : Int)).toNat 1 5)) tn tn) nu0)
 (nv (SV.c (ti .i64 (3 : Int))) (np 514 0 tn tn) tn)) (nv (SV.c (ti .i64 (3 : Int))) (np 514 0 (np 514 0 tn tn) nu0) (nv (SV.c (ti .i64 (3 : Int))) nu0 tn)))) (nu (np 248 0 (np 95 7
 (nv (SV.c (ti .i64 (3 : Int))) (np 431 0 tn tn) nu0) (nv (SV.c (tb true)) (nv (ds1_27 p hp) tn tn) tn)) (np 95 0 (np 514 0 (np 514 0 tn tn) nu0) (np 431 0 nu0 tn))) (nv (ds1_14 d e)
 (nv (SV.agg [SC.int false .u64 c, SC.raw (Value.pointer none)]) (np 514 0 (np 431 1 tn tn) nu0) (nv (ds1_14 d e) nu0 tn)) (nv (SV.c (ti .i64 (3 : Int))) (nv (SV.c (SC.elp 514 (dkF
 ((d + e) % (256 : Int)) (3 : Int)).toNat 1 5)) (np 514 1 tn tn) nu0) (np 239 2 nu0 tn))))) (nv (ds1_16 d e) (nu (np 239 0 (np 95 0 (nv (ds1_16 d e) (np 514 0 tn tn) nu0) (ds1_31 d
 e)) (nv (SV.c (ti .i64 (3 : Int))) (nv (SV.c (ti .u64 (0 : Int))) (np 239 3 tn tn) nu0) (np 239 2 nu0 tn))) (nv (ds1_15 d e) (np 87 0 (nv (ds1_15 d e) (np 431 0 tn tn) nu0) (nv
 (SV.c (ti .i64 (2 : Int))) (np 514 1 tn tn) tn)) (np 514 0 (np 514 5 (np 514 0 tn tn) nu0) (nv (SV.c (ti .i64 (2 : Int))) nu0 tn)))) (nu (nv (SV.c (ti .i64 (3 : Int))) (np 95 8 (nv
 (ds1_15 d e) (np 431 5 tn tn) nu0) (nv (ds1_16 d e) (nv (SV.agg (ds1_8 d e p)) tn tn) tn)) (nv (SV.agg [ti .u64 (0 : Int), SC.raw (Value.pointer none)]) (nv (ds1_15 d e) (np 239 3
 tn tn) nu0) (nv (ds1_14 d e) nu0 tn))) (np 95 0 (nv (SV.c (ti .i64 (4 : Int))) (np 514 1 (nv (SV.c (SC.elp 431 (dkF ((d + e) % (256 : Int)) (2 : Int)).toNat 1 1)) tn tn) nu0) (nv
 (SV.c (ti .i64 (3 : Int))) nu0 tn)) (np 514 0 (nv (SV.c (SC.raw (Value.pointer none))) (nv (SV.agg (ds1_11)) tn tn) tn) (np 431 0 nu0 tn)))))) []) (Mem.mk [(1, SO.cells (ds1_5 a b c
 d e f g) 75), (2, SO.cells (ds1_4 k hk p hp q hq) 77), (45, SO.cells (ds1_5 a b c d e f g) 75), (51, SO.cells (ds1_5 a b c d e f g) 75), (83, SO.cells [SC.int false .u64 a, SC.raw
 (Value.pointer none)] 199), (87, SO.cells [SC.int false .u64 c, SC.raw (Value.pointer none)] 199), (91, SO.cells [SC.int false .u64 f, SC.raw (Value.pointer none)] 199), (93, SO.mp
 true []), (95, SO.cells [SC.int false .u64 a, SC.int false .i64 b, SC.int false .u64 c, SC.int false .i64 d, SC.int false .i64 e, SC.int false .u64 f, SC.int false .i64 g, sp 83 0,
 sp 87 0, sp 91 0, SC.map 93, SC.sli 526 1 true 0 true 4 cap_4, SC.sli 290 1 true 0 true 1 cap, SC.nls, SC.int true .u64 (0 : Int)] 204), (109, SO.cells (ds1_4 k hk p hp q hq) 77),
 (110, SO.cells [SC.int true .i64 (0 : Int), SC.int true .i64 (0 : Int)] 82), (128, SO.cells [SC.int true .i64 (0 : Int), SC.int true .i64 (0 : Int)] 82), (137, SO.cells (ds1_4 k hk
 p hp q hq) 77), (138, SO.cells [SC.int true .i64 (0 : Int), SC.int true .i64 (0 : Int)] 82), (207, SO.cells [SC.int false .u64 c, SC.raw (Value.pointer none)] 199), (215, SO.cells
 [SC.int false .u64 c, SC.raw (Value.pointer none)] 199), (239, SO.cells [sp 266 0, sp 348 0, sp 431 0, sp 514 0] 210), (248, SO.cells [ti .u64 (0 : Int), SC.raw (Value.pointer
 none)] 199), (259, SO.cells [SC.int false .u64 c, SC.raw (Value.pointer none)] 199), (266, SO.cells (ds1_23 d e g_1) 212), (289, SO.cells [SC.int false .u64 c] 29), (290, SO.row 29
 1 1 cap [SC.int false .u64 c]), (300, SO.cells [sp 266 0] 197), (341, SO.cells [ti .u64 (0 : Int), SC.raw (Value.pointer none)] 199), (348, SO.cells (ds1_24 d e g_2) 212), (359,
 SO.cells [sp 348 0] 197), (424, SO.cells [ti .u64 (0 : Int), SC.raw (Value.pointer none)] 199), (431, SO.cells (ds1_25 d e g_3) 212), (442, SO.cells [sp 431 0] 197), (507, SO.cells
 [ti .u64 (0 : Int), SC.raw (Value.pointer none)] 199), (514, SO.cells (ds1_22 d e p) 212), (525, SO.cells [sp 514 0] 197), (526, SO.row 197 1 4 cap_4 [sp 266 0, sp 348 0, sp 431 0,
 sp 514 0]), (597, SO.cells (ds1_8 d e p) 87), (598, SO.cells (ds1_8 d e p) 87)] 611) Scr.nil)) ∧ True) ∧ True) ∧ True) ∧ True) ∧ True) ∧ True) ∧ True) ∧ True) ∧ True) ∧ True) ∧
 True) ∧ True) ∧ True) ∧ True) ∧ True) ∧ True) ∧ True) ∧ True) ∧ True) ∧ True) ∧ True) ∧ (∀ (K : KO XN), (fun X0 : (Nat) → Prop => c = c ∧ Value.pointer none = Value.pointer none ∧
 (c = c ∧ Value.pointer none = Value.pointer none ∧ (True ∧ True ∧ 1 ≤ 1000000000 ∧ ∀ (cap : Nat), 1 ≤ cap → (X0 cap) ∧ True) ∧ True) ∧ True → c = c ∧ Value.pointer none =
 Value.pointer none ∧ (c = c ∧ Value.pointer none = Value.pointer none ∧ (True ∧ True ∧ 1 ≤ 1000000000 ∧ ∀ (cap : Nat), 1 ≤ cap → (X0 cap) ∧ True) ∧ True) ∧ True) (fun (cap : Nat) =>
 K (SF.mk 51 (np 95 0 (nv (SV.agg [SC.int false .u64 c, SC.raw (Value.pointer none)]) (nu (np 266 0 (np 266 0 (np 95 0 tn tn) nu0) (nv (SV.c (SC.map 93)) (np 95 12 tn tn) tn)) (nu
 (np 266 0 (nv (SV.c (SC.int false .u64 c)) tn tn) tn) (np 266 0 nu0 tn))) (nu (nv (SV.c (SC.raw (Value.pointer none))) (nv (SV.c (SC.int false .u64 c)) (nv (SV.c SC.nls) tn tn) nu0)
 (nv (SV.c (SC.int false .u64 c)) nu0 tn)) (nv (SV.c (SC.int true .i64 (0 : Int))) (np 95 0 (nv (SV.c (SC.sli 290 1 true 0 true 1 cap)) tn tn) tn) (np 95 0 nu0 tn)))) (nv (SV.c
 (SC.int true .i64 (0 : Int))) (np 259 0 (np 259 1 (np 259 0 (np 95 12 tn tn) nu0) (np 259 0 nu0 tn)) (nu (np 95 0 (nv (SV.c (SC.sli 289 1 true 0 true 1 1)) tn tn) tn) (np 266 1 nu0
 tn))) (nv (SV.c (SC.raw (Value.pointer none))) (nv (SV.c (tb false)) (nv (SV.c (tb true)) (np 259 0 tn tn) nu0) (nv (SV.agg (ds1_11)) nu0 tn)) (nv (SV.agg (ds1_30)) (np 95 10 (np 95
 0 tn tn) tn) (np 95 0 nu0 tn))))) []) (Mem.mk [(1, SO.cells (ds1_5 a b c d e f g) 75), (2, SO.cells (ds1_4 k hk p hp q hq) 77), (45, SO.cells (ds1_5 a b c d e f g) 75), (51,
 SO.cells (ds1_5 a b c d e f g) 75), (83, SO.cells [SC.int false .u64 a, SC.raw (Value.pointer none)] 199), (87, SO.cells [SC.int false .u64 c, SC.raw (Value.pointer none)] 199),
 (91, SO.cells [SC.int false .u64 f, SC.raw (Value.pointer none)] 199), (93, SO.mp true []), (95, SO.cells [SC.int false .u64 a, SC.int false .i64 b, SC.int false .u64 c, SC.int
 false .i64 d, SC.int false .i64 e, SC.int false .u64 f, SC.int false .i64 g, sp 83 0, sp 87 0, sp 91 0, SC.map 93, SC.nls, SC.sli 290 1 true 0 true 1 cap, SC.nls, SC.int true .u64
 (0 : Int)] 204), (109, SO.cells (ds1_4 k hk p hp q hq) 77), (110, SO.cells [SC.int true .i64 (0 : Int), SC.int true .i64 (0 : Int)] 82), (128, SO.cells [SC.int true .i64 (0 : Int),
 SC.int true .i64 (0 : Int)] 82), (137, SO.cells (ds1_4 k hk p hp q hq) 77), (138, SO.cells [SC.int true .i64 (0 : Int), SC.int true .i64 (0 : Int)] 82), (207, SO.cells [SC.int false
 .u64 c, SC.raw (Value.pointer none)] 199), (215, SO.cells [SC.int false .u64 c, SC.raw (Value.pointer none)] 199), (239, SO.cells [SC.raw (Value.pointer none), SC.raw (Value.pointer
 none), SC.raw (Value.pointer none), SC.raw (Value.pointer none)] 210), (248, SO.cells [SC.int false .u64 c, SC.raw (Value.pointer none)] 199), (259, SO.cells [SC.int false .u64 c,
 SC.raw (Value.pointer none)] 199), (266, SO.cells (ds1_30) 212), (289, SO.cells [SC.int false .u64 c] 29), (290, SO.row 29 1 1 cap [SC.int false .u64 c])] 282) Scr.nil)) ∧ True) ∧
 True) ∧ True) ∧ ((c != (0 : Int)) = false → True ∧ True ∧ 1 ≤ 1000000000 ∧ ∀ (cap : Nat), 1 ≤ cap → True ∧ (∀ (z : Un), True → (ds1_19 d e) ∧ (dkF ((d + e) % (256 : Int)) (0 :
 Int)).toNat < 4 ∧ (ds1_19 d e) ∧ (dkF ((d + e) % (256 : Int)) (0 : Int)).toNat < 4 ∧ (cap = cap ∧ True ∧ 2 ≤ 1000000000 ∧ ∀ (cap : Nat), 2 ≤ cap → True ∧ (∀ (z : Un), True → (ds1_20
 d e) ∧ (dkF ((d + e) % (256 : Int)) (1 : Int)).toNat < 4 ∧ (ds1_20 d e) ∧ (dkF ((d + e) % (256 : Int)) (1 : Int)).toNat < 4 ∧ (True ∧ (∀ (z : Un), True → (ds1_19 d e) ∧ ((dkF ((d +
 e) % (256 : Int)) (0 : Int)).toNat < 4 ∧ ∀ (g_1 : Nat → Value), Value.pointer none = Value.pointer none ∧ Value.pointer none = Value.pointer none ∧ Value.pointer none =
 Value.pointer none ∧ Value.pointer none = Value.pointer none ∧ Value.pointer none = Value.pointer none ∧ Value.pointer none = Value.pointer none ∧ (ds1_19 d e) ∧ ((dkF ((d + e) %
 (256 : Int)) (0 : Int)).toNat < 4 ∧ cap = cap ∧ True ∧ 3 ≤ 1000000000 ∧ ∀ (cap : Nat), 3 ≤ cap → True ∧ (∀ (z : Un), True → (ds1_21 d e) ∧ (dkF ((d + e) % (256 : Int)) (2 :
 Int)).toNat < 4 ∧ (ds1_21 d e) ∧ (dkF ((d + e) % (256 : Int)) (2 : Int)).toNat < 4 ∧ (True ∧ (∀ (z : Un), True → (ds1_20 d e) ∧ ((dkF ((d + e) % (256 : Int)) (1 : Int)).toNat < 4 ∧
 ∀ (g_2 : Nat → Value), Value.pointer none = Value.pointer none ∧ Value.pointer none = Value.pointer none ∧ Value.pointer none = Value.pointer none ∧ Value.pointer none =
 Value.pointer none ∧ Value.pointer none = Value.pointer none ∧ (ds1_20 d e) ∧ ((dkF ((d + e) % (256 : Int)) (1 : Int)).toNat < 4 ∧ cap = cap ∧ True ∧ 4 ≤ 1000000000 ∧ ∀ (cap : Nat),
 4 ≤ cap → True ∧ (∀ (z : Un), True → (ds1_28 d e) ∧ (dkF ((d + e) % (256 : Int)) (3 : Int)).toNat < 4 ∧ (ds1_28 d e) ∧ (dkF ((d + e) % (256 : Int)) (3 : Int)).toNat < 4 ∧ (True ∧ (∀
 (z : Un), True → (ds1_21 d e) ∧ ((dkF ((d + e) % (256 : Int)) (2 : Int)).toNat < 4 ∧ ∀ (g_3 : Nat → Value), ((if (dkF ((d + e) % (256 : Int)) (0 : Int)).toNat = 0 then (0 : Int)
 else (0 : Int)) = if (dkF ((d + e) % (256 : Int)) (0 : Int)).toNat = 0 then (0 : Int) else (0 : Int)) ∧ ((if (dkF ((d + e) % (256 : Int)) (0 : Int)).toNat = 1 then (0 : Int) else (0
 : Int)) = if (dkF ((d + e) % (256 : Int)) (0 : Int)).toNat = 1 then (0 : Int) else (0 : Int)) ∧ ((if (dkF ((d + e) % (256 : Int)) (0 : Int)).toNat = 2 then (0 : Int) else (0 : Int))
 = if (dkF ((d + e) % (256 : Int)) (0 : Int)).toNat = 2 then (0 : Int) else (0 : Int)) ∧ ((if (dkF ((d + e) % (256 : Int)) (0 : Int)).toNat = 3 then (0 : Int) else (0 : Int)) = if
 (dkF ((d + e) % (256 : Int)) (0 : Int)).toNat = 3 then (0 : Int) else (0 : Int)) ∧ g_1 0 = g_1 0 ∧ g_1 1 = g_1 1 ∧ g_1 2 = g_1 2 ∧ g_1 3 = g_1 3 ∧ Value.pointer none = Value.pointer
 none ∧ Value.pointer none = Value.pointer none ∧ Value.pointer none = Value.pointer none ∧ Value.pointer none = Value.pointer none ∧ (ds1_21 d e) ∧ ((dkF ((d + e) % (256 : Int)) (2
 : Int)).toNat < 4 ∧ (ds1_2 d e g_1 g_2 g_3 p a b f g) ∧ (∀ (K : KO XN), (fun X0 : Prop => ((if (dkF ((d + e) % (256 : Int)) (0 : Int)).toNat = 0 then (0 : Int) else (0 : Int)) = if
 (dkF ((d + e) % (256 : Int)) (0 : Int)).toNat = 0 then (0 : Int) else (0 : Int)) ∧ ((if (dkF ((d + e) % (256 : Int)) (0 : Int)).toNat = 1 then (0 : Int) else (0 : Int)) = if (dkF
 ((d + e) % (256 : Int)) (0 : Int)).toNat = 1 then (0 : Int) else (0 : Int)) ∧ ((if (dkF ((d + e) % (256 : Int)) (0 : Int)).toNat = 2 then (0 : Int) else (0 : Int)) = if (dkF ((d +
 e) % (256 : Int)) (0 : Int)).toNat = 2 then (0 : Int) else (0 : Int)) ∧ ((if (dkF ((d + e) % (256 : Int)) (0 : Int)).toNat = 3 then (0 : Int) else (0 : Int)) = if (dkF ((d + e) %
 (256 : Int)) (0 : Int)).toNat = 3 then (0 : Int) else (0 : Int)) ∧ g_1 0 = g_1 0 ∧ g_1 1 = g_1 1 ∧ g_1 2 = g_1 2 ∧ g_1 3 = g_1 3 ∧ ((if (dkF ((d + e) % (256 : Int)) (1 : Int)).toNat
 = 0 then (0 : Int) else (0 : Int)) = if (dkF ((d + e) % (256 : Int)) (1 : Int)).toNat = 0 then (0 : Int) else (0 : Int)) ∧ ((if (dkF ((d + e) % (256 : Int)) (1 : Int)).toNat = 1
 then (0 : Int) else (0 : Int)) = if (dkF ((d + e) % (256 : Int)) (1 : Int)).toNat = 1 then (0 : Int) else (0 : Int)) ∧ ((if (dkF ((d + e) % (256 : Int)) (1 : Int)).toNat = 2 then (0
 : Int) else (0 : Int)) = if (dkF ((d + e) % (256 : Int)) (1 : Int)).toNat = 2 then (0 : Int) else (0 : Int)) ∧ ((if (dkF ((d + e) % (256 : Int)) (1 : Int)).toNat = 3 then (0 : Int)
 else (0 : Int)) = if (dkF ((d + e) % (256 : Int)) (1 : Int)).toNat = 3 then (0 : Int) else (0 : Int)) ∧ g_2 0 = g_2 0 ∧ g_2 1 = g_2 1 ∧ g_2 2 = g_2 2 ∧ g_2 3 = g_2 3 ∧ ((if (dkF ((d
 + e) % (256 : Int)) (2 : Int)).toNat = 0 then (0 : Int) else (0 : Int)) = if (dkF ((d + e) % (256 : Int)) (2 : Int)).toNat = 0 then (0 : Int) else (0 : Int)) ∧ ((if (dkF ((d + e) %
 (256 : Int)) (2 : Int)).toNat = 1 then (0 : Int) else (0 : Int)) = if (dkF ((d + e) % (256 : Int)) (2 : Int)).toNat = 1 then (0 : Int) else (0 : Int)) ∧ ((if (dkF ((d + e) % (256 :
 Int)) (2 : Int)).toNat = 2 then (0 : Int) else (0 : Int)) = if (dkF ((d + e) % (256 : Int)) (2 : Int)).toNat = 2 then (0 : Int) else (0 : Int)) ∧ ((if (dkF ((d + e) % (256 : Int))
 (2 : Int)).toNat = 3 then (0 : Int) else (0 : Int)) = if (dkF ((d + e) % (256 : Int)) (2 : Int)).toNat = 3 then (0 : Int) else (0 : Int)) ∧ g_3 0 = g_3 0 ∧ g_3 1 = g_3 1 ∧ g_3 2 =
 g_3 2 ∧ g_3 3 = g_3 3 ∧ (True ∧ (∀ (z : Un), True → ds1_1 d e g_1 g_2 g_3 X0) ∧ True) ∧ True → ds1_9 d e g_1 g_2 g_3 X0) (K (SF.mk 110 (np 95 0 (nv (SV.c (SC.int true .i64 (1 :
 Int))) (nv (ds1_27 p hp) (nu (ds1_32 d e) (nv (SV.c (tb false)) (nv (SV.c (SC.elp 491 (dkF ((d + e) % (256 : Int)) (3 : Int)).toNat 1 1)) (nv (SV.c (ti .i64 (4 : Int))) tn tn) nu0)
 (nv (SV.c (ti .i64 (2 : Int))) nu0 tn))) (np 491 0 (np 87 0 (np 491 0 (nv (SV.c (SC.elp 408 (dkF ((d + e) % (256 : Int)) (2 : Int)).toNat 1 5)) tn tn) nu0) (nv (SV.c (ti .i64 (3 :
 Int))) (np 491 0 tn tn) tn)) (nv (SV.c (ti .i64 (3 : Int))) (np 491 0 (np 491 0 tn tn) nu0) (nv (SV.c (ti .i64 (3 : Int))) nu0 tn)))) (nu (np 248 0 (np 95 7 (nv (SV.c (ti .i64 (3 :
 Int))) (np 408 0 tn tn) nu0) (nv (SV.c (tb true)) (nv (ds1_27 p hp) tn tn) tn)) (np 95 0 (np 491 0 (np 491 0 tn tn) nu0) (np 408 0 nu0 tn))) (nv (ds1_14 d e) (nv (SV.agg [SC.int
 false .u64 c, SC.raw (Value.pointer none)]) (np 491 0 (np 408 1 tn tn) nu0) (nv (ds1_14 d e) nu0 tn)) (nv (SV.c (ti .i64 (3 : Int))) (nv (SV.c (SC.elp 491 (dkF ((d + e) % (256 :
 Int)) (3 : Int)).toNat 1 5)) (np 491 1 tn tn) nu0) (np 239 2 nu0 tn))))) (nv (ds1_16 d e) (nu (np 239 0 (np 95 0 (nv (ds1_16 d e) (np 491 0 tn tn) nu0) (ds1_31 d e)) (nv (SV.c (ti
 .i64 (3 : Int))) (nv (SV.c (ti .u64 (0 : Int))) (np 239 3 tn tn) nu0) (np 239 2 nu0 tn))) (nv (ds1_15 d e) (np 87 0 (nv (ds1_15 d e) (np 408 0 tn tn) nu0) (nv (SV.c (ti .i64 (2 :
 Int))) (np 491 1 tn tn) tn)) (np 491 0 (np 491 5 (np 491 0 tn tn) nu0) (nv (SV.c (ti .i64 (2 : Int))) nu0 tn)))) (nu (nv (SV.c (ti .i64 (3 : Int))) (np 95 8 (nv (ds1_15 d e) (np 408
 5 tn tn) nu0) (nv (ds1_16 d e) (nv (SV.agg (ds1_8 d e p)) tn tn) tn)) (nv (SV.agg [ti .u64 (0 : Int), SC.raw (Value.pointer none)]) (nv (ds1_15 d e) (np 239 3 tn tn) nu0) (nv
 (ds1_14 d e) nu0 tn))) (np 95 0 (nv (SV.c (ti .i64 (4 : Int))) (np 491 1 (nv (SV.c (SC.elp 408 (dkF ((d + e) % (256 : Int)) (2 : Int)).toNat 1 1)) tn tn) nu0) (nv (SV.c (ti .i64 (3
 : Int))) nu0 tn)) (np 491 0 (nv (SV.c (SC.raw (Value.pointer none))) (nv (SV.agg (ds1_11)) tn tn) tn) (np 408 0 nu0 tn)))))) []) (Mem.mk [(1, SO.cells (ds1_5 a b c d e f g) 75), (2,
 SO.cells (ds1_4 k hk p hp q hq) 77), (45, SO.cells (ds1_5 a b c d e f g) 75), (51, SO.cells (ds1_5 a b c d e f g) 75), (83, SO.cells [SC.int false .u64 a, SC.raw (Value.pointer
 none)] 199), (87, SO.cells [SC.int false .u64 c, SC.raw (Value.pointer none)] 199), (91, SO.cells [SC.int false .u64 f, SC.raw (Value.pointer none)] 199), (93, SO.mp true []), (95,
 SO.cells [SC.int false .u64 a, SC.int false .i64 b, SC.int false .u64 c, SC.int false .i64 d, SC.int false .i64 e, SC.int false .u64 f, SC.int false .i64 g, sp 83 0, sp 87 0, sp 91
 0, SC.map 93, SC.sli 503 1 true 0 true 4 cap, SC.nls, SC.nls, SC.int true .u64 (0 : Int)] 204), (109, SO.cells (ds1_4 k hk p hp q hq) 77), (110, SO.cells [SC.int true .i64 (0 :
 Int), SC.int true .i64 (0 : Int)] 82), (128, SO.cells [SC.int true .i64 (0 : Int), SC.int true .i64 (0 : Int)] 82), (137, SO.cells (ds1_4 k hk p hp q hq) 77), (138, SO.cells [SC.int
 true .i64 (0 : Int), SC.int true .i64 (0 : Int)] 82), (207, SO.cells [SC.int false .u64 c, SC.raw (Value.pointer none)] 199), (215, SO.cells [SC.int false .u64 c, SC.raw
 (Value.pointer none)] 199), (239, SO.cells [sp 266 0, sp 325 0, sp 408 0, sp 491 0] 210), (248, SO.cells [ti .u64 (0 : Int), SC.raw (Value.pointer none)] 199), (259, SO.cells
 [SC.int false .u64 c, SC.raw (Value.pointer none)] 199), (266, SO.cells (ds1_23 d e g_1) 212), (277, SO.cells [sp 266 0] 197), (318, SO.cells [ti .u64 (0 : Int), SC.raw
 (Value.pointer none)] 199), (325, SO.cells (ds1_24 d e g_2) 212), (336, SO.cells [sp 325 0] 197), (401, SO.cells [ti .u64 (0 : Int), SC.raw (Value.pointer none)] 199), (408,
 SO.cells (ds1_25 d e g_3) 212), (419, SO.cells [sp 408 0] 197), (484, SO.cells [ti .u64 (0 : Int), SC.raw (Value.pointer none)] 199), (491, SO.cells (ds1_22 d e p) 212), (502,
 SO.cells [sp 491 0] 197), (503, SO.row 197 1 4 cap [sp 266 0, sp 325 0, sp 408 0, sp 491 0]), (574, SO.cells (ds1_8 d e p) 87), (575, SO.cells (ds1_8 d e p) 87)] 588) Scr.nil)) ∧
 True) ∧ True) ∧ True) ∧ True) ∧ True) ∧ True) ∧ True) ∧ True) ∧ True) ∧ True) ∧ True) ∧ True) ∧ True) ∧ True) ∧ True) ∧ True) ∧ True) ∧ True)) ∧ ((c == (0 : Int)) = false → (True ∧
 (∀ (z : Un), True → a = a ∧ Value.pointer none = Value.pointer none ∧ c = c ∧ Value.pointer none = Value.pointer none ∧ f = f ∧ Value.pointer none = Value.pointer none ∧ ([] : List
 (Int × Value)) = [] ∧ a = a ∧ b = b ∧ c = c ∧ d = d ∧ e = e ∧ f = f ∧ g = g ∧ c = c ∧ Value.pointer none = Value.pointer none ∧ (((a = a ∧ Value.pointer none = Value.pointer none ∧
 c = c ∧ Value.pointer none = Value.pointer none ∧ f = f ∧ Value.pointer none = Value.pointer none ∧ ([] : List (Int × Value)) = [] ∧ a = a ∧ b = b ∧ c = c ∧ d = d ∧ e = e ∧ f = f ∧
 g = g ∧ c = c ∧ Value.pointer none = Value.pointer none ∧ (((((c != (0 : Int)) = true → (a = a ∧ Value.pointer none = Value.pointer none ∧ c = c ∧ Value.pointer none = Value.pointer
 none ∧ f = f ∧ Value.pointer none = Value.pointer none ∧ ([] : List (Int × Value)) = [] ∧ a = a ∧ b = b ∧ c = c ∧ d = d ∧ e = e ∧ f = f ∧ g = g ∧ c = c ∧ ((c != (0 : Int)) = true →
 ((true == (a == a && (b == b && (c == c && (d == d && (e == e && (f == f && (g == g && true)))))))) = true → true = true) ∧ ((true == (a == a && (b == b && (c == c && (d == d && (e
 == e && (f == f && (g == g && true)))))))) = false → false = true)) ∧ ((c != (0 : Int)) = false → ds1_17 a b f g)) ∧ True) ∧ ((c != (0 : Int)) = false → ds1_17 a b f g)) ∧ True) ∧
 True) ∧ True) ∧ True) ∧ (∀ (K : KO XN), (fun X0 : Prop => (ds1_12 a c f b d e g X0) ∧ True → ds1_7 a c f b d e g X0) (K (ds1_3 c d e) (Mem.mk [(1, SO.cells (ds1_5 a b c d e f g)
 75), (2, SO.cells (ds1_4 k hk p hp q hq) 77), (45, SO.cells (ds1_5 a b c d e f g) 75), (51, SO.cells (ds1_5 a b c d e f g) 75), (83, SO.cells [SC.int false .u64 a, SC.raw
 (Value.pointer none)] 199), (87, SO.cells [SC.int false .u64 c, SC.raw (Value.pointer none)] 199), (91, SO.cells [SC.int false .u64 f, SC.raw (Value.pointer none)] 199), (93, SO.mp
 true []), (95, SO.cells (ds1_13 a b c d e f g) 204), (109, SO.cells (ds1_4 k hk p hp q hq) 77), (110, SO.cells [SC.int true .i64 (0 : Int), SC.int true .i64 (0 : Int)] 82), (128,
 SO.cells [SC.int true .i64 (0 : Int), SC.int true .i64 (0 : Int)] 82), (137, SO.cells (ds1_4 k hk p hp q hq) 77), (138, SO.cells [SC.int true .i64 (0 : Int), SC.int true .i64 (0 :
 Int)] 82), (207, SO.cells [SC.int false .u64 c, SC.raw (Value.pointer none)] 199), (215, SO.cells [SC.int false .u64 c, SC.raw (Value.pointer none)] 199), (238, SO.cells [SC.int
 false .u64 c, SC.raw (Value.pointer none)] 199), (239, SO.cells [SC.int true .u64 (0 : Int), SC.raw (Value.pointer none)] 199), (254, SO.cells (ds1_11) 87)] 244) Scr.nil)) ∧ True) ∧
 (∀ (K : KO XN), (fun X0 : Prop => (ds1_26 a c f b d e g X0) ∧ (ds1_18 a c f b d e g k hk p hp q hq) ∧ True → ds1_10 a c f b d e g X0 k hk p hp q hq) (K (ds1_6 c d e) (Mem.mk [(1,
 SO.cells (ds1_5 a b c d e f g) 75), (2, SO.cells (ds1_4 k hk p hp q hq) 77), (45, SO.cells (ds1_5 a b c d e f g) 75), (51, SO.cells (ds1_5 a b c d e f g) 75), (83, SO.cells [SC.int
 false .u64 a, SC.raw (Value.pointer none)] 199), (87, SO.cells [SC.int false .u64 c, SC.raw (Value.pointer none)] 199), (91, SO.cells [SC.int false .u64 f, SC.raw (Value.pointer
 none)] 199), (93, SO.mp true []), (95, SO.cells (ds1_29 a b c d e f g) 204), (109, SO.cells (ds1_4 k hk p hp q hq) 77), (110, SO.cells [SC.int true .i64 (0 : Int), SC.int true .i64
 (0 : Int)] 82), (128, SO.cells [SC.int true .i64 (0 : Int), SC.int true .i64 (0 : Int)] 82), (137, SO.cells (ds1_4 k hk p hp q hq) 77), (138, SO.cells [SC.int true .i64 (0 : Int),
 SC.int true .i64 (0 : Int)] 82), (207, SO.cells [SC.int false .u64 c, SC.raw (Value.pointer none)] 199), (215, SO.cells [SC.int false .u64 c, SC.raw (Value.pointer none)] 199),
 (235, SO.cells [SC.int true .u64 (0 : Int), SC.raw (Value.pointer none)] 199), (238, SO.cells [SC.int false .u64 c, SC.raw (Value.pointer none)] 199), (239, SO.cells [SC.int true
 .u64 (0 : Int), SC.raw (Value.pointer none)] 199), (254, SO.cells (ds1_11) 87)] 268) Scr.nil)) ∧ True) ∧ True) ∧ (∀ (K : KO XN), (fun X0 : Prop => True ∧ (∀ (z : Un), True → a = a ∧
 Value.pointer none = Value.pointer none ∧ c = c ∧ Value.pointer none = Value.pointer none ∧ f = f ∧ Value.pointer none = Value.pointer none ∧ ([] : List (Int × Value)) = [] ∧ a = a
 ∧ b = b ∧ c = c ∧ d = d ∧ e = e ∧ f = f ∧ g = g ∧ c = c ∧ Value.pointer none = Value.pointer none ∧ ((ds1_26 a c f b d e g X0) ∧ (ds1_18 a c f b d e g k hk p hp q hq) ∧ True) ∧ (∀
 (K : KO XN), (fun X1 : Prop => (ds1_26 a c f b d e g X1) ∧ (∀ (K : KO XN), (fun X2 : Prop => (ds1_12 a c f b d e g X2) ∧ True → ds1_7 a c f b d e g X2) (K (ds1_3 c d e) (Mem.mk [(1,
 SO.cells (ds1_5 a b c d e f g) 75), (2, SO.cells (ds1_4 k hk p hp q hq) 77), (45, SO.cells (ds1_5 a b c d e f g) 75), (51, SO.cells (ds1_5 a b c d e f g) 75), (83, SO.cells [SC.int
 false .u64 a, SC.raw (Value.pointer none)] 199), (87, SO.cells [SC.int false .u64 c, SC.raw (Value.pointer none)] 199), (91, SO.cells [SC.int false .u64 f, SC.raw (Value.pointer
 none)] 199), (93, SO.mp true []), (95, SO.cells (ds1_13 a b c d e f g) 204), (109, SO.cells (ds1_4 k hk p hp q hq) 77), (110, SO.cells [SC.int true .i64 (0 : Int), SC.int true .i64
 (0 : Int)] 82), (128, SO.cells [SC.int true .i64 (0 : Int), SC.int true .i64 (0 : Int)] 82), (137, SO.cells (ds1_4 k hk p hp q hq) 77), (138, SO.cells [SC.int true .i64 (0 : Int),
 SC.int true .i64 (0 : Int)] 82), (207, SO.cells [SC.int false .u64 c, SC.raw (Value.pointer none)] 199), (215, SO.cells [SC.int false .u64 c, SC.raw (Value.pointer none)] 199),
 (238, SO.cells [SC.int false .u64 c, SC.raw (Value.pointer none)] 199), (239, SO.cells [SC.int true .u64 (0 : Int), SC.raw (Value.pointer none)] 199), (254, SO.cells (ds1_11) 87)]
 244) Scr.nil)) ∧ True → a = a ∧ Value.pointer none = Value.pointer none ∧ c = c ∧ Value.pointer none = Value.pointer none ∧ f = f ∧ Value.pointer none = Value.pointer none ∧ ([] :
 List (Int × Value)) = [] ∧ a = a ∧ b = b ∧ c = c ∧ d = d ∧ e = e ∧ f = f ∧ g = g ∧ c = c ∧ Value.pointer none = Value.pointer none ∧ (((ds1_7 a c f b d e g X1) ∧ True) ∧ (∀ (K : KO
 XN), (fun X2 : Prop => (ds1_12 a c f b d e g X2) ∧ True → ds1_7 a c f b d e g X2) (K (ds1_3 c d e) (Mem.mk [(1, SO.cells (ds1_5 a b c d e f g) 75), (2, SO.cells (ds1_4 k hk p hp q
 hq) 77), (45, SO.cells (ds1_5 a b c d e f g) 75), (51, SO.cells (ds1_5 a b c d e f g) 75), (83, SO.cells [SC.int false .u64 a, SC.raw (Value.pointer none)] 199), (87, SO.cells
 [SC.int false .u64 c, SC.raw (Value.pointer none)] 199), (91, SO.cells [SC.int false .u64 f, SC.raw (Value.pointer none)] 199), (93, SO.mp true []), (95, SO.cells (ds1_13 a b c d e
 f g) 204), (109, SO.cells (ds1_4 k hk p hp q hq) 77), (110, SO.cells [SC.int true .i64 (0 : Int), SC.int true .i64 (0 : Int)] 82), (128, SO.cells [SC.int true .i64 (0 : Int), SC.int
 true .i64 (0 : Int)] 82), (137, SO.cells (ds1_4 k hk p hp q hq) 77), (138, SO.cells [SC.int true .i64 (0 : Int), SC.int true .i64 (0 : Int)] 82), (207, SO.cells [SC.int false .u64
 c, SC.raw (Value.pointer none)] 199), (215, SO.cells [SC.int false .u64 c, SC.raw (Value.pointer none)] 199), (235, SO.cells [SC.int true .u64 (0 : Int), SC.raw (Value.pointer
 none)] 199), (238, SO.cells [SC.int false .u64 c, SC.raw (Value.pointer none)] 199), (239, SO.cells [SC.int true .u64 (0 : Int), SC.raw (Value.pointer none)] 199), (254, SO.cells
 (ds1_11) 87)] 244) Scr.nil)) ∧ True) ∧ True) (K (ds1_6 c d e) (Mem.mk [(1, SO.cells (ds1_5 a b c d e f g) 75), (2, SO.cells (ds1_4 k hk p hp q hq) 77), (45, SO.cells (ds1_5 a b c d
 e f g) 75), (51, SO.cells (ds1_5 a b c d e f g) 75), (83, SO.cells [SC.int false .u64 a, SC.raw (Value.pointer none)] 199), (87, SO.cells [SC.int false .u64 c, SC.raw (Value.pointer
 none)] 199), (91, SO.cells [SC.int false .u64 f, SC.raw (Value.pointer none)] 199), (93, SO.mp true []), (95, SO.cells (ds1_29 a b c d e f g) 204), (109, SO.cells (ds1_4 k hk p hp q
 hq) 77), (110, SO.cells [SC.int true .i64 (0 : Int), SC.int true .i64 (0 : Int)] 82), (128, SO.cells [SC.int true .i64 (0 : Int), SC.int true .i64 (0 : Int)] 82), (137, SO.cells
 (ds1_4 k hk p hp q hq) 77), (138, SO.cells [SC.int true .i64 (0 : Int), SC.int true .i64 (0 : Int)] 82), (207, SO.cells [SC.int false .u64 c, SC.raw (Value.pointer none)] 199),
 (215, SO.cells [SC.int false .u64 c, SC.raw (Value.pointer none)] 199), (235, SO.cells [SC.int true .u64 (0 : Int), SC.raw (Value.pointer none)] 199), (238, SO.cells [SC.int false
 .u64 c, SC.raw (Value.pointer none)] 199), (239, SO.cells [SC.int true .u64 (0 : Int), SC.raw (Value.pointer none)] 199), (254, SO.cells (ds1_11) 87)] 268) Scr.nil)) ∧ True) ∧ True
 → a = a ∧ Value.pointer none = Value.pointer none ∧ c = c ∧ Value.pointer none = Value.pointer none ∧ f = f ∧ Value.pointer none = Value.pointer none ∧ ([] : List (Int × Value)) =
 [] ∧ a = a ∧ b = b ∧ c = c ∧ d = d ∧ e = e ∧ f = f ∧ g = g ∧ c = c ∧ Value.pointer none = Value.pointer none ∧ (True ∧ (∀ (z : Un), True → ds1_10 a c f b d e g X0 k hk p hp q hq) ∧
 True) ∧ True) (K (ds1_6 c d e) (Mem.mk [(1, SO.cells (ds1_5 a b c d e f g) 75), (2, SO.cells (ds1_4 k hk p hp q hq) 77), (45, SO.cells (ds1_5 a b c d e f g) 75), (51, SO.cells
 (ds1_5 a b c d e f g) 75), (83, SO.cells [SC.int false .u64 a, SC.raw (Value.pointer none)] 199), (87, SO.cells [SC.int false .u64 c, SC.raw (Value.pointer none)] 199), (91,
 SO.cells [SC.int false .u64 f, SC.raw (Value.pointer none)] 199), (93, SO.mp true []), (95, SO.cells (ds1_29 a b c d e f g) 204), (109, SO.cells (ds1_4 k hk p hp q hq) 77), (110,
 SO.cells [SC.int true .i64 (0 : Int), SC.int true .i64 (0 : Int)] 82), (128, SO.cells [SC.int true .i64 (0 : Int), SC.int true .i64 (0 : Int)] 82), (137, SO.cells (ds1_4 k hk p hp q
 hq) 77), (138, SO.cells [SC.int true .i64 (0 : Int), SC.int true .i64 (0 : Int)] 82), (207, SO.cells [SC.int false .u64 c, SC.raw (Value.pointer none)] 199), (215, SO.cells [SC.int
 false .u64 c, SC.raw (Value.pointer none)] 199), (235, SO.cells [SC.int true .u64 (0 : Int), SC.raw (Value.pointer none)] 199), (238, SO.cells [SC.int false .u64 c, SC.raw
 (Value.pointer none)] 199), (239, SO.cells [SC.int true .u64 (0 : Int), SC.raw (Value.pointer none)] 199), (254, SO.cells (ds1_11) 87)] 268) Scr.nil)) ∧ True)) ∧ True) ∧ True))) ∧
 True)) ∧ (decide (max (max b e) g ≤ (256 : Int)) = false → true = true)) ∧ (decide (min (min (min b e) g) d ≥ (0 : Int)) = false → true = true)) := by
  kernel_rfl
theorem ds1_run (a b c d e f g : Int) (k p q : Int) (hk : 0 ≤ k ∧ k ≤ 255) (hp : 0 ≤ p ∧ p ≤ 1023) (hq : 0 ≤ q ∧ q ≤ 1023) (hc : DsOk a b c d e f g) : Run (callN Try.prog (tblDS : List (Smry Try.prog XN)) (fun _ _ => false) 100 20 4 [.agg [.int false .u64 a, .int false .i64 b, .int false .u64 c, .int false .i64 d, .int false .i64 e, .int false .u64 f, .int false .i64 g], .agg [.int true .i64 1, .int false .i64 k (.w 0 255 hk), .int false .i64 p (.w 0 1023 hp), .int false .i64 q (.w 0 1023 hq)]] ⟨[], 1⟩ (.cut 4 (liveL [2, 3, 4, 5, 6, 8, 9, 11, 13, 131]) [] Unit (fun _ _ => ([], [])) .nil fun _ => .nil) (fun v _ _ => retTrue v)) := by
  constructor
  rw [ds1_vc]
  delta ds1_28 ds1_1 ds1_17 ds1_2 ds1_11 ds1_3 ds1_4 ds1_5 ds1_16 ds1_6 ds1_7 ds1_8 ds1_9 ds1_33 ds1_10 ds1_12 ds1_13 ds1_14 ds1_15 ds1_18 ds1_19 ds1_20 ds1_21 ds1_22 ds1_23 ds1_24 ds1_25 ds1_26 ds1_27 ds1_29 ds1_30 ds1_31 ds1_32
  obtain ⟨⟨⟨ha0, ha1⟩, ⟨hb0, hb1⟩, hc0, hc1⟩, ⟨hd0, hd1⟩, ⟨he0, he1⟩, ⟨hf0, hf1⟩, hg0, hg1⟩ := hc
  repeat' first
    | (refine fun (K : KO XN) => ?_; simp only [eq_self, true_and, and_true, imp_self, implies_true]; first | done | exact id; done)
    | with_reducible apply And.intro
    | with_reducible exact trivial
    | with_reducible exact Eq.refl _
    | (with_reducible refine Exists.intro () ?_)
    | (intro h; simp only [bne_self_eq_false, Bool.false_eq_true] at h; done)
    | intro _
  all_goals first
    | omega
    | exact (dkF_bd _ _).1
    | (refine Int.lt_of_le_of_lt (dkF_bd _ _).2 ?_; omega)
    | exact ds_tn _ _
    | exact (ds_no (dkF_bd _ 3) hp.1 (by assumption)).elim
    | with_reducible assumption
    | (simp only [Bool.not_eq_false', Bool.not_eq_true', decide_eq_true_eq, decide_eq_false_iff_not] at *; omega)
    | (simp_all; done)
end Go.Proofs.Ytnkikhhiaecebaa
