/- DraftShares, code 5. -/
import Derived.Test.YtnkikhhiaecebaaDsT
import Derived.Test.YtnkikhhiaecebaaBaseC
set_option linter.all false
namespace Go.Proofs.Ytnkikhhiaecebaa
open Go Go.RowKit
set_option maxRecDepth 1000000
set_option maxHeartbeats 0
def ds5_1 (k : Int) (hk : 0 ≤ k ∧ k ≤ 255) (p : Int) (hp : 0 ≤ p ∧ p ≤ 1023) (q : Int) (hq : 0 ≤ q ∧ q ≤ 1023) : List SC := [SC.int true .i64 (5 : Int), SC.int false .i64 k (Bd.w (0
 : Int) (255 : Int) hk), SC.int false .i64 p (Bd.w (0 : Int) (1023 : Int) hp), SC.int false .i64 q (Bd.w (0 : Int) (1023 : Int) hq)]
def ds5_2 (a b c d e f g : Int) : List SC := [SC.int false .u64 a, SC.int false .i64 b, SC.int false .u64 c, SC.int false .i64 d, SC.int false .i64 e, SC.int false .u64 f, SC.int
 false .i64 g]
def ds5_3 (k : Int) (g_1 g_2 g_3 : Nat → Value) (X0 : Prop) : Prop := ((if (dkF k (0 : Int)).toNat = 0 then (0 : Int) else (0 : Int)) = if (dkF k (0 : Int)).toNat = 0 then (0 : Int)
 else (0 : Int)) ∧ ((if (dkF k (0 : Int)).toNat = 1 then (0 : Int) else (0 : Int)) = if (dkF k (0 : Int)).toNat = 1 then (0 : Int) else (0 : Int)) ∧ ((if (dkF k (0 : Int)).toNat = 2
 then (0 : Int) else (0 : Int)) = if (dkF k (0 : Int)).toNat = 2 then (0 : Int) else (0 : Int)) ∧ ((if (dkF k (0 : Int)).toNat = 3 then (0 : Int) else (0 : Int)) = if (dkF k (0 :
 Int)).toNat = 3 then (0 : Int) else (0 : Int)) ∧ g_1 0 = g_1 0 ∧ g_1 1 = g_1 1 ∧ g_1 2 = g_1 2 ∧ g_1 3 = g_1 3 ∧ ((if (dkF k (1 : Int)).toNat = 0 then (0 : Int) else (0 : Int)) = if
 (dkF k (1 : Int)).toNat = 0 then (0 : Int) else (0 : Int)) ∧ ((if (dkF k (1 : Int)).toNat = 1 then (0 : Int) else (0 : Int)) = if (dkF k (1 : Int)).toNat = 1 then (0 : Int) else (0
 : Int)) ∧ ((if (dkF k (1 : Int)).toNat = 2 then (0 : Int) else (0 : Int)) = if (dkF k (1 : Int)).toNat = 2 then (0 : Int) else (0 : Int)) ∧ ((if (dkF k (1 : Int)).toNat = 3 then (0
 : Int) else (0 : Int)) = if (dkF k (1 : Int)).toNat = 3 then (0 : Int) else (0 : Int)) ∧ g_2 0 = g_2 0 ∧ g_2 1 = g_2 1 ∧ g_2 2 = g_2 2 ∧ g_2 3 = g_2 3 ∧ ((if (dkF k (2 : Int)).toNat
 = 0 then (0 : Int) else (0 : Int)) = if (dkF k (2 : Int)).toNat = 0 then (0 : Int) else (0 : Int)) ∧ ((if (dkF k (2 : Int)).toNat = 1 then (0 : Int) else (0 : Int)) = if (dkF k (2 :
 Int)).toNat = 1 then (0 : Int) else (0 : Int)) ∧ ((if (dkF k (2 : Int)).toNat = 2 then (0 : Int) else (0 : Int)) = if (dkF k (2 : Int)).toNat = 2 then (0 : Int) else (0 : Int)) ∧
 ((if (dkF k (2 : Int)).toNat = 3 then (0 : Int) else (0 : Int)) = if (dkF k (2 : Int)).toNat = 3 then (0 : Int) else (0 : Int)) ∧ g_3 0 = g_3 0 ∧ g_3 1 = g_3 1 ∧ g_3 2 = g_3 2 ∧ g_3
 3 = g_3 3 ∧ (((0 : Int) ≤ dkF k (3 : Int) ∧ dkF k (3 : Int) < (4 : Int)) ∧ (dkF k (3 : Int)).toNat < 4 ∧ ((if (dkF k (0 : Int)).toNat = 0 then (0 : Int) else (0 : Int)) = if (dkF k
 (0 : Int)).toNat = 0 then (0 : Int) else (0 : Int)) ∧ ((if (dkF k (0 : Int)).toNat = 1 then (0 : Int) else (0 : Int)) = if (dkF k (0 : Int)).toNat = 1 then (0 : Int) else (0 : Int))
 ∧ ((if (dkF k (0 : Int)).toNat = 2 then (0 : Int) else (0 : Int)) = if (dkF k (0 : Int)).toNat = 2 then (0 : Int) else (0 : Int)) ∧ ((if (dkF k (0 : Int)).toNat = 3 then (0 : Int)
 else (0 : Int)) = if (dkF k (0 : Int)).toNat = 3 then (0 : Int) else (0 : Int)) ∧ g_1 0 = g_1 0 ∧ g_1 1 = g_1 1 ∧ g_1 2 = g_1 2 ∧ g_1 3 = g_1 3 ∧ ((if (dkF k (1 : Int)).toNat = 0
 then (0 : Int) else (0 : Int)) = if (dkF k (1 : Int)).toNat = 0 then (0 : Int) else (0 : Int)) ∧ ((if (dkF k (1 : Int)).toNat = 1 then (0 : Int) else (0 : Int)) = if (dkF k (1 :
 Int)).toNat = 1 then (0 : Int) else (0 : Int)) ∧ ((if (dkF k (1 : Int)).toNat = 2 then (0 : Int) else (0 : Int)) = if (dkF k (1 : Int)).toNat = 2 then (0 : Int) else (0 : Int)) ∧
 ((if (dkF k (1 : Int)).toNat = 3 then (0 : Int) else (0 : Int)) = if (dkF k (1 : Int)).toNat = 3 then (0 : Int) else (0 : Int)) ∧ g_2 0 = g_2 0 ∧ g_2 1 = g_2 1 ∧ g_2 2 = g_2 2 ∧ g_2
 3 = g_2 3 ∧ ((if (dkF k (2 : Int)).toNat = 0 then (0 : Int) else (0 : Int)) = if (dkF k (2 : Int)).toNat = 0 then (0 : Int) else (0 : Int)) ∧ ((if (dkF k (2 : Int)).toNat = 1 then
 (0 : Int) else (0 : Int)) = if (dkF k (2 : Int)).toNat = 1 then (0 : Int) else (0 : Int)) ∧ ((if (dkF k (2 : Int)).toNat = 2 then (0 : Int) else (0 : Int)) = if (dkF k (2 :
 Int)).toNat = 2 then (0 : Int) else (0 : Int)) ∧ ((if (dkF k (2 : Int)).toNat = 3 then (0 : Int) else (0 : Int)) = if (dkF k (2 : Int)).toNat = 3 then (0 : Int) else (0 : Int)) ∧
 g_3 0 = g_3 0 ∧ g_3 1 = g_3 1 ∧ g_3 2 = g_3 2 ∧ g_3 3 = g_3 3 ∧ X0 ∧ True) ∧ True
def ds5_4  : List SC := [SC.int true .u64 (0 : Int), SC.int true .u64 (0 : Int), SC.int true .u64 (0 : Int), SC.int true .u64 (0 : Int)]
def ds5_5 (a c f b d e g : Int) (X0 : Prop) : Prop := a = a ∧ Value.pointer none = Value.pointer none ∧ c = c ∧ Value.pointer none = Value.pointer none ∧ f = f ∧ Value.pointer none
 = Value.pointer none ∧ ([] : List (Int × Value)) = [] ∧ a = a ∧ b = b ∧ c = c ∧ d = d ∧ e = e ∧ f = f ∧ g = g ∧ a = a ∧ Value.pointer none = Value.pointer none ∧ (X0 ∧ True) ∧ True
def ds5_26 (p : Int) (hp : 0 ≤ p ∧ p ≤ 1023) : SV := SV.c (SC.int false .u64 (p + (1 : Int)) (Bd.w (1 : Int) (1024 : Int) (Bd.add._proof_1 (Int.ofNat 0) (Int.ofNat (1022 + 1)) hp (1
 : Int) (1 : Int) Bd.of._proof_1)))
def ds5_38 (p : Int) (hp : 0 ≤ p ∧ p ≤ 1023) (k : Int) (hk : 0 ≤ k ∧ k ≤ 255) (b : Int) : ST := np 141 0 (nu (nu (nu (np 141 0 nu0 tn) nu0) (nu (np 141 2 tn tn) nu0)) (nu (nu (nv
 (ds5_26 p hp) nu0 tn) nu0) (nv (SV.c (SC.int false .i64 k (Bd.w (0 : Int) (255 : Int) hk))) nu0 nu0))) (np 141 0 (nu (nu (np 141 1 nu0 tn) nu0) (nu (nv (SV.c (si .i64 (b + (1 :
 Int)))) tn tn) nu0)) (nu (nu (np 95 0 nu0 tn) nu0) (nv (SV.c (tb true)) nu0 nu0)))
def ds5_34 (p : Int) (hp : 0 ≤ p ∧ p ≤ 1023) (b : Int) : ST := nu (nv (SV.c (SC.int true .u64 (0 : Int))) (nu (nu (nv (SV.c (tb true)) nu0 tn) nu0) (nu (nv (ds5_26 p hp) tn tn)
 nu0)) (nu (nu (np 95 0 nu0 tn) nu0) (nv (SV.c (SC.int true .u64 (0 : Int))) nu0 nu0))) (nv (SV.c (tb false)) (nv (SV.c (SC.int true .i64 (5 : Int))) (nu (np 141 2 nu0 tn) nu0) (np
 95 0 (np 95 0 tn tn) nu0)) (nu (nu (nv (SV.c (SC.int false .i64 b)) nu0 tn) nu0) (nu nu0 nu0)))
def ds5_39 (k : Int) (hk : 0 ≤ k ∧ k ≤ 255) : ST := nv (SV.c (SC.int true .i64 (5 : Int))) (np 141 0 (nu (nv (SV.c (SC.int false .i64 k (Bd.w (0 : Int) (255 : Int) hk))) nu0 tn)
 nu0) (nv (SV.tup [(false, [SC.int true .u64 (0 : Int)]), (false, [tb true])]) (np 95 0 tn tn) nu0)) (nu (nu (np 95 1 nu0 tn) nu0) (nv (SV.c (tb false)) nu0 nu0))
def ds5_33 (p : Int) (hp : 0 ≤ p ∧ p ≤ 1023) : ST := nu (nv (SV.c (tb true)) (nu (nu (np 95 0 nu0 tn) nu0) (nu (nv (SV.c (SC.int true .i64 (1 : Int))) tn tn) nu0)) (nu (nu (np 95 0
 nu0 tn) nu0) (nv (SV.c (tb true)) nu0 nu0))) (nu (nv (SV.c (tb false)) (nu (nv (SV.c (SC.int false .i64 p (Bd.w (0 : Int) (1023 : Int) hp))) nu0 tn) nu0) (np 141 1 (np 95 1 tn tn)
 nu0)) (nu (nu (nv (SV.c (SC.int true .u64 (0 : Int))) tn tn) nu0) (nv (SV.c (tb true)) nu0 nu0)))
def ds5_6 (k : Int) (hk : 0 ≤ k ∧ k ≤ 255) (p : Int) (hp : 0 ≤ p ∧ p ≤ 1023) (q : Int) (hq : 0 ≤ q ∧ q ≤ 1023) (b : Int) : SF := SF.mk 142 (np 95 0 (nv (SV.agg (ds5_1 k hk p hp q
 hq)) (ds5_38 p hp k hk b) (ds5_34 p hp b)) (nu (np 142 0 (nu (nu (nu (nv (SV.c (SC.int true .i64 (5 : Int))) nu0 tn) nu0) (nu (nv (SV.c (SC.int false .i64 p (Bd.w (0 : Int) (1023 :
 Int) hp))) tn tn) nu0)) (nu (nu (nv (SV.tup [(false, [SC.int true .u64 (0 : Int)]), (false, [tb true])]) nu0 tn) nu0) (nv (SV.tup [(false, [SC.int true .u64 (0 : Int)]), (false, [tb
 true])]) nu0 nu0))) (ds5_39 k hk)) (ds5_33 p hp))) []
def ds5_7 (k : Int) (hk : 0 ≤ k ∧ k ≤ 255) (p : Int) (hp : 0 ≤ p ∧ p ≤ 1023) (q : Int) (hq : 0 ≤ q ∧ q ≤ 1023) (b : Int) : ST := nv (SV.agg (ds5_1 k hk p hp q hq)) (ds5_38 p hp k hk
 b) (ds5_34 p hp b)
def ds5_43  : ST := nu (nv (SV.c (tb false)) (nu (np 95 10 tn tn) nu0) (nu nu0 tn)) (nv (SV.c (SC.raw (Value.pointer none))) (nu (nv (SV.tup [(true, (ds5_4)), (false, [tb false])])
 tn tn) tn) (nu nu0 tn))
def ds5_40 (k : Int) : SV := SV.c (SC.int false .i64 (dkF k (0 : Int)) (Bd.w (0 : Int) (3 : Int) (dkF_bd k (Int.ofNat 0))))
def ds5_49  : ST := nv (SV.c (tb false)) (nu (nv (SV.agg (ds5_4)) tn tn) tn) (nv (SV.tup [(true, (ds5_4)), (false, [tb false])]) nu0 tn)
def ds5_8 (a k : Int) : SF := SF.mk 50 (np 95 0 (nv (SV.agg [SC.int false .u64 a, SC.raw (Value.pointer none)]) (ds5_43) (nu (nv (SV.c (tb false)) (nu (np 259 0 tn tn) nu0) (nu nu0
 tn)) (nu (nu (nv (SV.c (tb false)) tn tn) tn) (np 95 0 nu0 tn)))) (nv (ds5_40 k) (np 259 0 (np 275 0 (nu (nv (SV.c (SC.map 93)) tn tn) nu0) (nu nu0 tn)) (ds5_49)) (np 260 0 (np 259
 1 (nu (nv (SV.c (SC.int false .u64 a)) tn tn) tn) (nu nu0 tn)) (nu (nu nu0 tn) (np 95 0 nu0 tn))))) []
def ds5_9 (a k : Int) : SF := SF.mk 50 (np 95 0 (nv (SV.agg [SC.int false .u64 a, SC.raw (Value.pointer none)]) (ds5_43) (nu (nv (SV.c (tb false)) (nu (np 199 0 tn tn) nu0) (nu nu0
 tn)) (nu (nu (nv (SV.c (tb false)) tn tn) tn) (np 95 0 nu0 tn)))) (nv (ds5_40 k) (np 199 0 (np 215 0 (nu (nv (SV.c (SC.map 93)) tn tn) nu0) (nu nu0 tn)) (ds5_49)) (np 200 0 (np 199
 1 (nu (nv (SV.c (SC.int false .u64 a)) tn tn) tn) (nu nu0 tn)) (nu (nu nu0 tn) (np 95 0 nu0 tn))))) []
def ds5_10 (k p : Int) : List SC := [si .u64 (if (dkF k (3 : Int)).toNat = 0 then p + (1 : Int) else (0 : Int)), si .u64 (if (dkF k (3 : Int)).toNat = 1 then p + (1 : Int) else (0 :
 Int)), si .u64 (if (dkF k (3 : Int)).toNat = 2 then p + (1 : Int) else (0 : Int)), si .u64 (if (dkF k (3 : Int)).toNat = 3 then p + (1 : Int) else (0 : Int))]
def ds5_11 (a : Int) : ST := nv (SV.c (SC.int true .i64 (0 : Int))) (nu (nv (SV.c (tb false)) (np 95 7 (nv (SV.tup [(true, [SC.int true .u64 (0 : Int), SC.raw (Value.pointer
 none)]), (false, [tb false])]) tn tn) tn) (nv (SV.agg [SC.int false .u64 a, SC.raw (Value.pointer none)]) nu0 tn)) (nv (SV.c (tb false)) (nv (SV.agg [SC.int false .u64 a, SC.raw
 (Value.pointer none)]) nu0 tn) (nv (SV.agg [SC.int false .u64 a, SC.raw (Value.pointer none)]) tn tn))) (nu (nv (SV.c (SC.int true .i64 (0 : Int))) (np 83 0 (nv (SV.c (tb false)) tn
 tn) tn) (nv (SV.tup [(true, [SC.int true .u64 (0 : Int), SC.raw (Value.pointer none)]), (false, [tb false])]) tn tn)) (nv (SV.c (SC.int true .i64 (0 : Int))) (nv (SV.c (tb true))
 nu0 tn) (nv (SV.c (SC.int true .i64 (0 : Int))) tn tn)))
def ds5_12 (a c f b d e g : Int) (X0 : Prop) : Prop := a = a ∧ Value.pointer none = Value.pointer none ∧ c = c ∧ Value.pointer none = Value.pointer none ∧ f = f ∧ Value.pointer none
 = Value.pointer none ∧ ([] : List (Int × Value)) = [] ∧ a = a ∧ b = b ∧ c = c ∧ d = d ∧ e = e ∧ f = f ∧ g = g ∧ a = a ∧ Value.pointer none = Value.pointer none ∧ X0 ∧ True
def ds5_13 (a b c d e f g : Int) : List SC := [SC.int false .u64 a, SC.int false .i64 b, SC.int false .u64 c, SC.int false .i64 d, SC.int false .i64 e, SC.int false .u64 f, SC.int
 false .i64 g, sp 83 0, sp 87 0, sp 91 0, SC.map 93, SC.nls, SC.nls, SC.nls, SC.int true .u64 (0 : Int)]
def ds5_14 (k p : Int) : List SC := [ti .i64 (3 : Int), si .u64 (if (dkF k (3 : Int)).toNat = 0 then p + (1 : Int) else (0 : Int)), si .u64 (if (dkF k (3 : Int)).toNat = 1 then p +
 (1 : Int) else (0 : Int)), si .u64 (if (dkF k (3 : Int)).toNat = 2 then p + (1 : Int) else (0 : Int)), si .u64 (if (dkF k (3 : Int)).toNat = 3 then p + (1 : Int) else (0 : Int)),
 SC.raw (Value.pointer none), SC.raw (Value.pointer none), SC.raw (Value.pointer none), SC.raw (Value.pointer none), tb false]
def ds5_15 (k : Int) (g_1 : Nat → Value) : List SC := [SC.int true .i64 (0 : Int), si .u64 (if (dkF k (0 : Int)).toNat = 0 then (0 : Int) else (0 : Int)), si .u64 (if (dkF k (0 :
 Int)).toNat = 1 then (0 : Int) else (0 : Int)), si .u64 (if (dkF k (0 : Int)).toNat = 2 then (0 : Int) else (0 : Int)), si .u64 (if (dkF k (0 : Int)).toNat = 3 then (0 : Int) else
 (0 : Int)), SC.raw (g_1 0), SC.raw (g_1 1), SC.raw (g_1 2), SC.raw (g_1 3), tb false]
def ds5_16 (k : Int) (g_2 : Nat → Value) : List SC := [ti .i64 (1 : Int), si .u64 (if (dkF k (1 : Int)).toNat = 0 then (0 : Int) else (0 : Int)), si .u64 (if (dkF k (1 : Int)).toNat
 = 1 then (0 : Int) else (0 : Int)), si .u64 (if (dkF k (1 : Int)).toNat = 2 then (0 : Int) else (0 : Int)), si .u64 (if (dkF k (1 : Int)).toNat = 3 then (0 : Int) else (0 : Int)),
 SC.raw (g_2 0), SC.raw (g_2 1), SC.raw (g_2 2), SC.raw (g_2 3), tb false]
def ds5_17 (k : Int) (g_3 : Nat → Value) : List SC := [ti .i64 (2 : Int), si .u64 (if (dkF k (2 : Int)).toNat = 0 then (0 : Int) else (0 : Int)), si .u64 (if (dkF k (2 : Int)).toNat
 = 1 then (0 : Int) else (0 : Int)), si .u64 (if (dkF k (2 : Int)).toNat = 2 then (0 : Int) else (0 : Int)), si .u64 (if (dkF k (2 : Int)).toNat = 3 then (0 : Int) else (0 : Int)),
 SC.raw (g_3 0), SC.raw (g_3 1), SC.raw (g_3 2), SC.raw (g_3 3), tb false]
def ds5_18 (k : Int) (g_1 g_2 g_3 : Nat → Value) (X0 : Prop) : Prop := True ∧ (∀ (z : Un), True → ((if (dkF k (0 : Int)).toNat = 0 then (0 : Int) else (0 : Int)) = if (dkF k (0 :
 Int)).toNat = 0 then (0 : Int) else (0 : Int)) ∧ ((if (dkF k (0 : Int)).toNat = 1 then (0 : Int) else (0 : Int)) = if (dkF k (0 : Int)).toNat = 1 then (0 : Int) else (0 : Int)) ∧
 ((if (dkF k (0 : Int)).toNat = 2 then (0 : Int) else (0 : Int)) = if (dkF k (0 : Int)).toNat = 2 then (0 : Int) else (0 : Int)) ∧ ((if (dkF k (0 : Int)).toNat = 3 then (0 : Int)
 else (0 : Int)) = if (dkF k (0 : Int)).toNat = 3 then (0 : Int) else (0 : Int)) ∧ g_1 0 = g_1 0 ∧ g_1 1 = g_1 1 ∧ g_1 2 = g_1 2 ∧ g_1 3 = g_1 3 ∧ ((if (dkF k (1 : Int)).toNat = 0
 then (0 : Int) else (0 : Int)) = if (dkF k (1 : Int)).toNat = 0 then (0 : Int) else (0 : Int)) ∧ ((if (dkF k (1 : Int)).toNat = 1 then (0 : Int) else (0 : Int)) = if (dkF k (1 :
 Int)).toNat = 1 then (0 : Int) else (0 : Int)) ∧ ((if (dkF k (1 : Int)).toNat = 2 then (0 : Int) else (0 : Int)) = if (dkF k (1 : Int)).toNat = 2 then (0 : Int) else (0 : Int)) ∧
 ((if (dkF k (1 : Int)).toNat = 3 then (0 : Int) else (0 : Int)) = if (dkF k (1 : Int)).toNat = 3 then (0 : Int) else (0 : Int)) ∧ g_2 0 = g_2 0 ∧ g_2 1 = g_2 1 ∧ g_2 2 = g_2 2 ∧ g_2
 3 = g_2 3 ∧ ((if (dkF k (2 : Int)).toNat = 0 then (0 : Int) else (0 : Int)) = if (dkF k (2 : Int)).toNat = 0 then (0 : Int) else (0 : Int)) ∧ ((if (dkF k (2 : Int)).toNat = 1 then
 (0 : Int) else (0 : Int)) = if (dkF k (2 : Int)).toNat = 1 then (0 : Int) else (0 : Int)) ∧ ((if (dkF k (2 : Int)).toNat = 2 then (0 : Int) else (0 : Int)) = if (dkF k (2 :
 Int)).toNat = 2 then (0 : Int) else (0 : Int)) ∧ ((if (dkF k (2 : Int)).toNat = 3 then (0 : Int) else (0 : Int)) = if (dkF k (2 : Int)).toNat = 3 then (0 : Int) else (0 : Int)) ∧
 g_3 0 = g_3 0 ∧ g_3 1 = g_3 1 ∧ g_3 2 = g_3 2 ∧ g_3 3 = g_3 3 ∧ (ds5_3 k g_1 g_2 g_3 X0) ∧ True) ∧ True
def ds5_19 (c e d f g : Int) : Prop := ((c != c) = true → false = true) ∧ ((c != c) = false → ((e != e) = true → false = true) ∧ ((e != e) = false → ((d != d) = true → false = true)
 ∧ ((d != d) = false → ((f != f) = true → false = true) ∧ ((f != f) = false → ((g != g) = true → false = true) ∧ ((g != g) = false → true = true)))))
def ds5_20 (a c f b d e g : Int) (X0 : Prop) : Prop := (a = a ∧ Value.pointer none = Value.pointer none ∧ c = c ∧ Value.pointer none = Value.pointer none ∧ f = f ∧ Value.pointer
 none = Value.pointer none ∧ ([] : List (Int × Value)) = [] ∧ a = a ∧ b = b ∧ c = c ∧ d = d ∧ e = e ∧ f = f ∧ g = g ∧ a = a ∧ Value.pointer none = Value.pointer none ∧ ((X0 ∧ True) ∧
 True) ∧ True) ∧ True
def ds5_21 (a c f b d e g : Int) (X0 : Prop) (k : Int) (hk : 0 ≤ k ∧ k ≤ 255) (p : Int) (hp : 0 ≤ p ∧ p ≤ 1023) (q : Int) (hq : 0 ≤ q ∧ q ≤ 1023) : Prop := a = a ∧ Value.pointer
 none = Value.pointer none ∧ c = c ∧ Value.pointer none = Value.pointer none ∧ f = f ∧ Value.pointer none = Value.pointer none ∧ ([] : List (Int × Value)) = [] ∧ a = a ∧ b = b ∧ c =
 c ∧ d = d ∧ e = e ∧ f = f ∧ g = g ∧ a = a ∧ Value.pointer none = Value.pointer none ∧ (((ds5_5 a c f b d e g X0) ∧ True) ∧ (∀ (K : KO XN), (fun X1 : Prop => (ds5_12 a c f b d e g
 X1) ∧ True → ds5_5 a c f b d e g X1) (K (ds5_8 a k) (Mem.mk [(1, SO.cells (ds5_2 a b c d e f g) 75), (2, SO.cells (ds5_1 k hk p hp q hq) 77), (45, SO.cells (ds5_2 a b c d e f g)
 75), (51, SO.cells (ds5_2 a b c d e f g) 75), (83, SO.cells [SC.int false .u64 a, SC.raw (Value.pointer none)] 199), (87, SO.cells [SC.int false .u64 c, SC.raw (Value.pointer none)]
 199), (91, SO.cells [SC.int false .u64 f, SC.raw (Value.pointer none)] 199), (93, SO.mp true []), (95, SO.cells (ds5_13 a b c d e f g) 204), (109, SO.cells (ds5_1 k hk p hp q hq)
 77), (110, SO.cells [SC.int true .i64 (0 : Int), SC.int true .i64 (0 : Int)] 82), (128, SO.cells [SC.int true .i64 (0 : Int), SC.int true .i64 (0 : Int)] 82), (141, SO.cells (ds5_1
 k hk p hp q hq) 77), (142, SO.cells [SC.int true .i64 (0 : Int), SC.int true .i64 (0 : Int)] 82), (168, SO.cells [SC.int false .u64 a, SC.raw (Value.pointer none)] 199), (176,
 SO.cells [SC.int false .u64 a, SC.raw (Value.pointer none)] 199), (228, SO.cells [SC.int false .u64 a, SC.raw (Value.pointer none)] 199), (236, SO.cells [SC.int false .u64 a, SC.raw
 (Value.pointer none)] 199), (256, SO.cells [SC.int true .u64 (0 : Int), SC.raw (Value.pointer none)] 199), (259, SO.cells [SC.int false .u64 a, SC.raw (Value.pointer none)] 199),
 (260, SO.cells [SC.int true .u64 (0 : Int), SC.raw (Value.pointer none)] 199), (275, SO.cells (ds5_4) 87)] 265) Scr.nil)) ∧ True) ∧ True
def ds5_22 (a c f b d e g : Int) (X0 : Prop) (k : Int) (hk : 0 ≤ k ∧ k ≤ 255) (p : Int) (hp : 0 ≤ p ∧ p ≤ 1023) (q : Int) (hq : 0 ≤ q ∧ q ≤ 1023) : Prop := a = a ∧ Value.pointer
 none = Value.pointer none ∧ c = c ∧ Value.pointer none = Value.pointer none ∧ f = f ∧ Value.pointer none = Value.pointer none ∧ ([] : List (Int × Value)) = [] ∧ a = a ∧ b = b ∧ c =
 c ∧ d = d ∧ e = e ∧ f = f ∧ g = g ∧ a = a ∧ Value.pointer none = Value.pointer none ∧ (((ds5_5 a c f b d e g X0) ∧ True) ∧ (∀ (K : KO XN), (fun X1 : Prop => (ds5_12 a c f b d e g
 X1) ∧ True → ds5_5 a c f b d e g X1) (K (ds5_9 a k) (Mem.mk [(1, SO.cells (ds5_2 a b c d e f g) 75), (2, SO.cells (ds5_1 k hk p hp q hq) 77), (45, SO.cells (ds5_2 a b c d e f g)
 75), (51, SO.cells (ds5_2 a b c d e f g) 75), (83, SO.cells [SC.int false .u64 a, SC.raw (Value.pointer none)] 199), (87, SO.cells [SC.int false .u64 c, SC.raw (Value.pointer none)]
 199), (91, SO.cells [SC.int false .u64 f, SC.raw (Value.pointer none)] 199), (93, SO.mp true []), (95, SO.cells (ds5_13 a b c d e f g) 204), (109, SO.cells (ds5_1 k hk p hp q hq)
 77), (110, SO.cells [SC.int true .i64 (0 : Int), SC.int true .i64 (0 : Int)] 82), (128, SO.cells [SC.int true .i64 (0 : Int), SC.int true .i64 (0 : Int)] 82), (141, SO.cells (ds5_1
 k hk p hp q hq) 77), (142, SO.cells [SC.int true .i64 (0 : Int), SC.int true .i64 (0 : Int)] 82), (168, SO.cells [SC.int false .u64 a, SC.raw (Value.pointer none)] 199), (176,
 SO.cells [SC.int false .u64 a, SC.raw (Value.pointer none)] 199), (196, SO.cells [SC.int true .u64 (0 : Int), SC.raw (Value.pointer none)] 199), (199, SO.cells [SC.int false .u64 a,
 SC.raw (Value.pointer none)] 199), (200, SO.cells [SC.int true .u64 (0 : Int), SC.raw (Value.pointer none)] 199), (215, SO.cells (ds5_4) 87)] 205) Scr.nil)) ∧ True) ∧ True
def ds5_23 (a k : Int) (hk : 0 ≤ k ∧ k ≤ 255) : SF := SF.mk 40 (np 95 0 (ds5_11 a) (nv (SV.c (SC.int false .i64 k (Bd.w (0 : Int) (255 : Int) hk))) (nu (np 228 0 (np 95 7 (nv
 (SV.agg [SC.int true .u64 (0 : Int), SC.raw (Value.pointer none)]) tn tn) tn) (nv (SV.c (tb false)) tn tn)) (np 95 0 (nv (SV.c (SC.int true .i64 (0 : Int))) nu0 tn) (nv (SV.c
 (SC.int false .i64 k (Bd.w (0 : Int) (255 : Int) hk))) tn tn))) (nv (SV.c (SC.int true .u64 (0 : Int))) (np 256 0 (np 83 0 nu0 tn) (np 95 0 tn tn)) (np 95 0 (nv (SV.c (SC.int true
 .i64 (0 : Int))) nu0 tn) (nv (ds5_40 k) tn tn))))) []
def ds5_24 (a k : Int) (hk : 0 ≤ k ∧ k ≤ 255) : SF := SF.mk 40 (np 95 0 (ds5_11 a) (nv (SV.c (SC.int false .i64 k (Bd.w (0 : Int) (255 : Int) hk))) (nu (np 168 0 (np 95 7 (nv
 (SV.agg [SC.int true .u64 (0 : Int), SC.raw (Value.pointer none)]) tn tn) tn) (nv (SV.c (tb false)) tn tn)) (np 95 0 (nv (SV.c (SC.int true .i64 (0 : Int))) nu0 tn) (nv (SV.c
 (SC.int false .i64 k (Bd.w (0 : Int) (255 : Int) hk))) tn tn))) (nv (SV.c (SC.int true .u64 (0 : Int))) (np 196 0 (np 83 0 nu0 tn) (np 95 0 tn tn)) (np 95 0 (nv (SV.c (SC.int true
 .i64 (0 : Int))) nu0 tn) (nv (ds5_40 k) tn tn))))) []
def ds5_25 (b : Int) : Prop := (-9223372036854775808 : Int) ≤ b + (1 : Int) ∧ b + (1 : Int) ≤ (9223372036854775807 : Int)
def ds5_27 (a c f b d e g k : Int) (hk : 0 ≤ k ∧ k ≤ 255) (p : Int) (hp : 0 ≤ p ∧ p ≤ 1023) (q : Int) (hq : 0 ≤ q ∧ q ≤ 1023) : Prop := ∀ (K : KO XN), (fun X1 : Prop => (ds5_12 a c
 f b d e g X1) ∧ True → ds5_5 a c f b d e g X1) (K (ds5_8 a k) (Mem.mk [(1, SO.cells (ds5_2 a b c d e f g) 75), (2, SO.cells (ds5_1 k hk p hp q hq) 77), (45, SO.cells (ds5_2 a b c d
 e f g) 75), (51, SO.cells (ds5_2 a b c d e f g) 75), (83, SO.cells [SC.int false .u64 a, SC.raw (Value.pointer none)] 199), (87, SO.cells [SC.int false .u64 c, SC.raw (Value.pointer
 none)] 199), (91, SO.cells [SC.int false .u64 f, SC.raw (Value.pointer none)] 199), (93, SO.mp true []), (95, SO.cells (ds5_13 a b c d e f g) 204), (109, SO.cells (ds5_1 k hk p hp q
 hq) 77), (110, SO.cells [SC.int true .i64 (0 : Int), SC.int true .i64 (0 : Int)] 82), (128, SO.cells [SC.int true .i64 (0 : Int), SC.int true .i64 (0 : Int)] 82), (141, SO.cells
 (ds5_1 k hk p hp q hq) 77), (142, SO.cells [SC.int true .i64 (0 : Int), SC.int true .i64 (0 : Int)] 82), (168, SO.cells [SC.int false .u64 a, SC.raw (Value.pointer none)] 199),
 (176, SO.cells [SC.int false .u64 a, SC.raw (Value.pointer none)] 199), (228, SO.cells [SC.int false .u64 a, SC.raw (Value.pointer none)] 199), (236, SO.cells [SC.int false .u64 a,
 SC.raw (Value.pointer none)] 199), (259, SO.cells [SC.int false .u64 a, SC.raw (Value.pointer none)] 199), (260, SO.cells [SC.int true .u64 (0 : Int), SC.raw (Value.pointer none)]
 199), (275, SO.cells (ds5_4) 87)] 265) Scr.nil)
def ds5_28 (p : Int) (hp : 0 ≤ p ∧ p ≤ 1023) (k : Int) (hk : 0 ≤ k ∧ k ≤ 255) : ST := nu (np 142 0 (nu (nu (nu (nv (SV.c (SC.int true .i64 (5 : Int))) nu0 tn) nu0) (nu (nv (SV.c
 (SC.int false .i64 p (Bd.w (0 : Int) (1023 : Int) hp))) tn tn) nu0)) (nu (nu (nv (SV.tup [(false, [SC.int true .u64 (0 : Int)]), (false, [tb false])]) nu0 tn) nu0) (nv (SV.tup
 [(false, [SC.int true .u64 (0 : Int)]), (false, [tb true])]) nu0 nu0))) (ds5_39 k hk)) (ds5_33 p hp)
def ds5_29 (a b c d e f g : Int) : List SC := [SC.int false .u64 a, SC.int false .i64 b, SC.int false .u64 c, SC.int false .i64 d, SC.int false .i64 e, SC.int false .u64 f, SC.int
 false .i64 g, sp 83 0, sp 87 0, sp 91 0, SC.map 93, SC.nls, SC.nls, SC.nls, SC.int false .u64 a]
def ds5_30 (a c f b d e g k : Int) (hk : 0 ≤ k ∧ k ≤ 255) (p : Int) (hp : 0 ≤ p ∧ p ≤ 1023) (q : Int) (hq : 0 ≤ q ∧ q ≤ 1023) : Prop := ∀ (K : KO XN), (fun X1 : Prop => (ds5_12 a c
 f b d e g X1) ∧ True → ds5_5 a c f b d e g X1) (K (ds5_9 a k) (Mem.mk [(1, SO.cells (ds5_2 a b c d e f g) 75), (2, SO.cells (ds5_1 k hk p hp q hq) 77), (45, SO.cells (ds5_2 a b c d
 e f g) 75), (51, SO.cells (ds5_2 a b c d e f g) 75), (83, SO.cells [SC.int false .u64 a, SC.raw (Value.pointer none)] 199), (87, SO.cells [SC.int false .u64 c, SC.raw (Value.pointer
 none)] 199), (91, SO.cells [SC.int false .u64 f, SC.raw (Value.pointer none)] 199), (93, SO.mp true []), (95, SO.cells (ds5_13 a b c d e f g) 204), (109, SO.cells (ds5_1 k hk p hp q
 hq) 77), (110, SO.cells [SC.int true .i64 (0 : Int), SC.int true .i64 (0 : Int)] 82), (128, SO.cells [SC.int true .i64 (0 : Int), SC.int true .i64 (0 : Int)] 82), (141, SO.cells
 (ds5_1 k hk p hp q hq) 77), (142, SO.cells [SC.int true .i64 (0 : Int), SC.int true .i64 (0 : Int)] 82), (168, SO.cells [SC.int false .u64 a, SC.raw (Value.pointer none)] 199),
 (176, SO.cells [SC.int false .u64 a, SC.raw (Value.pointer none)] 199), (199, SO.cells [SC.int false .u64 a, SC.raw (Value.pointer none)] 199), (200, SO.cells [SC.int true .u64 (0 :
 Int), SC.raw (Value.pointer none)] 199), (215, SO.cells (ds5_4) 87)] 205) Scr.nil)
def ds5_31 (k : Int) : SV := SV.c (SC.int false .i64 (dkF k (2 : Int)) (Bd.w (0 : Int) (3 : Int) (dkF_bd k (Int.ofNat (1 + 1)))))
def ds5_32 (k : Int) : SV := SV.c (SC.int false .i64 (dkF k (3 : Int)) (Bd.w (0 : Int) (3 : Int) (dkF_bd k (Int.ofNat (2 + 1)))))
def ds5_35 (k p : Int) : Prop := (false == ((if (dkF k (3 : Int)).toNat = 0 then p + (1 : Int) else (0 : Int)) == (0 : Int) && ((if (dkF k (3 : Int)).toNat = 1 then p + (1 : Int)
 else (0 : Int)) == (0 : Int) && ((if (dkF k (3 : Int)).toNat = 2 then p + (1 : Int) else (0 : Int)) == (0 : Int) && ((if (dkF k (3 : Int)).toNat = 3 then p + (1 : Int) else (0 :
 Int)) == (0 : Int) && true))))) = false → Stuck 131
def ds5_36 (a c f k p q b : Int) (X0 : Prop) : Prop := a = a ∧ Value.pointer none = Value.pointer none ∧ c = c ∧ Value.pointer none = Value.pointer none ∧ f = f ∧ Value.pointer none
 = Value.pointer none ∧ ([] : List (Int × Value)) = [] ∧ k = k ∧ p = p ∧ q = q ∧ (ds5_25 b) ∧ X0 ∧ True
def ds5_37  : List SC := [SC.int true .i64 (0 : Int), SC.int true .u64 (0 : Int), SC.int true .u64 (0 : Int), SC.int true .u64 (0 : Int), SC.int true .u64 (0 : Int), SC.raw
 (Value.pointer none), SC.raw (Value.pointer none), SC.raw (Value.pointer none), SC.raw (Value.pointer none), tb false]
def ds5_41 (c f k p q : Int) (cap : Nat) (a : Int) (cap_4 : Nat) (b : Int) (X0 : Prop) : Prop := c = c ∧ Value.pointer none = Value.pointer none ∧ f = f ∧ Value.pointer none =
 Value.pointer none ∧ ([] : List (Int × Value)) = [] ∧ k = k ∧ p = p ∧ q = q ∧ cap = cap ∧ a = a ∧ cap_4 = cap_4 ∧ (ds5_25 b) ∧ X0 ∧ True
def ds5_42 (c f k p q : Int) (cap : Nat) (b : Int) (X0 : Prop) : Prop := c = c ∧ Value.pointer none = Value.pointer none ∧ f = f ∧ Value.pointer none = Value.pointer none ∧ ([] :
 List (Int × Value)) = [] ∧ k = k ∧ p = p ∧ q = q ∧ cap = cap ∧ (ds5_25 b) ∧ X0 ∧ True
def ds5_44 (k : Int) (hk : 0 ≤ k ∧ k ≤ 255) : ST := nv (SV.c (SC.int true .i64 (0 : Int))) (np 260 3 (nv (ds5_31 k) tn tn) nu0) (nv (SV.agg [ti .u64 (0 : Int), SC.raw (Value.pointer
 none)]) (nv (SV.c (SC.int false .i64 k (Bd.w (0 : Int) (255 : Int) hk))) tn tn) tn)
def ds5_45 (c e d f g : Int) : Prop := (True ∧ True ∧ 1 ≤ 1000000000 ∧ ∀ (cap : Nat), 1 ≤ cap → cap = cap ∧ True ∧ 2 ≤ 1000000000 ∧ ∀ (cap : Nat), 2 ≤ cap → cap = cap ∧ True ∧ 3 ≤
 1000000000 ∧ ∀ (cap : Nat), 3 ≤ cap → cap = cap ∧ True ∧ 4 ≤ 1000000000 ∧ ∀ (cap : Nat), 4 ≤ cap → ds5_19 c e d f g) ∧ True
def ds5_46 (a b c d e f g : Int) (cap_4 cap : Nat) : List SC := [SC.int false .u64 a, si .i64 (b + (1 : Int)), SC.int false .u64 c, SC.int false .i64 d, SC.int false .i64 e, SC.int
 false .u64 f, SC.int false .i64 g, sp 663 0, sp 87 0, sp 91 0, SC.map 93, SC.sli 547 1 true 0 true 4 cap_4, SC.sli 311 1 true 0 true 1 cap, SC.nls, SC.int true .u64 (0 : Int)]
def ds5_47 (k : Int) : ST := nv (SV.c (ti .i64 (3 : Int))) (nv (SV.c (SC.int false .i64 (dkF k (3 : Int)) (Bd.w (0 : Int) (3 : Int) (dkF_bd k (3 : Int))))) tn tn) tn
def ds5_48 (a b c d e f g : Int) (cap : Nat) : List SC := [SC.int false .u64 a, si .i64 (b + (1 : Int)), SC.int false .u64 c, SC.int false .i64 d, SC.int false .i64 e, SC.int false
 .u64 f, SC.int false .i64 g, sp 640 0, sp 87 0, sp 91 0, SC.map 93, SC.sli 524 1 true 0 true 4 cap, SC.nls, SC.nls, SC.int true .u64 (0 : Int)]
/-- What the executor leaves to be shown of roundelay/roundelaylaw08.DraftShares, written out. -/
theorem ds5_vc (a b c d e f g : Int) (k p q : Int) (hk : 0 ≤ k ∧ k ≤ 255) (hp : 0 ≤ p ∧ p ≤ 1023) (hq : 0 ≤ q ∧ q ≤ 1023) : (callN Try.prog (tblDS : List (Smry Try.prog XN)) (fun _ _ => false) 100 20 4 [.agg [.int false .u64 a, .int false .i64 b, .int false .u64 c, .int false .i64 d, .int false .i64 e, .int false .u64 f, .int false .i64 g], .agg [.int true .i64 5, .int false .i64 k (.w 0 255 hk), .int false .i64 p (.w 0 1023 hp), .int false .i64 q (.w 0 1023 hq)]] ⟨[], 1⟩ (.cut 4 (liveL [2, 3, 4, 5, 6, 8, 9, 11, 13, 131]) [] Unit (fun _ _ => ([], [])) .nil fun _ => .nil) (fun v _ _ => retTrue v)) = (
 (((c == (0 : Int)) = true → (decide (e > (0 : Int)) = true → ∃ (y : Unit), a = a ∧ b = b ∧ c = c ∧ d = d ∧ e = e ∧ f = f ∧ g = g ∧ k = k ∧ p = p ∧ q = q ∧ True) ∧ (decide (e > (0 :
 Int)) = false → ∃ (y : Unit), a = a ∧ b = b ∧ c = c ∧ d = d ∧ e = e ∧ f = f ∧ g = g ∧ k = k ∧ p = p ∧ q = q ∧ True)) ∧ ((c == (0 : Int)) = false → ∃ (y : Unit), a = a ∧ b = b ∧ c =
 c ∧ d = d ∧ e = e ∧ f = f ∧ g = g ∧ k = k ∧ p = p ∧ q = q ∧ True)) ∧ ∀ (y : Unit) (ρ : Nat → Value), (decide (min (min (min b e) g) d ≥ (0 : Int)) = true → (decide (max (max b e) g
 ≤ (256 : Int)) = true → ((!decide (d < (256 : Int))) = true → true = true) ∧ ((!decide (d < (256 : Int))) = false → True ∧ (∀ (z : Un), True → ((!decide (RightO (5 : Int) k p q)) =
 true → ds5_19 c e d f g) ∧ ((!decide (RightO (5 : Int) k p q)) = false → ((a == (0 : Int)) = true → (a = a ∧ Value.pointer none = Value.pointer none ∧ c = c ∧ Value.pointer none =
 Value.pointer none ∧ f = f ∧ Value.pointer none = Value.pointer none ∧ ([] : List (Int × Value)) = [] ∧ a = a ∧ b = b ∧ c = c ∧ d = d ∧ e = e ∧ f = f ∧ g = g ∧ k = k ∧ p = p ∧ q = q
 ∧ (((a == (0 : Int)) = true → ((a != (0 : Int)) = true → (((a = a ∧ Value.pointer none = Value.pointer none ∧ (a = a ∧ Value.pointer none = Value.pointer none ∧ (True ∧ True ∧ 1 ≤
 1000000000 ∧ ∀ (cap : Nat), 1 ≤ cap → (True ∧ True ∧ 1 ≤ 1000000000 ∧ ∀ (cap_1 : Nat), 1 ≤ cap_1 → True ∧ (∀ (z : Un), True → ((0 : Int) ≤ dkF k (0 : Int) ∧ dkF k (0 : Int) < (4 :
 Int)) ∧ (dkF k (0 : Int)).toNat < 4 ∧ ((0 : Int) ≤ dkF k (0 : Int) ∧ dkF k (0 : Int) < (4 : Int)) ∧ (dkF k (0 : Int)).toNat < 4 ∧ (cap_1 = cap_1 ∧ True ∧ 2 ≤ 1000000000 ∧ ∀ (cap_2 :
 Nat), 2 ≤ cap_2 → True ∧ (∀ (z : Un), True → ((0 : Int) ≤ dkF k (1 : Int) ∧ dkF k (1 : Int) < (4 : Int)) ∧ (dkF k (1 : Int)).toNat < 4 ∧ ((0 : Int) ≤ dkF k (1 : Int) ∧ dkF k (1 :
 Int) < (4 : Int)) ∧ (dkF k (1 : Int)).toNat < 4 ∧ (True ∧ (∀ (z : Un), True → ((0 : Int) ≤ dkF k (0 : Int) ∧ dkF k (0 : Int) < (4 : Int)) ∧ ((dkF k (0 : Int)).toNat < 4 ∧ ∀ (g_1 :
 Nat → Value), Value.pointer none = Value.pointer none ∧ Value.pointer none = Value.pointer none ∧ Value.pointer none = Value.pointer none ∧ Value.pointer none = Value.pointer none ∧
 Value.pointer none = Value.pointer none ∧ Value.pointer none = Value.pointer none ∧ ((0 : Int) ≤ dkF k (0 : Int) ∧ dkF k (0 : Int) < (4 : Int)) ∧ ((dkF k (0 : Int)).toNat < 4 ∧
 cap_2 = cap_2 ∧ True ∧ 3 ≤ 1000000000 ∧ ∀ (cap_3 : Nat), 3 ≤ cap_3 → True ∧ (∀ (z : Un), True → ((0 : Int) ≤ dkF k (2 : Int) ∧ dkF k (2 : Int) < (4 : Int)) ∧ (dkF k (2 : Int)).toNat
 < 4 ∧ ((0 : Int) ≤ dkF k (2 : Int) ∧ dkF k (2 : Int) < (4 : Int)) ∧ (dkF k (2 : Int)).toNat < 4 ∧ (True ∧ (∀ (z : Un), True → ((0 : Int) ≤ dkF k (1 : Int) ∧ dkF k (1 : Int) < (4 :
 Int)) ∧ ((dkF k (1 : Int)).toNat < 4 ∧ ∀ (g_2 : Nat → Value), Value.pointer none = Value.pointer none ∧ Value.pointer none = Value.pointer none ∧ Value.pointer none = Value.pointer
 none ∧ Value.pointer none = Value.pointer none ∧ Value.pointer none = Value.pointer none ∧ ((0 : Int) ≤ dkF k (1 : Int) ∧ dkF k (1 : Int) < (4 : Int)) ∧ ((dkF k (1 : Int)).toNat < 4
 ∧ cap_3 = cap_3 ∧ True ∧ 4 ≤ 1000000000 ∧ ∀ (cap_4 : Nat), 4 ≤ cap_4 → True ∧ (∀ (z : Un), True → ((0 : Int) ≤ dkF k (3 : Int) ∧ dkF k (3 : Int) < (4 : Int)) ∧ (dkF k (3 :
 Int)).toNat < 4 ∧ ((0 : Int) ≤ dkF k (3 : Int) ∧ dkF k (3 : Int) < (4 : Int)) ∧ (dkF k (3 : Int)).toNat < 4 ∧ (True ∧ (∀ (z : Un), True → ((0 : Int) ≤ dkF k (2 : Int) ∧ dkF k (2 :
 Int) < (4 : Int)) ∧ ((dkF k (2 : Int)).toNat < 4 ∧ ∀ (g_3 : Nat → Value), ((if (dkF k (0 : Int)).toNat = 0 then (0 : Int) else (0 : Int)) = if (dkF k (0 : Int)).toNat = 0 then (0 :
 Int) else (0 : Int)) ∧ ((if (dkF k (0 : Int)).toNat = 1 then (0 : Int) else (0 : Int)) = if (dkF k (0 : Int)).toNat = 1 then (0 : Int) else (0 : Int)) ∧ ((if (dkF k (0 : Int)).toNat
 = 2 then (0 : Int) else (0 : Int)) = if (dkF k (0 : Int)).toNat = 2 then (0 : Int) else (0 : Int)) ∧ ((if (dkF k (0 : Int)).toNat = 3 then (0 : Int) else (0 : Int)) = if (dkF k (0 :
 Int)).toNat = 3 then (0 : Int) else (0 : Int)) ∧ g_1 0 = g_1 0 ∧ g_1 1 = g_1 1 ∧ g_1 2 = g_1 2 ∧ g_1 3 = g_1 3 ∧ Value.pointer none = Value.pointer none ∧ Value.pointer none =
 Value.pointer none ∧ Value.pointer none = Value.pointer none ∧ Value.pointer none = Value.pointer none ∧ ((0 : Int) ≤ dkF k (2 : Int) ∧ dkF k (2 : Int) < (4 : Int)) ∧ ((dkF k (2 :
 Int)).toNat < 4 ∧ (((if (dkF k (0 : Int)).toNat = 0 then (0 : Int) else (0 : Int)) = if (dkF k (0 : Int)).toNat = 0 then (0 : Int) else (0 : Int)) ∧ ((if (dkF k (0 : Int)).toNat = 1
 then (0 : Int) else (0 : Int)) = if (dkF k (0 : Int)).toNat = 1 then (0 : Int) else (0 : Int)) ∧ ((if (dkF k (0 : Int)).toNat = 2 then (0 : Int) else (0 : Int)) = if (dkF k (0 :
 Int)).toNat = 2 then (0 : Int) else (0 : Int)) ∧ ((if (dkF k (0 : Int)).toNat = 3 then (0 : Int) else (0 : Int)) = if (dkF k (0 : Int)).toNat = 3 then (0 : Int) else (0 : Int)) ∧
 g_1 0 = g_1 0 ∧ g_1 1 = g_1 1 ∧ g_1 2 = g_1 2 ∧ g_1 3 = g_1 3 ∧ ((if (dkF k (1 : Int)).toNat = 0 then (0 : Int) else (0 : Int)) = if (dkF k (1 : Int)).toNat = 0 then (0 : Int) else
 (0 : Int)) ∧ ((if (dkF k (1 : Int)).toNat = 1 then (0 : Int) else (0 : Int)) = if (dkF k (1 : Int)).toNat = 1 then (0 : Int) else (0 : Int)) ∧ ((if (dkF k (1 : Int)).toNat = 2 then
 (0 : Int) else (0 : Int)) = if (dkF k (1 : Int)).toNat = 2 then (0 : Int) else (0 : Int)) ∧ ((if (dkF k (1 : Int)).toNat = 3 then (0 : Int) else (0 : Int)) = if (dkF k (1 :
 Int)).toNat = 3 then (0 : Int) else (0 : Int)) ∧ g_2 0 = g_2 0 ∧ g_2 1 = g_2 1 ∧ g_2 2 = g_2 2 ∧ g_2 3 = g_2 3 ∧ ((if (dkF k (2 : Int)).toNat = 0 then (0 : Int) else (0 : Int)) = if
 (dkF k (2 : Int)).toNat = 0 then (0 : Int) else (0 : Int)) ∧ ((if (dkF k (2 : Int)).toNat = 1 then (0 : Int) else (0 : Int)) = if (dkF k (2 : Int)).toNat = 1 then (0 : Int) else (0
 : Int)) ∧ ((if (dkF k (2 : Int)).toNat = 2 then (0 : Int) else (0 : Int)) = if (dkF k (2 : Int)).toNat = 2 then (0 : Int) else (0 : Int)) ∧ ((if (dkF k (2 : Int)).toNat = 3 then (0
 : Int) else (0 : Int)) = if (dkF k (2 : Int)).toNat = 3 then (0 : Int) else (0 : Int)) ∧ g_3 0 = g_3 0 ∧ g_3 1 = g_3 1 ∧ g_3 2 = g_3 2 ∧ g_3 3 = g_3 3 ∧ (True ∧ (∀ (z : Un), True →
 ((if (dkF k (0 : Int)).toNat = 0 then (0 : Int) else (0 : Int)) = if (dkF k (0 : Int)).toNat = 0 then (0 : Int) else (0 : Int)) ∧ ((if (dkF k (0 : Int)).toNat = 1 then (0 : Int)
 else (0 : Int)) = if (dkF k (0 : Int)).toNat = 1 then (0 : Int) else (0 : Int)) ∧ ((if (dkF k (0 : Int)).toNat = 2 then (0 : Int) else (0 : Int)) = if (dkF k (0 : Int)).toNat = 2
 then (0 : Int) else (0 : Int)) ∧ ((if (dkF k (0 : Int)).toNat = 3 then (0 : Int) else (0 : Int)) = if (dkF k (0 : Int)).toNat = 3 then (0 : Int) else (0 : Int)) ∧ g_1 0 = g_1 0 ∧
 g_1 1 = g_1 1 ∧ g_1 2 = g_1 2 ∧ g_1 3 = g_1 3 ∧ ((if (dkF k (1 : Int)).toNat = 0 then (0 : Int) else (0 : Int)) = if (dkF k (1 : Int)).toNat = 0 then (0 : Int) else (0 : Int)) ∧
 ((if (dkF k (1 : Int)).toNat = 1 then (0 : Int) else (0 : Int)) = if (dkF k (1 : Int)).toNat = 1 then (0 : Int) else (0 : Int)) ∧ ((if (dkF k (1 : Int)).toNat = 2 then (0 : Int)
 else (0 : Int)) = if (dkF k (1 : Int)).toNat = 2 then (0 : Int) else (0 : Int)) ∧ ((if (dkF k (1 : Int)).toNat = 3 then (0 : Int) else (0 : Int)) = if (dkF k (1 : Int)).toNat = 3
 then (0 : Int) else (0 : Int)) ∧ g_2 0 = g_2 0 ∧ g_2 1 = g_2 1 ∧ g_2 2 = g_2 2 ∧ g_2 3 = g_2 3 ∧ ((if (dkF k (2 : Int)).toNat = 0 then (0 : Int) else (0 : Int)) = if (dkF k (2 :
 Int)).toNat = 0 then (0 : Int) else (0 : Int)) ∧ ((if (dkF k (2 : Int)).toNat = 1 then (0 : Int) else (0 : Int)) = if (dkF k (2 : Int)).toNat = 1 then (0 : Int) else (0 : Int)) ∧
 ((if (dkF k (2 : Int)).toNat = 2 then (0 : Int) else (0 : Int)) = if (dkF k (2 : Int)).toNat = 2 then (0 : Int) else (0 : Int)) ∧ ((if (dkF k (2 : Int)).toNat = 3 then (0 : Int)
 else (0 : Int)) = if (dkF k (2 : Int)).toNat = 3 then (0 : Int) else (0 : Int)) ∧ g_3 0 = g_3 0 ∧ g_3 1 = g_3 1 ∧ g_3 2 = g_3 2 ∧ g_3 3 = g_3 3 ∧ (((0 : Int) ≤ dkF k (3 : Int) ∧ dkF
 k (3 : Int) < (4 : Int)) ∧ (dkF k (3 : Int)).toNat < 4 ∧ ((if (dkF k (0 : Int)).toNat = 0 then (0 : Int) else (0 : Int)) = if (dkF k (0 : Int)).toNat = 0 then (0 : Int) else (0 :
 Int)) ∧ ((if (dkF k (0 : Int)).toNat = 1 then (0 : Int) else (0 : Int)) = if (dkF k (0 : Int)).toNat = 1 then (0 : Int) else (0 : Int)) ∧ ((if (dkF k (0 : Int)).toNat = 2 then (0 :
 Int) else (0 : Int)) = if (dkF k (0 : Int)).toNat = 2 then (0 : Int) else (0 : Int)) ∧ ((if (dkF k (0 : Int)).toNat = 3 then (0 : Int) else (0 : Int)) = if (dkF k (0 : Int)).toNat =
 3 then (0 : Int) else (0 : Int)) ∧ g_1 0 = g_1 0 ∧ g_1 1 = g_1 1 ∧ g_1 2 = g_1 2 ∧ g_1 3 = g_1 3 ∧ ((if (dkF k (1 : Int)).toNat = 0 then (0 : Int) else (0 : Int)) = if (dkF k (1 :
 Int)).toNat = 0 then (0 : Int) else (0 : Int)) ∧ ((if (dkF k (1 : Int)).toNat = 1 then (0 : Int) else (0 : Int)) = if (dkF k (1 : Int)).toNat = 1 then (0 : Int) else (0 : Int)) ∧
 ((if (dkF k (1 : Int)).toNat = 2 then (0 : Int) else (0 : Int)) = if (dkF k (1 : Int)).toNat = 2 then (0 : Int) else (0 : Int)) ∧ ((if (dkF k (1 : Int)).toNat = 3 then (0 : Int)
 else (0 : Int)) = if (dkF k (1 : Int)).toNat = 3 then (0 : Int) else (0 : Int)) ∧ g_2 0 = g_2 0 ∧ g_2 1 = g_2 1 ∧ g_2 2 = g_2 2 ∧ g_2 3 = g_2 3 ∧ ((if (dkF k (2 : Int)).toNat = 0
 then (0 : Int) else (0 : Int)) = if (dkF k (2 : Int)).toNat = 0 then (0 : Int) else (0 : Int)) ∧ ((if (dkF k (2 : Int)).toNat = 1 then (0 : Int) else (0 : Int)) = if (dkF k (2 :
 Int)).toNat = 1 then (0 : Int) else (0 : Int)) ∧ ((if (dkF k (2 : Int)).toNat = 2 then (0 : Int) else (0 : Int)) = if (dkF k (2 : Int)).toNat = 2 then (0 : Int) else (0 : Int)) ∧
 ((if (dkF k (2 : Int)).toNat = 3 then (0 : Int) else (0 : Int)) = if (dkF k (2 : Int)).toNat = 3 then (0 : Int) else (0 : Int)) ∧ g_3 0 = g_3 0 ∧ g_3 1 = g_3 1 ∧ g_3 2 = g_3 2 ∧ g_3
 3 = g_3 3 ∧ (((false == ((if (dkF k (3 : Int)).toNat = 0 then p + (1 : Int) else (0 : Int)) == (0 : Int) && ((if (dkF k (3 : Int)).toNat = 1 then p + (1 : Int) else (0 : Int)) == (0
 : Int) && ((if (dkF k (3 : Int)).toNat = 2 then p + (1 : Int) else (0 : Int)) == (0 : Int) && ((if (dkF k (3 : Int)).toNat = 3 then p + (1 : Int) else (0 : Int)) == (0 : Int) &&
 true))))) = true → (((c = c ∧ Value.pointer none = Value.pointer none ∧ f = f ∧ Value.pointer none = Value.pointer none ∧ ([] : List (Int × Value)) = [] ∧ k = k ∧ p = p ∧ q = q ∧
 cap = cap ∧ a = a ∧ cap_4 = cap_4 ∧ (c = c ∧ Value.pointer none = Value.pointer none ∧ f = f ∧ Value.pointer none = Value.pointer none ∧ ([] : List (Int × Value)) = [] ∧ k = k ∧ p =
 p ∧ q = q ∧ cap = cap ∧ a = a ∧ cap_4 = cap_4 ∧ (c = c ∧ Value.pointer none = Value.pointer none ∧ f = f ∧ Value.pointer none = Value.pointer none ∧ ([] : List (Int × Value)) = [] ∧
 k = k ∧ p = p ∧ q = q ∧ cap = cap ∧ a = a ∧ cap_4 = cap_4 ∧ (ds5_25 b) ∧ ds5_45 c e d f g) ∧ True) ∧ True) ∧ (∀ (K : KO XN), (fun X0 : Prop => c = c ∧ Value.pointer none =
 Value.pointer none ∧ f = f ∧ Value.pointer none = Value.pointer none ∧ ([] : List (Int × Value)) = [] ∧ k = k ∧ p = p ∧ q = q ∧ cap = cap ∧ a = a ∧ cap_4 = cap_4 ∧ (c = c ∧
 Value.pointer none = Value.pointer none ∧ f = f ∧ Value.pointer none = Value.pointer none ∧ ([] : List (Int × Value)) = [] ∧ k = k ∧ p = p ∧ q = q ∧ cap = cap ∧ a = a ∧ cap_4 =
 cap_4 ∧ (ds5_41 c f k p q cap a cap_4 b X0) ∧ True) ∧ True → c = c ∧ Value.pointer none = Value.pointer none ∧ f = f ∧ Value.pointer none = Value.pointer none ∧ ([] : List (Int ×
 Value)) = [] ∧ k = k ∧ p = p ∧ q = q ∧ cap = cap ∧ a = a ∧ cap_4 = cap_4 ∧ ((ds5_41 c f k p q cap a cap_4 b X0) ∧ True) ∧ (∀ (K : KO XN), (fun X1 : Prop => (ds5_41 c f k p q cap a
 cap_4 b X1) ∧ True → c = c ∧ Value.pointer none = Value.pointer none ∧ f = f ∧ Value.pointer none = Value.pointer none ∧ ([] : List (Int × Value)) = [] ∧ k = k ∧ p = p ∧ q = q ∧ cap
 = cap ∧ a = a ∧ cap_4 = cap_4 ∧ ((ds5_25 b) ∧ X1 ∧ True) ∧ True) (K (ds5_6 k hk p hp q hq b) (Mem.mk [(1, SO.cells (ds5_2 a b c d e f g) 75), (2, SO.cells (ds5_1 k hk p hp q hq)
 77), (45, SO.cells (ds5_2 a b c d e f g) 75), (51, SO.cells (ds5_2 a b c d e f g) 75), (83, SO.cells [SC.int false .u64 a, SC.raw (Value.pointer none)] 199), (87, SO.cells [SC.int
 false .u64 c, SC.raw (Value.pointer none)] 199), (91, SO.cells [SC.int false .u64 f, SC.raw (Value.pointer none)] 199), (93, SO.mp true []), (95, SO.cells (ds5_46 a b c d e f g
 cap_4 cap) 204), (109, SO.cells (ds5_1 k hk p hp q hq) 77), (110, SO.cells [SC.int true .i64 (0 : Int), SC.int true .i64 (0 : Int)] 82), (128, SO.cells [SC.int true .i64 (0 : Int),
 SC.int true .i64 (0 : Int)] 82), (141, SO.cells (ds5_1 k hk p hp q hq) 77), (142, SO.cells [SC.int true .i64 (0 : Int), SC.int true .i64 (0 : Int)] 82), (168, SO.cells [SC.int false
 .u64 a, SC.raw (Value.pointer none)] 199), (176, SO.cells [SC.int false .u64 a, SC.raw (Value.pointer none)] 199), (228, SO.cells [SC.int false .u64 a, SC.raw (Value.pointer none)]
 199), (236, SO.cells [SC.int false .u64 a, SC.raw (Value.pointer none)] 199), (260, SO.cells [sp 287 0, sp 369 0, sp 452 0, sp 535 0] 210), (269, SO.cells [ti .u64 (0 : Int), SC.raw
 (Value.pointer none)] 199), (280, SO.cells [SC.int false .u64 a, SC.raw (Value.pointer none)] 199), (287, SO.cells (ds5_15 k g_1) 212), (310, SO.cells [SC.int false .u64 a] 29),
 (311, SO.row 29 1 1 cap [SC.int false .u64 a]), (321, SO.cells [sp 287 0] 197), (362, SO.cells [ti .u64 (0 : Int), SC.raw (Value.pointer none)] 199), (369, SO.cells (ds5_16 k g_2)
 212), (380, SO.cells [sp 369 0] 197), (445, SO.cells [ti .u64 (0 : Int), SC.raw (Value.pointer none)] 199), (452, SO.cells (ds5_17 k g_3) 212), (463, SO.cells [sp 452 0] 197), (528,
 SO.cells [ti .u64 (0 : Int), SC.raw (Value.pointer none)] 199), (535, SO.cells (ds5_14 k p) 212), (546, SO.cells [sp 535 0] 197), (547, SO.row 197 1 4 cap_4 [sp 287 0, sp 369 0, sp
 452 0, sp 535 0]), (618, SO.cells (ds5_10 k p) 87), (619, SO.cells (ds5_10 k p) 87), (636, SO.cells [sp 287 0, sp 369 0, sp 452 0, sp 535 0] 210), (663, SO.cells [SC.int true .u64
 (0 : Int), sp 287 0] 199)] 706) Scr.nil)) ∧ True) (K (ds5_6 k hk p hp q hq b) (Mem.mk [(1, SO.cells (ds5_2 a b c d e f g) 75), (2, SO.cells (ds5_1 k hk p hp q hq) 77), (45, SO.cells
 (ds5_2 a b c d e f g) 75), (51, SO.cells (ds5_2 a b c d e f g) 75), (83, SO.cells [SC.int false .u64 a, SC.raw (Value.pointer none)] 199), (87, SO.cells [SC.int false .u64 c, SC.raw
 (Value.pointer none)] 199), (91, SO.cells [SC.int false .u64 f, SC.raw (Value.pointer none)] 199), (93, SO.mp true []), (95, SO.cells (ds5_46 a b c d e f g cap_4 cap) 204), (109,
 SO.cells (ds5_1 k hk p hp q hq) 77), (110, SO.cells [SC.int true .i64 (0 : Int), SC.int true .i64 (0 : Int)] 82), (128, SO.cells [SC.int true .i64 (0 : Int), SC.int true .i64 (0 :
 Int)] 82), (141, SO.cells (ds5_1 k hk p hp q hq) 77), (142, SO.cells [SC.int true .i64 (0 : Int), SC.int true .i64 (0 : Int)] 82), (168, SO.cells [SC.int false .u64 a, SC.raw
 (Value.pointer none)] 199), (176, SO.cells [SC.int false .u64 a, SC.raw (Value.pointer none)] 199), (228, SO.cells [SC.int false .u64 a, SC.raw (Value.pointer none)] 199), (236,
 SO.cells [SC.int false .u64 a, SC.raw (Value.pointer none)] 199), (260, SO.cells [sp 287 0, sp 369 0, sp 452 0, sp 535 0] 210), (269, SO.cells [ti .u64 (0 : Int), SC.raw
 (Value.pointer none)] 199), (280, SO.cells [SC.int false .u64 a, SC.raw (Value.pointer none)] 199), (287, SO.cells (ds5_15 k g_1) 212), (310, SO.cells [SC.int false .u64 a] 29),
 (311, SO.row 29 1 1 cap [SC.int false .u64 a]), (321, SO.cells [sp 287 0] 197), (362, SO.cells [ti .u64 (0 : Int), SC.raw (Value.pointer none)] 199), (369, SO.cells (ds5_16 k g_2)
 212), (380, SO.cells [sp 369 0] 197), (445, SO.cells [ti .u64 (0 : Int), SC.raw (Value.pointer none)] 199), (452, SO.cells (ds5_17 k g_3) 212), (463, SO.cells [sp 452 0] 197), (528,
 SO.cells [ti .u64 (0 : Int), SC.raw (Value.pointer none)] 199), (535, SO.cells (ds5_14 k p) 212), (546, SO.cells [sp 535 0] 197), (547, SO.row 197 1 4 cap_4 [sp 287 0, sp 369 0, sp
 452 0, sp 535 0]), (618, SO.cells (ds5_10 k p) 87), (619, SO.cells (ds5_10 k p) 87), (636, SO.cells [sp 287 0, sp 369 0, sp 452 0, sp 535 0] 210), (663, SO.cells [SC.int true .u64
 (0 : Int), sp 287 0] 199)] 706) Scr.nil)) ∧ True) ∧ True) ∧ True) ∧ (ds5_35 k p)) ∧ True) ∧ True) ∧ True) ∧ True) ∧ (∀ (K : KO XN), (fun X0 : Prop => ((if (dkF k (0 : Int)).toNat =
 0 then (0 : Int) else (0 : Int)) = if (dkF k (0 : Int)).toNat = 0 then (0 : Int) else (0 : Int)) ∧ ((if (dkF k (0 : Int)).toNat = 1 then (0 : Int) else (0 : Int)) = if (dkF k (0 :
 Int)).toNat = 1 then (0 : Int) else (0 : Int)) ∧ ((if (dkF k (0 : Int)).toNat = 2 then (0 : Int) else (0 : Int)) = if (dkF k (0 : Int)).toNat = 2 then (0 : Int) else (0 : Int)) ∧
 ((if (dkF k (0 : Int)).toNat = 3 then (0 : Int) else (0 : Int)) = if (dkF k (0 : Int)).toNat = 3 then (0 : Int) else (0 : Int)) ∧ g_1 0 = g_1 0 ∧ g_1 1 = g_1 1 ∧ g_1 2 = g_1 2 ∧ g_1
 3 = g_1 3 ∧ ((if (dkF k (1 : Int)).toNat = 0 then (0 : Int) else (0 : Int)) = if (dkF k (1 : Int)).toNat = 0 then (0 : Int) else (0 : Int)) ∧ ((if (dkF k (1 : Int)).toNat = 1 then
 (0 : Int) else (0 : Int)) = if (dkF k (1 : Int)).toNat = 1 then (0 : Int) else (0 : Int)) ∧ ((if (dkF k (1 : Int)).toNat = 2 then (0 : Int) else (0 : Int)) = if (dkF k (1 :
 Int)).toNat = 2 then (0 : Int) else (0 : Int)) ∧ ((if (dkF k (1 : Int)).toNat = 3 then (0 : Int) else (0 : Int)) = if (dkF k (1 : Int)).toNat = 3 then (0 : Int) else (0 : Int)) ∧
 g_2 0 = g_2 0 ∧ g_2 1 = g_2 1 ∧ g_2 2 = g_2 2 ∧ g_2 3 = g_2 3 ∧ ((if (dkF k (2 : Int)).toNat = 0 then (0 : Int) else (0 : Int)) = if (dkF k (2 : Int)).toNat = 0 then (0 : Int) else
 (0 : Int)) ∧ ((if (dkF k (2 : Int)).toNat = 1 then (0 : Int) else (0 : Int)) = if (dkF k (2 : Int)).toNat = 1 then (0 : Int) else (0 : Int)) ∧ ((if (dkF k (2 : Int)).toNat = 2 then
 (0 : Int) else (0 : Int)) = if (dkF k (2 : Int)).toNat = 2 then (0 : Int) else (0 : Int)) ∧ ((if (dkF k (2 : Int)).toNat = 3 then (0 : Int) else (0 : Int)) = if (dkF k (2 :
 Int)).toNat = 3 then (0 : Int) else (0 : Int)) ∧ g_3 0 = g_3 0 ∧ g_3 1 = g_3 1 ∧ g_3 2 = g_3 2 ∧ g_3 3 = g_3 3 ∧ (True ∧ (∀ (z : Un), True → ds5_3 k g_1 g_2 g_3 X0) ∧ True) ∧ True →
 ds5_18 k g_1 g_2 g_3 X0) (K (SF.mk 110 (np 95 0 (nv (SV.c (SC.int true .i64 (0 : Int))) (nv (ds5_26 p hp) (nu (ds5_44 k hk) (nv (SV.c (tb false)) (nv (SV.c (SC.elp 535 (dkF k (3 :
 Int)).toNat 1 1)) (nv (SV.c (ti .i64 (4 : Int))) tn tn) nu0) (nv (SV.c (ti .i64 (2 : Int))) nu0 tn))) (np 535 0 (np 83 0 (np 535 0 (nv (SV.c (SC.elp 452 (dkF k (2 : Int)).toNat 1
 5)) tn tn) nu0) (nv (SV.c (ti .i64 (3 : Int))) (np 535 0 tn tn) tn)) (nv (SV.c (ti .i64 (3 : Int))) (np 535 0 (np 535 0 tn tn) nu0) (nv (SV.c (ti .i64 (3 : Int))) nu0 tn)))) (nu (np
 269 0 (np 95 7 (nv (SV.c (ti .i64 (3 : Int))) (np 452 0 tn tn) nu0) (nv (SV.c (tb true)) (nv (ds5_26 p hp) tn tn) tn)) (np 95 0 (np 535 0 (np 535 0 tn tn) nu0) (np 452 0 nu0 tn)))
 (nv (ds5_31 k) (nv (SV.agg [SC.int false .u64 a, SC.raw (Value.pointer none)]) (np 535 0 (np 452 1 tn tn) nu0) (nv (ds5_31 k) nu0 tn)) (nv (SV.c (ti .i64 (3 : Int))) (nv (SV.c
 (SC.elp 535 (dkF k (3 : Int)).toNat 1 5)) (np 535 1 tn tn) nu0) (np 260 2 nu0 tn))))) (nv (SV.c (SC.int false .i64 k (Bd.w (0 : Int) (255 : Int) hk))) (nu (np 260 0 (np 95 0 (nv
 (SV.c (SC.int false .i64 k (Bd.w (0 : Int) (255 : Int) hk))) (np 535 0 tn tn) nu0) (ds5_47 k)) (nv (SV.c (ti .i64 (3 : Int))) (nv (SV.c (ti .u64 (0 : Int))) (np 260 3 tn tn) nu0)
 (np 260 2 nu0 tn))) (nv (ds5_32 k) (np 83 0 (nv (ds5_32 k) (np 452 0 tn tn) nu0) (nv (SV.c (ti .i64 (2 : Int))) (np 535 1 tn tn) tn)) (np 535 0 (np 535 5 (np 535 0 tn tn) nu0) (nv
 (SV.c (ti .i64 (2 : Int))) nu0 tn)))) (nu (nv (SV.c (ti .i64 (3 : Int))) (np 95 7 (nv (ds5_32 k) (np 452 5 tn tn) nu0) (nv (SV.c (SC.int false .i64 k (Bd.w (0 : Int) (255 : Int)
 hk))) (nv (SV.agg (ds5_10 k p)) tn tn) tn)) (nv (SV.agg [ti .u64 (0 : Int), SC.raw (Value.pointer none)]) (nv (ds5_32 k) (np 260 3 tn tn) nu0) (nv (ds5_31 k) nu0 tn))) (np 95 0 (nv
 (SV.c (ti .i64 (4 : Int))) (np 535 1 (nv (SV.c (SC.elp 452 (dkF k (2 : Int)).toNat 1 1)) tn tn) nu0) (nv (SV.c (ti .i64 (3 : Int))) nu0 tn)) (np 535 0 (nv (SV.c (SC.raw
 (Value.pointer none))) (nv (SV.agg (ds5_4)) tn tn) tn) (np 452 0 nu0 tn)))))) []) (Mem.mk [(1, SO.cells (ds5_2 a b c d e f g) 75), (2, SO.cells (ds5_1 k hk p hp q hq) 77), (45,
 SO.cells (ds5_2 a b c d e f g) 75), (51, SO.cells (ds5_2 a b c d e f g) 75), (83, SO.cells [SC.int false .u64 a, SC.raw (Value.pointer none)] 199), (87, SO.cells [SC.int false .u64
 c, SC.raw (Value.pointer none)] 199), (91, SO.cells [SC.int false .u64 f, SC.raw (Value.pointer none)] 199), (93, SO.mp true []), (95, SO.cells [SC.int false .u64 a, SC.int false
 .i64 b, SC.int false .u64 c, SC.int false .i64 d, SC.int false .i64 e, SC.int false .u64 f, SC.int false .i64 g, sp 83 0, sp 87 0, sp 91 0, SC.map 93, SC.sli 547 1 true 0 true 4
 cap_4, SC.sli 311 1 true 0 true 1 cap, SC.nls, SC.int true .u64 (0 : Int)] 204), (109, SO.cells (ds5_1 k hk p hp q hq) 77), (110, SO.cells [SC.int true .i64 (0 : Int), SC.int true
 .i64 (0 : Int)] 82), (128, SO.cells [SC.int true .i64 (0 : Int), SC.int true .i64 (0 : Int)] 82), (141, SO.cells (ds5_1 k hk p hp q hq) 77), (142, SO.cells [SC.int true .i64 (0 :
 Int), SC.int true .i64 (0 : Int)] 82), (168, SO.cells [SC.int false .u64 a, SC.raw (Value.pointer none)] 199), (176, SO.cells [SC.int false .u64 a, SC.raw (Value.pointer none)]
 199), (228, SO.cells [SC.int false .u64 a, SC.raw (Value.pointer none)] 199), (236, SO.cells [SC.int false .u64 a, SC.raw (Value.pointer none)] 199), (260, SO.cells [sp 287 0, sp
 369 0, sp 452 0, sp 535 0] 210), (269, SO.cells [ti .u64 (0 : Int), SC.raw (Value.pointer none)] 199), (280, SO.cells [SC.int false .u64 a, SC.raw (Value.pointer none)] 199), (287,
 SO.cells (ds5_15 k g_1) 212), (310, SO.cells [SC.int false .u64 a] 29), (311, SO.row 29 1 1 cap [SC.int false .u64 a]), (321, SO.cells [sp 287 0] 197), (362, SO.cells [ti .u64 (0 :
 Int), SC.raw (Value.pointer none)] 199), (369, SO.cells (ds5_16 k g_2) 212), (380, SO.cells [sp 369 0] 197), (445, SO.cells [ti .u64 (0 : Int), SC.raw (Value.pointer none)] 199),
 (452, SO.cells (ds5_17 k g_3) 212), (463, SO.cells [sp 452 0] 197), (528, SO.cells [ti .u64 (0 : Int), SC.raw (Value.pointer none)] 199), (535, SO.cells (ds5_14 k p) 212), (546,
 SO.cells [sp 535 0] 197), (547, SO.row 197 1 4 cap_4 [sp 287 0, sp 369 0, sp 452 0, sp 535 0]), (618, SO.cells (ds5_10 k p) 87), (619, SO.cells (ds5_10 k p) 87)] 632) Scr.nil)) ∧
 True) ∧ True) ∧ True) ∧ True) ∧ True) ∧ True) ∧ True) ∧ True) ∧ True) ∧ True) ∧ True) ∧ True) ∧ True) ∧ True) ∧ True) ∧ True) ∧ True) ∧ True) ∧ True) ∧ True) ∧ True) ∧ (∀ (K : KO
 XN), (fun X0 : (Nat) → Prop => a = a ∧ Value.pointer none = Value.pointer none ∧ (a = a ∧ Value.pointer none = Value.pointer none ∧ (True ∧ True ∧ 1 ≤ 1000000000 ∧ ∀ (cap : Nat), 1
 ≤ cap → (X0 cap) ∧ True) ∧ True) ∧ True → a = a ∧ Value.pointer none = Value.pointer none ∧ (a = a ∧ Value.pointer none = Value.pointer none ∧ (True ∧ True ∧ 1 ≤ 1000000000 ∧ ∀ (cap
 : Nat), 1 ≤ cap → (X0 cap) ∧ True) ∧ True) ∧ True) (fun (cap : Nat) => K (SF.mk 51 (np 95 0 (nv (SV.agg [SC.int false .u64 a, SC.raw (Value.pointer none)]) (nu (np 287 0 (np 287 0
 (np 95 0 tn tn) nu0) (nv (SV.c (SC.map 93)) (np 95 12 tn tn) tn)) (nu (np 287 0 (nv (SV.c (SC.int false .u64 a)) tn tn) tn) (np 287 0 nu0 tn))) (nu (nv (SV.c (SC.raw (Value.pointer
 none))) (nv (SV.c (SC.int false .u64 a)) (nv (SV.c SC.nls) tn tn) nu0) (nv (SV.c (SC.int false .u64 a)) nu0 tn)) (nv (SV.c (SC.int true .i64 (0 : Int))) (np 95 0 (nv (SV.c (SC.sli
 311 1 true 0 true 1 cap)) tn tn) tn) (np 95 0 nu0 tn)))) (nv (SV.c (SC.int true .i64 (0 : Int))) (np 280 0 (np 280 1 (np 280 0 (np 95 12 tn tn) nu0) (np 280 0 nu0 tn)) (nu (np 95 0
 (nv (SV.c (SC.sli 310 1 true 0 true 1 1)) tn tn) tn) (np 287 1 nu0 tn))) (nv (SV.c (SC.raw (Value.pointer none))) (nv (SV.c (tb false)) (nv (SV.c (tb true)) (np 280 0 tn tn) nu0)
 (nv (SV.agg (ds5_4)) nu0 tn)) (nv (SV.agg (ds5_37)) (np 95 10 (np 95 0 tn tn) tn) (np 95 0 nu0 tn))))) []) (Mem.mk [(1, SO.cells (ds5_2 a b c d e f g) 75), (2, SO.cells (ds5_1 k hk
 p hp q hq) 77), (45, SO.cells (ds5_2 a b c d e f g) 75), (51, SO.cells (ds5_2 a b c d e f g) 75), (83, SO.cells [SC.int false .u64 a, SC.raw (Value.pointer none)] 199), (87,
 SO.cells [SC.int false .u64 c, SC.raw (Value.pointer none)] 199), (91, SO.cells [SC.int false .u64 f, SC.raw (Value.pointer none)] 199), (93, SO.mp true []), (95, SO.cells [SC.int
 false .u64 a, SC.int false .i64 b, SC.int false .u64 c, SC.int false .i64 d, SC.int false .i64 e, SC.int false .u64 f, SC.int false .i64 g, sp 83 0, sp 87 0, sp 91 0, SC.map 93,
 SC.nls, SC.sli 311 1 true 0 true 1 cap, SC.nls, SC.int true .u64 (0 : Int)] 204), (109, SO.cells (ds5_1 k hk p hp q hq) 77), (110, SO.cells [SC.int true .i64 (0 : Int), SC.int true
 .i64 (0 : Int)] 82), (128, SO.cells [SC.int true .i64 (0 : Int), SC.int true .i64 (0 : Int)] 82), (141, SO.cells (ds5_1 k hk p hp q hq) 77), (142, SO.cells [SC.int true .i64 (0 :
 Int), SC.int true .i64 (0 : Int)] 82), (168, SO.cells [SC.int false .u64 a, SC.raw (Value.pointer none)] 199), (176, SO.cells [SC.int false .u64 a, SC.raw (Value.pointer none)]
 199), (228, SO.cells [SC.int false .u64 a, SC.raw (Value.pointer none)] 199), (236, SO.cells [SC.int false .u64 a, SC.raw (Value.pointer none)] 199), (260, SO.cells [SC.raw
 (Value.pointer none), SC.raw (Value.pointer none), SC.raw (Value.pointer none), SC.raw (Value.pointer none)] 210), (269, SO.cells [SC.int false .u64 a, SC.raw (Value.pointer none)]
 199), (280, SO.cells [SC.int false .u64 a, SC.raw (Value.pointer none)] 199), (287, SO.cells (ds5_37) 212), (310, SO.cells [SC.int false .u64 a] 29), (311, SO.row 29 1 1 cap [SC.int
 false .u64 a])] 303) Scr.nil)) ∧ True) ∧ True) ∧ True) ∧ ((a != (0 : Int)) = false → True ∧ True ∧ 1 ≤ 1000000000 ∧ ∀ (cap : Nat), 1 ≤ cap → True ∧ (∀ (z : Un), True → ((0 : Int) ≤
 dkF k (0 : Int) ∧ dkF k (0 : Int) < (4 : Int)) ∧ (dkF k (0 : Int)).toNat < 4 ∧ ((0 : Int) ≤ dkF k (0 : Int) ∧ dkF k (0 : Int) < (4 : Int)) ∧ (dkF k (0 : Int)).toNat < 4 ∧ (cap = cap
 ∧ True ∧ 2 ≤ 1000000000 ∧ ∀ (cap : Nat), 2 ≤ cap → True ∧ (∀ (z : Un), True → ((0 : Int) ≤ dkF k (1 : Int) ∧ dkF k (1 : Int) < (4 : Int)) ∧ (dkF k (1 : Int)).toNat < 4 ∧ ((0 : Int)
 ≤ dkF k (1 : Int) ∧ dkF k (1 : Int) < (4 : Int)) ∧ (dkF k (1 : Int)).toNat < 4 ∧ (True ∧ (∀ (z : Un), True → ((0 : Int) ≤ dkF k (0 : Int) ∧ dkF k (0 : Int) < (4 : Int)) ∧ ((dkF k (0
 : Int)).toNat < 4 ∧ ∀ (g_1 : Nat → Value), Value.pointer none = Value.pointer none ∧ Value.pointer none = Value.pointer none ∧ Value.pointer none = Value.pointer none ∧
 Value.pointer none = Value.pointer none ∧ Value.pointer none = Value.pointer none ∧ Value.pointer none = Value.pointer none ∧ ((0 : Int) ≤ dkF k (0 : Int) ∧ dkF k (0 : Int) < (4 :
 Int)) ∧ ((dkF k (0 : Int)).toNat < 4 ∧ cap = cap ∧ True ∧ 3 ≤ 1000000000 ∧ ∀ (cap : Nat), 3 ≤ cap → True ∧ (∀ (z : Un), True → ((0 : Int) ≤ dkF k (2 : Int) ∧ dkF k (2 : Int) < (4 :
 Int)) ∧ (dkF k (2 : Int)).toNat < 4 ∧ ((0 : Int) ≤ dkF k (2 : Int) ∧ dkF k (2 : Int) < (4 : Int)) ∧ (dkF k (2 : Int)).toNat < 4 ∧ (True ∧ (∀ (z : Un), True → ((0 : Int) ≤ dkF k (1 :
 Int) ∧ dkF k (1 : Int) < (4 : Int)) ∧ ((dkF k (1 : Int)).toNat < 4 ∧ ∀ (g_2 : Nat → Value), Value.pointer none = Value.pointer none ∧ Value.pointer none = Value.pointer none ∧
 Value.pointer none = Value.pointer none ∧ Value.pointer none = Value.pointer none ∧ Value.pointer none = Value.pointer none ∧ ((0 : Int) ≤ dkF k (1 : Int) ∧ dkF k (1 : Int) < (4 :
 Int)) ∧ ((dkF k (1 : Int)).toNat < 4 ∧ cap = cap ∧ True ∧ 4 ≤ 1000000000 ∧ ∀ (cap : Nat), 4 ≤ cap → True ∧ (∀ (z : Un), True → ((0 : Int) ≤ dkF k (3 : Int) ∧ dkF k (3 : Int) < (4 :
 Int)) ∧ (dkF k (3 : Int)).toNat < 4 ∧ ((0 : Int) ≤ dkF k (3 : Int) ∧ dkF k (3 : Int) < (4 : Int)) ∧ (dkF k (3 : Int)).toNat < 4 ∧ (True ∧ (∀ (z : Un), True → ((0 : Int) ≤ dkF k (2 :
 Int) ∧ dkF k (2 : Int) < (4 : Int)) ∧ ((dkF k (2 : Int)).toNat < 4 ∧ ∀ (g_3 : Nat → Value), ((if (dkF k (0 : Int)).toNat = 0 then (0 : Int) else (0 : Int)) = if (dkF k (0 :
 Int)).toNat = 0 then (0 : Int) else (0 : Int)) ∧ ((if (dkF k (0 : Int)).toNat = 1 then (0 : Int) else (0 : Int)) = if (dkF k (0 : Int)).toNat = 1 then (0 : Int) else (0 : Int)) ∧
 ((if (dkF k (0 : Int)).toNat = 2 then (0 : Int) else (0 : Int)) = if (dkF k (0 : Int)).toNat = 2 then (0 : Int) else (0 : Int)) ∧ ((if (dkF k (0 : Int)).toNat = 3 then (0 : Int)
 else (0 : Int)) = if (dkF k (0 : Int)).toNat = 3 then (0 : Int) else (0 : Int)) ∧ g_1 0 = g_1 0 ∧ g_1 1 = g_1 1 ∧ g_1 2 = g_1 2 ∧ g_1 3 = g_1 3 ∧ Value.pointer none = Value.pointer
 none ∧ Value.pointer none = Value.pointer none ∧ Value.pointer none = Value.pointer none ∧ Value.pointer none = Value.pointer none ∧ ((0 : Int) ≤ dkF k (2 : Int) ∧ dkF k (2 : Int) <
 (4 : Int)) ∧ ((dkF k (2 : Int)).toNat < 4 ∧ (((if (dkF k (0 : Int)).toNat = 0 then (0 : Int) else (0 : Int)) = if (dkF k (0 : Int)).toNat = 0 then (0 : Int) else (0 : Int)) ∧ ((if
 (dkF k (0 : Int)).toNat = 1 then (0 : Int) else (0 : Int)) = if (dkF k (0 : Int)).toNat = 1 then (0 : Int) else (0 : Int)) ∧ ((if (dkF k (0 : Int)).toNat = 2 then (0 : Int) else (0
 : Int)) = if (dkF k (0 : Int)).toNat = 2 then (0 : Int) else (0 : Int)) ∧ ((if (dkF k (0 : Int)).toNat = 3 then (0 : Int) else (0 : Int)) = if (dkF k (0 : Int)).toNat = 3 then (0 :
 Int) else (0 : Int)) ∧ g_1 0 = g_1 0 ∧ g_1 1 = g_1 1 ∧ g_1 2 = g_1 2 ∧ g_1 3 = g_1 3 ∧ ((if (dkF k (1 : Int)).toNat = 0 then (0 : Int) else (0 : Int)) = if (dkF k (1 : Int)).toNat =
 0 then (0 : Int) else (0 : Int)) ∧ ((if (dkF k (1 : Int)).toNat = 1 then (0 : Int) else (0 : Int)) = if (dkF k (1 : Int)).toNat = 1 then (0 : Int) else (0 : Int)) ∧ ((if (dkF k (1 :
 Int)).toNat = 2 then (0 : Int) else (0 : Int)) = if (dkF k (1 : Int)).toNat = 2 then (0 : Int) else (0 : Int)) ∧ ((if (dkF k (1 : Int)).toNat = 3 then (0 : Int) else (0 : Int)) = if
 (dkF k (1 : Int)).toNat = 3 then (0 : Int) else (0 : Int)) ∧ g_2 0 = g_2 0 ∧ g_2 1 = g_2 1 ∧ g_2 2 = g_2 2 ∧ g_2 3 = g_2 3 ∧ ((if (dkF k (2 : Int)).toNat = 0 then (0 : Int) else (0
 : Int)) = if (dkF k (2 : Int)).toNat = 0 then (0 : Int) else (0 : Int)) ∧ ((if (dkF k (2 : Int)).toNat = 1 then (0 : Int) else (0 : Int)) = if (dkF k (2 : Int)).toNat = 1 then (0 :
 Int) else (0 : Int)) ∧ ((if (dkF k (2 : Int)).toNat = 2 then (0 : Int) else (0 : Int)) = if (dkF k (2 : Int)).toNat = 2 then (0 : Int) else (0 : Int)) ∧ ((if (dkF k (2 : Int)).toNat
 = 3 then (0 : Int) else (0 : Int)) = if (dkF k (2 : Int)).toNat = 3 then (0 : Int) else (0 : Int)) ∧ g_3 0 = g_3 0 ∧ g_3 1 = g_3 1 ∧ g_3 2 = g_3 2 ∧ g_3 3 = g_3 3 ∧ (True ∧ (∀ (z :
 Un), True → ((if (dkF k (0 : Int)).toNat = 0 then (0 : Int) else (0 : Int)) = if (dkF k (0 : Int)).toNat = 0 then (0 : Int) else (0 : Int)) ∧ ((if (dkF k (0 : Int)).toNat = 1 then
 (0 : Int) else (0 : Int)) = if (dkF k (0 : Int)).toNat = 1 then (0 : Int) else (0 : Int)) ∧ ((if (dkF k (0 : Int)).toNat = 2 then (0 : Int) else (0 : Int)) = if (dkF k (0 :
 Int)).toNat = 2 then (0 : Int) else (0 : Int)) ∧ ((if (dkF k (0 : Int)).toNat = 3 then (0 : Int) else (0 : Int)) = if (dkF k (0 : Int)).toNat = 3 then (0 : Int) else (0 : Int)) ∧
 g_1 0 = g_1 0 ∧ g_1 1 = g_1 1 ∧ g_1 2 = g_1 2 ∧ g_1 3 = g_1 3 ∧ ((if (dkF k (1 : Int)).toNat = 0 then (0 : Int) else (0 : Int)) = if (dkF k (1 : Int)).toNat = 0 then (0 : Int) else
 (0 : Int)) ∧ ((if (dkF k (1 : Int)).toNat = 1 then (0 : Int) else (0 : Int)) = if (dkF k (1 : Int)).toNat = 1 then (0 : Int) else (0 : Int)) ∧ ((if (dkF k (1 : Int)).toNat = 2 then
 (0 : Int) else (0 : Int)) = if (dkF k (1 : Int)).toNat = 2 then (0 : Int) else (0 : Int)) ∧ ((if (dkF k (1 : Int)).toNat = 3 then (0 : Int) else (0 : Int)) = if (dkF k (1 :
 Int)).toNat = 3 then (0 : Int) else (0 : Int)) ∧ g_2 0 = g_2 0 ∧ g_2 1 = g_2 1 ∧ g_2 2 = g_2 2 ∧ g_2 3 = g_2 3 ∧ ((if (dkF k (2 : Int)).toNat = 0 then (0 : Int) else (0 : Int)) = if
 (dkF k (2 : Int)).toNat = 0 then (0 : Int) else (0 : Int)) ∧ ((if (dkF k (2 : Int)).toNat = 1 then (0 : Int) else (0 : Int)) = if (dkF k (2 : Int)).toNat = 1 then (0 : Int) else (0
 : Int)) ∧ ((if (dkF k (2 : Int)).toNat = 2 then (0 : Int) else (0 : Int)) = if (dkF k (2 : Int)).toNat = 2 then (0 : Int) else (0 : Int)) ∧ ((if (dkF k (2 : Int)).toNat = 3 then (0
 : Int) else (0 : Int)) = if (dkF k (2 : Int)).toNat = 3 then (0 : Int) else (0 : Int)) ∧ g_3 0 = g_3 0 ∧ g_3 1 = g_3 1 ∧ g_3 2 = g_3 2 ∧ g_3 3 = g_3 3 ∧ (((0 : Int) ≤ dkF k (3 :
 Int) ∧ dkF k (3 : Int) < (4 : Int)) ∧ (dkF k (3 : Int)).toNat < 4 ∧ ((if (dkF k (0 : Int)).toNat = 0 then (0 : Int) else (0 : Int)) = if (dkF k (0 : Int)).toNat = 0 then (0 : Int)
 else (0 : Int)) ∧ ((if (dkF k (0 : Int)).toNat = 1 then (0 : Int) else (0 : Int)) = if (dkF k (0 : Int)).toNat = 1 then (0 : Int) else (0 : Int)) ∧ ((if (dkF k (0 : Int)).toNat = 2
 then (0 : Int) else (0 : Int)) = if (dkF k (0 : Int)).toNat = 2 then (0 : Int) else (0 : Int)) ∧ ((if (dkF k (0 : Int)).toNat = 3 then (0 : Int) else (0 : Int)) = if (dkF k (0 :
 Int)).toNat = 3 then (0 : Int) else (0 : Int)) ∧ g_1 0 = g_1 0 ∧ g_1 1 = g_1 1 ∧ g_1 2 = g_1 2 ∧ g_1 3 = g_1 3 ∧ ((if (dkF k (1 : Int)).toNat = 0 then (0 : Int) else (0 : Int)) = if
 (dkF k (1 : Int)).toNat = 0 then (0 : Int) else (0 : Int)) ∧ ((if (dkF k (1 : Int)).toNat = 1 then (0 : Int) else (0 : Int)) = if (dkF k (1 : Int)).toNat = 1 then (0 : Int) else (0
 : Int)) ∧ ((if (dkF k (1 : Int)).toNat = 2 then (0 : Int) else (0 : Int)) = if (dkF k (1 : Int)).toNat = 2 then (0 : Int) else (0 : Int)) ∧ ((if (dkF k (1 : Int)).toNat = 3 then (0
 : Int) else (0 : Int)) = if (dkF k (1 : Int)).toNat = 3 then (0 : Int) else (0 : Int)) ∧ g_2 0 = g_2 0 ∧ g_2 1 = g_2 1 ∧ g_2 2 = g_2 2 ∧ g_2 3 = g_2 3 ∧ ((if (dkF k (2 : Int)).toNat
 = 0 then (0 : Int) else (0 : Int)) = if (dkF k (2 : Int)).toNat = 0 then (0 : Int) else (0 : Int)) ∧ ((if (dkF k (2 : Int)).toNat = 1 then (0 : Int) else (0 : Int)) = if (dkF k (2 :
 Int)).toNat = 1 then (0 : Int) else (0 : Int)) ∧ ((if (dkF k (2 : Int)).toNat = 2 then (0 : Int) else (0 : Int)) = if (dkF k (2 : Int)).toNat = 2 then (0 : Int) else (0 : Int)) ∧
 ((if (dkF k (2 : Int)).toNat = 3 then (0 : Int) else (0 : Int)) = if (dkF k (2 : Int)).toNat = 3 then (0 : Int) else (0 : Int)) ∧ g_3 0 = g_3 0 ∧ g_3 1 = g_3 1 ∧ g_3 2 = g_3 2 ∧ g_3
 3 = g_3 3 ∧ (((false == ((if (dkF k (3 : Int)).toNat = 0 then p + (1 : Int) else (0 : Int)) == (0 : Int) && ((if (dkF k (3 : Int)).toNat = 1 then p + (1 : Int) else (0 : Int)) == (0
 : Int) && ((if (dkF k (3 : Int)).toNat = 2 then p + (1 : Int) else (0 : Int)) == (0 : Int) && ((if (dkF k (3 : Int)).toNat = 3 then p + (1 : Int) else (0 : Int)) == (0 : Int) &&
 true))))) = true → (((c = c ∧ Value.pointer none = Value.pointer none ∧ f = f ∧ Value.pointer none = Value.pointer none ∧ ([] : List (Int × Value)) = [] ∧ k = k ∧ p = p ∧ q = q ∧
 cap = cap ∧ (c = c ∧ Value.pointer none = Value.pointer none ∧ f = f ∧ Value.pointer none = Value.pointer none ∧ ([] : List (Int × Value)) = [] ∧ k = k ∧ p = p ∧ q = q ∧ cap = cap ∧
 (c = c ∧ Value.pointer none = Value.pointer none ∧ f = f ∧ Value.pointer none = Value.pointer none ∧ ([] : List (Int × Value)) = [] ∧ k = k ∧ p = p ∧ q = q ∧ cap = cap ∧ (ds5_25 b)
 ∧ ds5_45 c e d f g) ∧ True) ∧ True) ∧ (∀ (K : KO XN), (fun X0 : Prop => c = c ∧ Value.pointer none = Value.pointer none ∧ f = f ∧ Value.pointer none = Value.pointer none ∧ ([] :
 List (Int × Value)) = [] ∧ k = k ∧ p = p ∧ q = q ∧ cap = cap ∧ (c = c ∧ Value.pointer none = Value.pointer none ∧ f = f ∧ Value.pointer none = Value.pointer none ∧ ([] : List (Int ×
 Value)) = [] ∧ k = k ∧ p = p ∧ q = q ∧ cap = cap ∧ (ds5_42 c f k p q cap b X0) ∧ True) ∧ True → c = c ∧ Value.pointer none = Value.pointer none ∧ f = f ∧ Value.pointer none =
 Value.pointer none ∧ ([] : List (Int × Value)) = [] ∧ k = k ∧ p = p ∧ q = q ∧ cap = cap ∧ ((ds5_42 c f k p q cap b X0) ∧ True) ∧ (∀ (K : KO XN), (fun X1 : Prop => (ds5_42 c f k p q
 cap b X1) ∧ True → c = c ∧ Value.pointer none = Value.pointer none ∧ f = f ∧ Value.pointer none = Value.pointer none ∧ ([] : List (Int × Value)) = [] ∧ k = k ∧ p = p ∧ q = q ∧ cap =
 cap ∧ ((ds5_25 b) ∧ X1 ∧ True) ∧ True) (K (ds5_6 k hk p hp q hq b) (Mem.mk [(1, SO.cells (ds5_2 a b c d e f g) 75), (2, SO.cells (ds5_1 k hk p hp q hq) 77), (45, SO.cells (ds5_2 a b
 c d e f g) 75), (51, SO.cells (ds5_2 a b c d e f g) 75), (83, SO.cells [SC.int false .u64 a, SC.raw (Value.pointer none)] 199), (87, SO.cells [SC.int false .u64 c, SC.raw
 (Value.pointer none)] 199), (91, SO.cells [SC.int false .u64 f, SC.raw (Value.pointer none)] 199), (93, SO.mp true []), (95, SO.cells (ds5_48 a b c d e f g cap) 204), (109, SO.cells
 (ds5_1 k hk p hp q hq) 77), (110, SO.cells [SC.int true .i64 (0 : Int), SC.int true .i64 (0 : Int)] 82), (128, SO.cells [SC.int true .i64 (0 : Int), SC.int true .i64 (0 : Int)] 82),
 (141, SO.cells (ds5_1 k hk p hp q hq) 77), (142, SO.cells [SC.int true .i64 (0 : Int), SC.int true .i64 (0 : Int)] 82), (168, SO.cells [SC.int false .u64 a, SC.raw (Value.pointer
 none)] 199), (176, SO.cells [SC.int false .u64 a, SC.raw (Value.pointer none)] 199), (228, SO.cells [SC.int false .u64 a, SC.raw (Value.pointer none)] 199), (236, SO.cells [SC.int
 false .u64 a, SC.raw (Value.pointer none)] 199), (260, SO.cells [sp 287 0, sp 346 0, sp 429 0, sp 512 0] 210), (269, SO.cells [ti .u64 (0 : Int), SC.raw (Value.pointer none)] 199),
 (280, SO.cells [SC.int false .u64 a, SC.raw (Value.pointer none)] 199), (287, SO.cells (ds5_15 k g_1) 212), (298, SO.cells [sp 287 0] 197), (339, SO.cells [ti .u64 (0 : Int), SC.raw
 (Value.pointer none)] 199), (346, SO.cells (ds5_16 k g_2) 212), (357, SO.cells [sp 346 0] 197), (422, SO.cells [ti .u64 (0 : Int), SC.raw (Value.pointer none)] 199), (429, SO.cells
 (ds5_17 k g_3) 212), (440, SO.cells [sp 429 0] 197), (505, SO.cells [ti .u64 (0 : Int), SC.raw (Value.pointer none)] 199), (512, SO.cells (ds5_14 k p) 212), (523, SO.cells [sp 512
 0] 197), (524, SO.row 197 1 4 cap [sp 287 0, sp 346 0, sp 429 0, sp 512 0]), (595, SO.cells (ds5_10 k p) 87), (596, SO.cells (ds5_10 k p) 87), (613, SO.cells [sp 287 0, sp 346 0, sp
 429 0, sp 512 0] 210), (640, SO.cells [SC.int true .u64 (0 : Int), sp 287 0] 199)] 683) Scr.nil)) ∧ True) (K (ds5_6 k hk p hp q hq b) (Mem.mk [(1, SO.cells (ds5_2 a b c d e f g)
 75), (2, SO.cells (ds5_1 k hk p hp q hq) 77), (45, SO.cells (ds5_2 a b c d e f g) 75), (51, SO.cells (ds5_2 a b c d e f g) 75), (83, SO.cells [SC.int false .u64 a, SC.raw
 (Value.pointer none)] 199), (87, SO.cells [SC.int false .u64 c, SC.raw (Value.pointer none)] 199), (91, SO.cells [SC.int false .u64 f, SC.raw (Value.pointer none)] 199), (93, SO.mp
 true []), (95, SO.cells (ds5_48 a b c d e f g cap) 204), (109, SO.cells (ds5_1 k hk p hp q hq) 77), (110, SO.cells [SC.int true .i64 (0 : Int), SC.int true .i64 (0 : Int)] 82),
 (128, SO.cells [SC.int true .i64 (0 : Int), SC.int true .i64 (0 : Int)] 82), (141, SO.cells (ds5_1 k hk p hp q hq) 77), (142, SO.cells [SC.int true .i64 (0 : Int), SC.int true .i64
 (0 : Int)] 82), (168, SO.cells [SC.int false .u64 a, SC.raw (Value.pointer none)] 199), (176, SO.cells [SC.int false .u64 a, SC.raw (Value.pointer none)] 199), (228, SO.cells
 [SC.int false .u64 a, SC.raw (Value.pointer none)] 199), (236, SO.cells [SC.int false .u64 a, SC.raw (Value.pointer none)] 199), (260, SO.cells [sp 287 0, sp 346 0, sp 429 0, sp 512
 0] 210), (269, SO.cells [ti .u64 (0 : Int), SC.raw (Value.pointer none)] 199), (280, SO.cells [SC.int false .u64 a, SC.raw (Value.pointer none)] 199), (287, SO.cells (ds5_15 k g_1)
 212), (298, SO.cells [sp 287 0] 197), (339, SO.cells [ti .u64 (0 : Int), SC.raw (Value.pointer none)] 199), (346, SO.cells (ds5_16 k g_2) 212), (357, SO.cells [sp 346 0] 197), (422,
 SO.cells [ti .u64 (0 : Int), SC.raw (Value.pointer none)] 199), (429, SO.cells (ds5_17 k g_3) 212), (440, SO.cells [sp 429 0] 197), (505, SO.cells [ti .u64 (0 : Int), SC.raw
 (Value.pointer none)] 199), (512, SO.cells (ds5_14 k p) 212), (523, SO.cells [sp 512 0] 197), (524, SO.row 197 1 4 cap [sp 287 0, sp 346 0, sp 429 0, sp 512 0]), (595, SO.cells
 (ds5_10 k p) 87), (596, SO.cells (ds5_10 k p) 87), (613, SO.cells [sp 287 0, sp 346 0, sp 429 0, sp 512 0] 210), (640, SO.cells [SC.int true .u64 (0 : Int), sp 287 0] 199)] 683)
 Scr.nil)) ∧ True) ∧ True) ∧ True) ∧ (ds5_35 k p)) ∧ True) ∧ True) ∧ True) ∧ True) ∧ (∀ (K : KO XN), (fun X0 : Prop => ((if (dkF k (0 : Int)).toNat = 0 then (0 : Int) else (0 : Int))
 = if (dkF k (0 : Int)).toNat = 0 then (0 : Int) else (0 : Int)) ∧ ((if (dkF k (0 : Int)).toNat = 1 then (0 : Int) else (0 : Int)) = if (dkF k (0 : Int)).toNat = 1 then (0 : Int)
 else (0 : Int)) ∧ ((if (dkF k (0 : Int)).toNat = 2 then (0 : Int) else (0 : Int)) = if (dkF k (0 : Int)).toNat = 2 then (0 : Int) else (0 : Int)) ∧ ((if (dkF k (0 : Int)).toNat = 3
 then (0 : Int) else (0 : Int)) = if (dkF k (0 : Int)).toNat = 3 then (0 : Int) else (0 : Int)) ∧ g_1 0 = g_1 0 ∧ g_1 1 = g_1 1 ∧ g_1 2 = g_1 2 ∧ g_1 3 = g_1 3 ∧ ((if (dkF k (1 :
 Int)).toNat = 0 then (0 : Int) else (0 : Int)) = if (dkF k (1 : Int)).toNat = 0 then (0 : Int) else (0 : Int)) ∧ ((if (dkF k (1 : Int)).toNat = 1 then (0 : Int) else (0 : Int)) = if
 (dkF k (1 : Int)).toNat = 1 then (0 : Int) else (0 : Int)) ∧ ((if (dkF k (1 : Int)).toNat = 2 then (0 : Int) else (0 : Int)) = if (dkF k (1 : Int)).toNat = 2 then (0 : Int) else (0
 : Int)) ∧ ((if (dkF k (1 : Int)).toNat = 3 then (0 : Int) else (0 : Int)) = if (dkF k (1 : Int)).toNat = 3 then (0 : Int) else (0 : Int)) ∧ g_2 0 = g_2 0 ∧ g_2 1 = g_2 1 ∧ g_2 2 =
 g_2 2 ∧ g_2 3 = g_2 3 ∧ ((if (dkF k (2 : Int)).toNat = 0 then (0 : Int) else (0 : Int)) = if (dkF k (2 : Int)).toNat = 0 then (0 : Int) else (0 : Int)) ∧ ((if (dkF k (2 :
 Int)).toNat = 1 then (0 : Int) else (0 : Int)) = if (dkF k (2 : Int)).toNat = 1 then (0 : Int) else (0 : Int)) ∧ ((if (dkF k (2 : Int)).toNat = 2 then (0 : Int) else (0 : Int)) = if
 (dkF k (2 : Int)).toNat = 2 then (0 : Int) else (0 : Int)) ∧ ((if (dkF k (2 : Int)).toNat = 3 then (0 : Int) else (0 : Int)) = if (dkF k (2 : Int)).toNat = 3 then (0 : Int) else (0
 : Int)) ∧ g_3 0 = g_3 0 ∧ g_3 1 = g_3 1 ∧ g_3 2 = g_3 2 ∧ g_3 3 = g_3 3 ∧ (True ∧ (∀ (z : Un), True → ds5_3 k g_1 g_2 g_3 X0) ∧ True) ∧ True → ds5_18 k g_1 g_2 g_3 X0) (K (SF.mk 110
 (np 95 0 (nv (SV.c (SC.int true .i64 (0 : Int))) (nv (ds5_26 p hp) (nu (ds5_44 k hk) (nv (SV.c (tb false)) (nv (SV.c (SC.elp 512 (dkF k (3 : Int)).toNat 1 1)) (nv (SV.c (ti .i64 (4
 : Int))) tn tn) nu0) (nv (SV.c (ti .i64 (2 : Int))) nu0 tn))) (np 512 0 (np 83 0 (np 512 0 (nv (SV.c (SC.elp 429 (dkF k (2 : Int)).toNat 1 5)) tn tn) nu0) (nv (SV.c (ti .i64 (3 :
 Int))) (np 512 0 tn tn) tn)) (nv (SV.c (ti .i64 (3 : Int))) (np 512 0 (np 512 0 tn tn) nu0) (nv (SV.c (ti .i64 (3 : Int))) nu0 tn)))) (nu (np 269 0 (np 95 7 (nv (SV.c (ti .i64 (3 :
 Int))) (np 429 0 tn tn) nu0) (nv (SV.c (tb true)) (nv (ds5_26 p hp) tn tn) tn)) (np 95 0 (np 512 0 (np 512 0 tn tn) nu0) (np 429 0 nu0 tn))) (nv (ds5_31 k) (nv (SV.agg [SC.int false
 .u64 a, SC.raw (Value.pointer none)]) (np 512 0 (np 429 1 tn tn) nu0) (nv (ds5_31 k) nu0 tn)) (nv (SV.c (ti .i64 (3 : Int))) (nv (SV.c (SC.elp 512 (dkF k (3 : Int)).toNat 1 5)) (np
 512 1 tn tn) nu0) (np 260 2 nu0 tn))))) (nv (SV.c (SC.int false .i64 k (Bd.w (0 : Int) (255 : Int) hk))) (nu (np 260 0 (np 95 0 (nv (SV.c (SC.int false .i64 k (Bd.w (0 : Int) (255 :
 Int) hk))) (np 512 0 tn tn) nu0) (ds5_47 k)) (nv (SV.c (ti .i64 (3 : Int))) (nv (SV.c (ti .u64 (0 : Int))) (np 260 3 tn tn) nu0) (np 260 2 nu0 tn))) (nv (ds5_32 k) (np 83 0 (nv
 (ds5_32 k) (np 429 0 tn tn) nu0) (nv (SV.c (ti .i64 (2 : Int))) (np 512 1 tn tn) tn)) (np 512 0 (np 512 5 (np 512 0 tn tn) nu0) (nv (SV.c (ti .i64 (2 : Int))) nu0 tn)))) (nu (nv
 (SV.c (ti .i64 (3 : Int))) (np 95 7 (nv (ds5_32 k) (np 429 5 tn tn) nu0) (nv (SV.c (SC.int false .i64 k (Bd.w (0 : Int) (255 : Int) hk))) (nv (SV.agg (ds5_10 k p)) tn tn) tn)) (nv
 (SV.agg [ti .u64 (0 : Int), SC.raw (Value.pointer none)]) (nv (ds5_32 k) (np 260 3 tn tn) nu0) (nv (ds5_31 k) nu0 tn))) (np 95 0 (nv (SV.c (ti .i64 (4 : Int))) (np 512 1 (nv (SV.c
 (SC.elp 429 (dkF k (2 : Int)).toNat 1 1)) tn tn) nu0) (nv (SV.c (ti .i64 (3 : Int))) nu0 tn)) (np 512 0 (nv (SV.c (SC.raw (Value.pointer none))) (nv (SV.agg (ds5_4)) tn tn) tn) (np
 429 0 nu0 tn)))))) []) (Mem.mk [(1, SO.cells (ds5_2 a b c d e f g) 75), (2, SO.cells (ds5_1 k hk p hp q hq) 77), (45, SO.cells (ds5_2 a b c d e f g) 75), (51, SO.cells (ds5_2 a b c
 d e f g) 75), (83, SO.cells [SC.int false .u64 a, SC.raw (Value.pointer none)] 199), (87, SO.cells [SC.int false .u64 c, SC.raw (Value.pointer none)] 199), (91, SO.cells [SC.int
 false .u64 f, SC.raw (Value.pointer none)] 199), (93, SO.mp true []), (95, SO.cells [SC.int false .u64 a, SC.int false .i64 b, SC.int false .u64 c, SC.int false .i64 d, SC.int false
 .i64 e, SC.int false .u64 f, SC.int false .i64 g, sp 83 0, sp 87 0, sp 91 0, SC.map 93, SC.sli 524 1 true 0 true 4 cap, SC.nls, SC.nls, SC.int true .u64 (0 : Int)] 204), (109,
 SO.cells (ds5_1 k hk p hp q hq) 77), (110, SO.cells [SC.int true .i64 (0 : Int), SC.int true .i64 (0 : Int)] 82), (128, SO.cells [SC.int true .i64 (0 : Int), SC.int true .i64 (0 :
 Int)] 82), (141, SO.cells (ds5_1 k hk p hp q hq) 77), (142, SO.cells [SC.int true .i64 (0 : Int), SC.int true .i64 (0 : Int)] 82), (168, SO.cells [SC.int false .u64 a, SC.raw
 (Value.pointer none)] 199), (176, SO.cells [SC.int false .u64 a, SC.raw (Value.pointer none)] 199), (228, SO.cells [SC.int false .u64 a, SC.raw (Value.pointer none)] 199), (236,
 SO.cells [SC.int false .u64 a, SC.raw (Value.pointer none)] 199), (260, SO.cells [sp 287 0, sp 346 0, sp 429 0, sp 512 0] 210), (269, SO.cells [ti .u64 (0 : Int), SC.raw
 (Value.pointer none)] 199), (280, SO.cells [SC.int false .u64 a, SC.raw (Value.pointer none)] 199), (287, SO.cells (ds5_15 k g_1) 212), (298, SO.cells [sp 287 0] 197), (339,
 SO.cells [ti .u64 (0 : Int), SC.raw (Value.pointer none)] 199), (346, SO.cells (ds5_16 k g_2) 212), (357, SO.cells [sp 346 0] 197), (422, SO.cells [ti .u64 (0 : Int), SC.raw
 (Value.pointer none)] 199), (429, SO.cells (ds5_17 k g_3) 212), (440, SO.cells [sp 429 0] 197), (505, SO.cells [ti .u64 (0 : Int), SC.raw (Value.pointer none)] 199), (512, SO.cells
 (ds5_14 k p) 212), (523, SO.cells [sp 512 0] 197), (524, SO.row 197 1 4 cap [sp 287 0, sp 346 0, sp 429 0, sp 512 0]), (595, SO.cells (ds5_10 k p) 87), (596, SO.cells (ds5_10 k p)
 87)] 609) Scr.nil)) ∧ True) ∧ True) ∧ True) ∧ True) ∧ True) ∧ True) ∧ True) ∧ True) ∧ True) ∧ True) ∧ True) ∧ True) ∧ True) ∧ True) ∧ True) ∧ True) ∧ True) ∧ True)) ∧ ((a == (0 :
 Int)) = false → (True ∧ (∀ (z : Un), True → a = a ∧ Value.pointer none = Value.pointer none ∧ c = c ∧ Value.pointer none = Value.pointer none ∧ f = f ∧ Value.pointer none =
 Value.pointer none ∧ ([] : List (Int × Value)) = [] ∧ a = a ∧ b = b ∧ c = c ∧ d = d ∧ e = e ∧ f = f ∧ g = g ∧ a = a ∧ Value.pointer none = Value.pointer none ∧ (((a = a ∧
 Value.pointer none = Value.pointer none ∧ c = c ∧ Value.pointer none = Value.pointer none ∧ f = f ∧ Value.pointer none = Value.pointer none ∧ ([] : List (Int × Value)) = [] ∧ a = a
 ∧ b = b ∧ c = c ∧ d = d ∧ e = e ∧ f = f ∧ g = g ∧ a = a ∧ Value.pointer none = Value.pointer none ∧ ((((a = a ∧ Value.pointer none = Value.pointer none ∧ c = c ∧ Value.pointer none
 = Value.pointer none ∧ f = f ∧ Value.pointer none = Value.pointer none ∧ ([] : List (Int × Value)) = [] ∧ k = k ∧ p = p ∧ q = q ∧ (a = a ∧ Value.pointer none = Value.pointer none ∧
 c = c ∧ Value.pointer none = Value.pointer none ∧ f = f ∧ Value.pointer none = Value.pointer none ∧ ([] : List (Int × Value)) = [] ∧ k = k ∧ p = p ∧ q = q ∧ (a = a ∧ Value.pointer
 none = Value.pointer none ∧ c = c ∧ Value.pointer none = Value.pointer none ∧ f = f ∧ Value.pointer none = Value.pointer none ∧ ([] : List (Int × Value)) = [] ∧ k = k ∧ p = p ∧ q =
 q ∧ (ds5_25 b) ∧ (((a != (0 : Int)) = true → (a = a ∧ Value.pointer none = Value.pointer none ∧ c = c ∧ Value.pointer none = Value.pointer none ∧ f = f ∧ Value.pointer none =
 Value.pointer none ∧ ([] : List (Int × Value)) = [] ∧ a = a ∧ b + (1 : Int) = b + (1 : Int) ∧ c = c ∧ d = d ∧ e = e ∧ f = f ∧ g = g ∧ a = a ∧ ((a != (0 : Int)) = true → ((true == (a
 == a && (b + (1 : Int) == b && (c == c && (d == d && (e == e && (f == f && (g == g && true)))))))) = true → true = true) ∧ ((true == (a == a && (b + (1 : Int) == b && (c == c && (d
 == d && (e == e && (f == f && (g == g && true)))))))) = false → false = true)) ∧ ((a != (0 : Int)) = false → ds5_19 c e d f g)) ∧ True) ∧ ((a != (0 : Int)) = false → ds5_19 c e d f
 g)) ∧ True) ∧ True) ∧ True) ∧ (∀ (K : KO XN), (fun X0 : Prop => a = a ∧ Value.pointer none = Value.pointer none ∧ c = c ∧ Value.pointer none = Value.pointer none ∧ f = f ∧
 Value.pointer none = Value.pointer none ∧ ([] : List (Int × Value)) = [] ∧ k = k ∧ p = p ∧ q = q ∧ (a = a ∧ Value.pointer none = Value.pointer none ∧ c = c ∧ Value.pointer none =
 Value.pointer none ∧ f = f ∧ Value.pointer none = Value.pointer none ∧ ([] : List (Int × Value)) = [] ∧ k = k ∧ p = p ∧ q = q ∧ (ds5_36 a c f k p q b X0) ∧ True) ∧ True → a = a ∧
 Value.pointer none = Value.pointer none ∧ c = c ∧ Value.pointer none = Value.pointer none ∧ f = f ∧ Value.pointer none = Value.pointer none ∧ ([] : List (Int × Value)) = [] ∧ k = k
 ∧ p = p ∧ q = q ∧ ((ds5_36 a c f k p q b X0) ∧ True) ∧ (∀ (K : KO XN), (fun X1 : Prop => (ds5_36 a c f k p q b X1) ∧ True → a = a ∧ Value.pointer none = Value.pointer none ∧ c = c ∧
 Value.pointer none = Value.pointer none ∧ f = f ∧ Value.pointer none = Value.pointer none ∧ ([] : List (Int × Value)) = [] ∧ k = k ∧ p = p ∧ q = q ∧ ((ds5_25 b) ∧ X1 ∧ True) ∧ True)
 (K (SF.mk 142 (np 95 0 (ds5_7 k hk p hp q hq b) (ds5_28 p hp k hk)) []) (Mem.mk [(1, SO.cells (ds5_2 a b c d e f g) 75), (2, SO.cells (ds5_1 k hk p hp q hq) 77), (45, SO.cells
 (ds5_2 a b c d e f g) 75), (51, SO.cells (ds5_2 a b c d e f g) 75), (83, SO.cells [SC.int false .u64 a, SC.raw (Value.pointer none)] 199), (87, SO.cells [SC.int false .u64 c, SC.raw
 (Value.pointer none)] 199), (91, SO.cells [SC.int false .u64 f, SC.raw (Value.pointer none)] 199), (93, SO.mp true []), (95, SO.cells [SC.int false .u64 a, si .i64 (b + (1 : Int)),
 SC.int false .u64 c, SC.int false .i64 d, SC.int false .i64 e, SC.int false .u64 f, SC.int false .i64 g, sp 83 0, sp 87 0, sp 91 0, SC.map 93, SC.nls, SC.nls, SC.nls, SC.int false
 .u64 a] 204), (109, SO.cells (ds5_1 k hk p hp q hq) 77), (110, SO.cells [SC.int true .i64 (0 : Int), SC.int true .i64 (0 : Int)] 82), (128, SO.cells [SC.int true .i64 (0 : Int),
 SC.int true .i64 (0 : Int)] 82), (141, SO.cells (ds5_1 k hk p hp q hq) 77), (142, SO.cells [SC.int true .i64 (0 : Int), SC.int true .i64 (0 : Int)] 82), (168, SO.cells [SC.int false
 .u64 a, SC.raw (Value.pointer none)] 199), (176, SO.cells [SC.int false .u64 a, SC.raw (Value.pointer none)] 199), (228, SO.cells [SC.int false .u64 a, SC.raw (Value.pointer none)]
 199), (236, SO.cells [SC.int false .u64 a, SC.raw (Value.pointer none)] 199), (256, SO.cells [SC.int true .u64 (0 : Int), SC.raw (Value.pointer none)] 199), (259, SO.cells [SC.int
 false .u64 a, SC.raw (Value.pointer none)] 199), (260, SO.cells [SC.int true .u64 (0 : Int), SC.raw (Value.pointer none)] 199), (275, SO.cells (ds5_4) 87)] 332) Scr.nil)) ∧ True) (K
 (SF.mk 142 (np 95 0 (ds5_7 k hk p hp q hq b) (ds5_28 p hp k hk)) []) (Mem.mk [(1, SO.cells (ds5_2 a b c d e f g) 75), (2, SO.cells (ds5_1 k hk p hp q hq) 77), (45, SO.cells (ds5_2 a
 b c d e f g) 75), (51, SO.cells (ds5_2 a b c d e f g) 75), (83, SO.cells [SC.int false .u64 a, SC.raw (Value.pointer none)] 199), (87, SO.cells [SC.int false .u64 c, SC.raw
 (Value.pointer none)] 199), (91, SO.cells [SC.int false .u64 f, SC.raw (Value.pointer none)] 199), (93, SO.mp true []), (95, SO.cells [SC.int false .u64 a, si .i64 (b + (1 : Int)),
 SC.int false .u64 c, SC.int false .i64 d, SC.int false .i64 e, SC.int false .u64 f, SC.int false .i64 g, sp 83 0, sp 87 0, sp 91 0, SC.map 93, SC.nls, SC.nls, SC.nls, SC.int false
 .u64 a] 204), (109, SO.cells (ds5_1 k hk p hp q hq) 77), (110, SO.cells [SC.int true .i64 (0 : Int), SC.int true .i64 (0 : Int)] 82), (128, SO.cells [SC.int true .i64 (0 : Int),
 SC.int true .i64 (0 : Int)] 82), (141, SO.cells (ds5_1 k hk p hp q hq) 77), (142, SO.cells [SC.int true .i64 (0 : Int), SC.int true .i64 (0 : Int)] 82), (168, SO.cells [SC.int false
 .u64 a, SC.raw (Value.pointer none)] 199), (176, SO.cells [SC.int false .u64 a, SC.raw (Value.pointer none)] 199), (228, SO.cells [SC.int false .u64 a, SC.raw (Value.pointer none)]
 199), (236, SO.cells [SC.int false .u64 a, SC.raw (Value.pointer none)] 199), (256, SO.cells [SC.int true .u64 (0 : Int), SC.raw (Value.pointer none)] 199), (259, SO.cells [SC.int
 false .u64 a, SC.raw (Value.pointer none)] 199), (260, SO.cells [SC.int true .u64 (0 : Int), SC.raw (Value.pointer none)] 199), (275, SO.cells (ds5_4) 87)] 332) Scr.nil)) ∧ True) ∧
 True) ∧ True) ∧ True) ∧ True) ∧ (∀ (K : KO XN), (fun X0 : Prop => (ds5_12 a c f b d e g X0) ∧ True → ds5_5 a c f b d e g X0) (K (ds5_8 a k) (Mem.mk [(1, SO.cells (ds5_2 a b c d e f
 g) 75), (2, SO.cells (ds5_1 k hk p hp q hq) 77), (45, SO.cells (ds5_2 a b c d e f g) 75), (51, SO.cells (ds5_2 a b c d e f g) 75), (83, SO.cells [SC.int false .u64 a, SC.raw
 (Value.pointer none)] 199), (87, SO.cells [SC.int false .u64 c, SC.raw (Value.pointer none)] 199), (91, SO.cells [SC.int false .u64 f, SC.raw (Value.pointer none)] 199), (93, SO.mp
 true []), (95, SO.cells (ds5_13 a b c d e f g) 204), (109, SO.cells (ds5_1 k hk p hp q hq) 77), (110, SO.cells [SC.int true .i64 (0 : Int), SC.int true .i64 (0 : Int)] 82), (128,
 SO.cells [SC.int true .i64 (0 : Int), SC.int true .i64 (0 : Int)] 82), (141, SO.cells (ds5_1 k hk p hp q hq) 77), (142, SO.cells [SC.int true .i64 (0 : Int), SC.int true .i64 (0 :
 Int)] 82), (168, SO.cells [SC.int false .u64 a, SC.raw (Value.pointer none)] 199), (176, SO.cells [SC.int false .u64 a, SC.raw (Value.pointer none)] 199), (228, SO.cells [SC.int
 false .u64 a, SC.raw (Value.pointer none)] 199), (236, SO.cells [SC.int false .u64 a, SC.raw (Value.pointer none)] 199), (259, SO.cells [SC.int false .u64 a, SC.raw (Value.pointer
 none)] 199), (260, SO.cells [SC.int true .u64 (0 : Int), SC.raw (Value.pointer none)] 199), (275, SO.cells (ds5_4) 87)] 265) Scr.nil)) ∧ True) ∧ (∀ (K : KO XN), (fun X0 : Prop =>
 (ds5_20 a c f b d e g X0) ∧ (ds5_27 a c f b d e g k hk p hp q hq) ∧ True → ds5_21 a c f b d e g X0 k hk p hp q hq) (K (ds5_23 a k hk) (Mem.mk [(1, SO.cells (ds5_2 a b c d e f g)
 75), (2, SO.cells (ds5_1 k hk p hp q hq) 77), (45, SO.cells (ds5_2 a b c d e f g) 75), (51, SO.cells (ds5_2 a b c d e f g) 75), (83, SO.cells [SC.int false .u64 a, SC.raw
 (Value.pointer none)] 199), (87, SO.cells [SC.int false .u64 c, SC.raw (Value.pointer none)] 199), (91, SO.cells [SC.int false .u64 f, SC.raw (Value.pointer none)] 199), (93, SO.mp
 true []), (95, SO.cells (ds5_29 a b c d e f g) 204), (109, SO.cells (ds5_1 k hk p hp q hq) 77), (110, SO.cells [SC.int true .i64 (0 : Int), SC.int true .i64 (0 : Int)] 82), (128,
 SO.cells [SC.int true .i64 (0 : Int), SC.int true .i64 (0 : Int)] 82), (141, SO.cells (ds5_1 k hk p hp q hq) 77), (142, SO.cells [SC.int true .i64 (0 : Int), SC.int true .i64 (0 :
 Int)] 82), (168, SO.cells [SC.int false .u64 a, SC.raw (Value.pointer none)] 199), (176, SO.cells [SC.int false .u64 a, SC.raw (Value.pointer none)] 199), (228, SO.cells [SC.int
 false .u64 a, SC.raw (Value.pointer none)] 199), (236, SO.cells [SC.int false .u64 a, SC.raw (Value.pointer none)] 199), (256, SO.cells [SC.int true .u64 (0 : Int), SC.raw
 (Value.pointer none)] 199), (259, SO.cells [SC.int false .u64 a, SC.raw (Value.pointer none)] 199), (260, SO.cells [SC.int true .u64 (0 : Int), SC.raw (Value.pointer none)] 199),
 (275, SO.cells (ds5_4) 87)] 289) Scr.nil)) ∧ True) ∧ True) ∧ (∀ (K : KO XN), (fun X0 : Prop => True ∧ (∀ (z : Un), True → a = a ∧ Value.pointer none = Value.pointer none ∧ c = c ∧
 Value.pointer none = Value.pointer none ∧ f = f ∧ Value.pointer none = Value.pointer none ∧ ([] : List (Int × Value)) = [] ∧ a = a ∧ b = b ∧ c = c ∧ d = d ∧ e = e ∧ f = f ∧ g = g ∧
 a = a ∧ Value.pointer none = Value.pointer none ∧ ((ds5_20 a c f b d e g X0) ∧ (ds5_27 a c f b d e g k hk p hp q hq) ∧ True) ∧ (∀ (K : KO XN), (fun X1 : Prop => (ds5_20 a c f b d e
 g X1) ∧ (∀ (K : KO XN), (fun X2 : Prop => (ds5_12 a c f b d e g X2) ∧ True → ds5_5 a c f b d e g X2) (K (ds5_8 a k) (Mem.mk [(1, SO.cells (ds5_2 a b c d e f g) 75), (2, SO.cells
 (ds5_1 k hk p hp q hq) 77), (45, SO.cells (ds5_2 a b c d e f g) 75), (51, SO.cells (ds5_2 a b c d e f g) 75), (83, SO.cells [SC.int false .u64 a, SC.raw (Value.pointer none)] 199),
 (87, SO.cells [SC.int false .u64 c, SC.raw (Value.pointer none)] 199), (91, SO.cells [SC.int false .u64 f, SC.raw (Value.pointer none)] 199), (93, SO.mp true []), (95, SO.cells
 (ds5_13 a b c d e f g) 204), (109, SO.cells (ds5_1 k hk p hp q hq) 77), (110, SO.cells [SC.int true .i64 (0 : Int), SC.int true .i64 (0 : Int)] 82), (128, SO.cells [SC.int true .i64
 (0 : Int), SC.int true .i64 (0 : Int)] 82), (141, SO.cells (ds5_1 k hk p hp q hq) 77), (142, SO.cells [SC.int true .i64 (0 : Int), SC.int true .i64 (0 : Int)] 82), (168, SO.cells
 [SC.int false .u64 a, SC.raw (Value.pointer none)] 199), (176, SO.cells [SC.int false .u64 a, SC.raw (Value.pointer none)] 199), (228, SO.cells [SC.int false .u64 a, SC.raw
 (Value.pointer none)] 199), (236, SO.cells [SC.int false .u64 a, SC.raw (Value.pointer none)] 199), (259, SO.cells [SC.int false .u64 a, SC.raw (Value.pointer none)] 199), (260,
 SO.cells [SC.int true .u64 (0 : Int), SC.raw (Value.pointer none)] 199), (275, SO.cells (ds5_4) 87)] 265) Scr.nil)) ∧ True → a = a ∧ Value.pointer none = Value.pointer none ∧ c = c
 ∧ Value.pointer none = Value.pointer none ∧ f = f ∧ Value.pointer none = Value.pointer none ∧ ([] : List (Int × Value)) = [] ∧ a = a ∧ b = b ∧ c = c ∧ d = d ∧ e = e ∧ f = f ∧ g = g
 ∧ a = a ∧ Value.pointer none = Value.pointer none ∧ (((ds5_5 a c f b d e g X1) ∧ True) ∧ (∀ (K : KO XN), (fun X2 : Prop => (ds5_12 a c f b d e g X2) ∧ True → ds5_5 a c f b d e g X2)
 (K (ds5_8 a k) (Mem.mk [(1, SO.cells (ds5_2 a b c d e f g) 75), (2, SO.cells (ds5_1 k hk p hp q hq) 77), (45, SO.cells (ds5_2 a b c d e f g) 75), (51, SO.cells (ds5_2 a b c d e f g)
 75), (83, SO.cells [SC.int false .u64 a, SC.raw (Value.pointer none)] 199), (87, SO.cells [SC.int false .u64 c, SC.raw (Value.pointer none)] 199), (91, SO.cells [SC.int false .u64
 f, SC.raw (Value.pointer none)] 199), (93, SO.mp true []), (95, SO.cells (ds5_13 a b c d e f g) 204), (109, SO.cells (ds5_1 k hk p hp q hq) 77), (110, SO.cells [SC.int true .i64 (0
 : Int), SC.int true .i64 (0 : Int)] 82), (128, SO.cells [SC.int true .i64 (0 : Int), SC.int true .i64 (0 : Int)] 82), (141, SO.cells (ds5_1 k hk p hp q hq) 77), (142, SO.cells
 [SC.int true .i64 (0 : Int), SC.int true .i64 (0 : Int)] 82), (168, SO.cells [SC.int false .u64 a, SC.raw (Value.pointer none)] 199), (176, SO.cells [SC.int false .u64 a, SC.raw
 (Value.pointer none)] 199), (228, SO.cells [SC.int false .u64 a, SC.raw (Value.pointer none)] 199), (236, SO.cells [SC.int false .u64 a, SC.raw (Value.pointer none)] 199), (256,
 SO.cells [SC.int true .u64 (0 : Int), SC.raw (Value.pointer none)] 199), (259, SO.cells [SC.int false .u64 a, SC.raw (Value.pointer none)] 199), (260, SO.cells [SC.int true .u64 (0
 : Int), SC.raw (Value.pointer none)] 199), (275, SO.cells (ds5_4) 87)] 265) Scr.nil)) ∧ True) ∧ True) (K (ds5_23 a k hk) (Mem.mk [(1, SO.cells (ds5_2 a b c d e f g) 75), (2,
 SO.cells (ds5_1 k hk p hp q hq) 77), (45, SO.cells (ds5_2 a b c d e f g) 75), (51, SO.cells (ds5_2 a b c d e f g) 75), (83, SO.cells [SC.int false .u64 a, SC.raw (Value.pointer
 none)] 199), (87, SO.cells [SC.int false .u64 c, SC.raw (Value.pointer none)] 199), (91, SO.cells [SC.int false .u64 f, SC.raw (Value.pointer none)] 199), (93, SO.mp true []), (95,
 SO.cells (ds5_29 a b c d e f g) 204), (109, SO.cells (ds5_1 k hk p hp q hq) 77), (110, SO.cells [SC.int true .i64 (0 : Int), SC.int true .i64 (0 : Int)] 82), (128, SO.cells [SC.int
 true .i64 (0 : Int), SC.int true .i64 (0 : Int)] 82), (141, SO.cells (ds5_1 k hk p hp q hq) 77), (142, SO.cells [SC.int true .i64 (0 : Int), SC.int true .i64 (0 : Int)] 82), (168,
 SO.cells [SC.int false .u64 a, SC.raw (Value.pointer none)] 199), (176, SO.cells [SC.int false .u64 a, SC.raw (Value.pointer none)] 199), (228, SO.cells [SC.int false .u64 a, SC.raw
 (Value.pointer none)] 199), (236, SO.cells [SC.int false .u64 a, SC.raw (Value.pointer none)] 199), (256, SO.cells [SC.int true .u64 (0 : Int), SC.raw (Value.pointer none)] 199),
 (259, SO.cells [SC.int false .u64 a, SC.raw (Value.pointer none)] 199), (260, SO.cells [SC.int true .u64 (0 : Int), SC.raw (Value.pointer none)] 199), (275, SO.cells (ds5_4) 87)]
 289) Scr.nil)) ∧ True) ∧ True → a = a ∧ Value.pointer none = Value.pointer none ∧ c = c ∧ Value.pointer none = Value.pointer none ∧ f = f ∧ Value.pointer none = Value.pointer none ∧
 ([] : List (Int × Value)) = [] ∧ a = a ∧ b = b ∧ c = c ∧ d = d ∧ e = e ∧ f = f ∧ g = g ∧ a = a ∧ Value.pointer none = Value.pointer none ∧ (True ∧ (∀ (z : Un), True → ds5_21 a c f b
 d e g X0 k hk p hp q hq) ∧ True) ∧ True) (K (ds5_23 a k hk) (Mem.mk [(1, SO.cells (ds5_2 a b c d e f g) 75), (2, SO.cells (ds5_1 k hk p hp q hq) 77), (45, SO.cells (ds5_2 a b c d e
 f g) 75), (51, SO.cells (ds5_2 a b c d e f g) 75), (83, SO.cells [SC.int false .u64 a, SC.raw (Value.pointer none)] 199), (87, SO.cells [SC.int false .u64 c, SC.raw (Value.pointer
 none)] 199), (91, SO.cells [SC.int false .u64 f, SC.raw (Value.pointer none)] 199), (93, SO.mp true []), (95, SO.cells (ds5_29 a b c d e f g) 204), (109, SO.cells (ds5_1 k hk p hp q
 hq) 77), (110, SO.cells [SC.int true .i64 (0 : Int), SC.int true .i64 (0 : Int)] 82), (128, SO.cells [SC.int true .i64 (0 : Int), SC.int true .i64 (0 : Int)] 82), (141, SO.cells
 (ds5_1 k hk p hp q hq) 77), (142, SO.cells [SC.int true .i64 (0 : Int), SC.int true .i64 (0 : Int)] 82), (168, SO.cells [SC.int false .u64 a, SC.raw (Value.pointer none)] 199),
 (176, SO.cells [SC.int false .u64 a, SC.raw (Value.pointer none)] 199), (228, SO.cells [SC.int false .u64 a, SC.raw (Value.pointer none)] 199), (236, SO.cells [SC.int false .u64 a,
 SC.raw (Value.pointer none)] 199), (256, SO.cells [SC.int true .u64 (0 : Int), SC.raw (Value.pointer none)] 199), (259, SO.cells [SC.int false .u64 a, SC.raw (Value.pointer none)]
 199), (260, SO.cells [SC.int true .u64 (0 : Int), SC.raw (Value.pointer none)] 199), (275, SO.cells (ds5_4) 87)] 289) Scr.nil)) ∧ True)) ∧ True) ∧ True) ∧ ((a == (0 : Int)) = false
 → (True ∧ (∀ (z : Un), True → a = a ∧ Value.pointer none = Value.pointer none ∧ c = c ∧ Value.pointer none = Value.pointer none ∧ f = f ∧ Value.pointer none = Value.pointer none ∧
 ([] : List (Int × Value)) = [] ∧ a = a ∧ b = b ∧ c = c ∧ d = d ∧ e = e ∧ f = f ∧ g = g ∧ a = a ∧ Value.pointer none = Value.pointer none ∧ (((a = a ∧ Value.pointer none =
 Value.pointer none ∧ c = c ∧ Value.pointer none = Value.pointer none ∧ f = f ∧ Value.pointer none = Value.pointer none ∧ ([] : List (Int × Value)) = [] ∧ a = a ∧ b = b ∧ c = c ∧ d =
 d ∧ e = e ∧ f = f ∧ g = g ∧ a = a ∧ Value.pointer none = Value.pointer none ∧ (((((a != (0 : Int)) = true → (a = a ∧ Value.pointer none = Value.pointer none ∧ c = c ∧ Value.pointer
 none = Value.pointer none ∧ f = f ∧ Value.pointer none = Value.pointer none ∧ ([] : List (Int × Value)) = [] ∧ a = a ∧ b = b ∧ c = c ∧ d = d ∧ e = e ∧ f = f ∧ g = g ∧ a = a ∧ ((a !=
 (0 : Int)) = true → ((true == (a == a && (b == b && (c == c && (d == d && (e == e && (f == f && (g == g && true)))))))) = true → true = true) ∧ ((true == (a == a && (b == b && (c ==
 c && (d == d && (e == e && (f == f && (g == g && true)))))))) = false → false = true)) ∧ ((a != (0 : Int)) = false → ds5_19 c e d f g)) ∧ True) ∧ ((a != (0 : Int)) = false → ds5_19
 c e d f g)) ∧ True) ∧ True) ∧ True) ∧ True) ∧ (∀ (K : KO XN), (fun X0 : Prop => (ds5_12 a c f b d e g X0) ∧ True → ds5_5 a c f b d e g X0) (K (ds5_9 a k) (Mem.mk [(1, SO.cells
 (ds5_2 a b c d e f g) 75), (2, SO.cells (ds5_1 k hk p hp q hq) 77), (45, SO.cells (ds5_2 a b c d e f g) 75), (51, SO.cells (ds5_2 a b c d e f g) 75), (83, SO.cells [SC.int false
 .u64 a, SC.raw (Value.pointer none)] 199), (87, SO.cells [SC.int false .u64 c, SC.raw (Value.pointer none)] 199), (91, SO.cells [SC.int false .u64 f, SC.raw (Value.pointer none)]
 199), (93, SO.mp true []), (95, SO.cells (ds5_13 a b c d e f g) 204), (109, SO.cells (ds5_1 k hk p hp q hq) 77), (110, SO.cells [SC.int true .i64 (0 : Int), SC.int true .i64 (0 :
 Int)] 82), (128, SO.cells [SC.int true .i64 (0 : Int), SC.int true .i64 (0 : Int)] 82), (141, SO.cells (ds5_1 k hk p hp q hq) 77), (142, SO.cells [SC.int true .i64 (0 : Int), SC.int
 true .i64 (0 : Int)] 82), (168, SO.cells [SC.int false .u64 a, SC.raw (Value.pointer none)] 199), (176, SO.cells [SC.int false .u64 a, SC.raw (Value.pointer none)] 199), (199,
 SO.cells [SC.int false .u64 a, SC.raw (Value.pointer none)] 199), (200, SO.cells [SC.int true .u64 (0 : Int), SC.raw (Value.pointer none)] 199), (215, SO.cells (ds5_4) 87)] 205)
 Scr.nil)) ∧ True) ∧ (∀ (K : KO XN), (fun X0 : Prop => (ds5_20 a c f b d e g X0) ∧ (ds5_30 a c f b d e g k hk p hp q hq) ∧ True → ds5_22 a c f b d e g X0 k hk p hp q hq) (K (ds5_24 a
 k hk) (Mem.mk [(1, SO.cells (ds5_2 a b c d e f g) 75), (2, SO.cells (ds5_1 k hk p hp q hq) 77), (45, SO.cells (ds5_2 a b c d e f g) 75), (51, SO.cells (ds5_2 a b c d e f g) 75),
 (83, SO.cells [SC.int false .u64 a, SC.raw (Value.pointer none)] 199), (87, SO.cells [SC.int false .u64 c, SC.raw (Value.pointer none)] 199), (91, SO.cells [SC.int false .u64 f,
 SC.raw (Value.pointer none)] 199), (93, SO.mp true []), (95, SO.cells (ds5_29 a b c d e f g) 204), (109, SO.cells (ds5_1 k hk p hp q hq) 77), (110, SO.cells [SC.int true .i64 (0 :
 Int), SC.int true .i64 (0 : Int)] 82), (128, SO.cells [SC.int true .i64 (0 : Int), SC.int true .i64 (0 : Int)] 82), (141, SO.cells (ds5_1 k hk p hp q hq) 77), (142, SO.cells [SC.int
 true .i64 (0 : Int), SC.int true .i64 (0 : Int)] 82), (168, SO.cells [SC.int false .u64 a, SC.raw (Value.pointer none)] 199), (176, SO.cells [SC.int false .u64 a, SC.raw
 (Value.pointer none)] 199), (196, SO.cells [SC.int true .u64 (0 : Int), SC.raw (Value.pointer none)] 199), (199, SO.cells [SC.int false .u64 a, SC.raw (Value.pointer none)] 199),
 (200, SO.cells [SC.int true .u64 (0 : Int), SC.raw (Value.pointer none)] 199), (215, SO.cells (ds5_4) 87)] 229) Scr.nil)) ∧ True) ∧ True) ∧ (∀ (K : KO XN), (fun X0 : Prop => True ∧
 (∀ (z : Un), True → a = a ∧ Value.pointer none = Value.pointer none ∧ c = c ∧ Value.pointer none = Value.pointer none ∧ f = f ∧ Value.pointer none = Value.pointer none ∧ ([] : List
 (Int × Value)) = [] ∧ a = a ∧ b = b ∧ c = c ∧ d = d ∧ e = e ∧ f = f ∧ g = g ∧ a = a ∧ Value.pointer none = Value.pointer none ∧ ((ds5_20 a c f b d e g X0) ∧ (ds5_30 a c f b d e g k
 hk p hp q hq) ∧ True) ∧ (∀ (K : KO XN), (fun X1 : Prop => (ds5_20 a c f b d e g X1) ∧ (∀ (K : KO XN), (fun X2 : Prop => (ds5_12 a c f b d e g X2) ∧ True → ds5_5 a c f b d e g X2) (K
 (ds5_9 a k) (Mem.mk [(1, SO.cells (ds5_2 a b c d e f g) 75), (2, SO.cells (ds5_1 k hk p hp q hq) 77), (45, SO.cells (ds5_2 a b c d e f g) 75), (51, SO.cells (ds5_2 a b c d e f g)
 75), (83, SO.cells [SC.int false .u64 a, SC.raw (Value.pointer none)] 199), (87, SO.cells [SC.int false .u64 c, SC.raw (Value.pointer none)] 199), (91, SO.cells [SC.int false .u64
 f, SC.raw (Value.pointer none)] 199), (93, SO.mp true []), (95, SO.cells (ds5_13 a b c d e f g) 204), (109, SO.cells (ds5_1 k hk p hp q hq) 77), (110, SO.cells [SC.int true .i64 (0
 : Int), SC.int true .i64 (0 : Int)] 82), (128, SO.cells [SC.int true .i64 (0 : Int), SC.int true .i64 (0 : Int)] 82), (141, SO.cells (ds5_1 k hk p hp q hq) 77), (142, SO.cells
 [SC.int true .i64 (0 : Int), SC.int true .i64 (0 : Int)] 82), (168, SO.cells [SC.int false .u64 a, SC.raw (Value.pointer none)] 199), (176, SO.cells [SC.int false .u64 a, SC.raw
 (Value.pointer none)] 199), (199, SO.cells [SC.int false .u64 a, SC.raw (Value.pointer none)] 199), (200, SO.cells [SC.int true .u64 (0 : Int), SC.raw (Value.pointer none)] 199),
 (215, SO.cells (ds5_4) 87)] 205) Scr.nil)) ∧ True → a = a ∧ Value.pointer none = Value.pointer none ∧ c = c ∧ Value.pointer none = Value.pointer none ∧ f = f ∧ Value.pointer none =
 Value.pointer none ∧ ([] : List (Int × Value)) = [] ∧ a = a ∧ b = b ∧ c = c ∧ d = d ∧ e = e ∧ f = f ∧ g = g ∧ a = a ∧ Value.pointer none = Value.pointer none ∧ (((ds5_5 a c f b d e
 g X1) ∧ True) ∧ (∀ (K : KO XN), (fun X2 : Prop => (ds5_12 a c f b d e g X2) ∧ True → ds5_5 a c f b d e g X2) (K (ds5_9 a k) (Mem.mk [(1, SO.cells (ds5_2 a b c d e f g) 75), (2,
 SO.cells (ds5_1 k hk p hp q hq) 77), (45, SO.cells (ds5_2 a b c d e f g) 75), (51, SO.cells (ds5_2 a b c d e f g) 75), (83, SO.cells [SC.int false .u64 a, SC.raw (Value.pointer
 none)] 199), (87, SO.cells [SC.int false .u64 c, SC.raw (Value.pointer none)] 199), (91, SO.cells [SC.int false .u64 f, SC.raw (Value.pointer none)] 199), (93, SO.mp true []), (95,
 SO.cells (ds5_13 a b c d e f g) 204), (109, SO.cells (ds5_1 k hk p hp q hq) 77), (110, SO.cells [SC.int true .i64 (0 : Int), SC.int true .i64 (0 : Int)] 82), (128, SO.cells [SC.int
 true .i64 (0 : Int), SC.int true .i64 (0 : Int)] 82), (141, SO.cells (ds5_1 k hk p hp q hq) 77), (142, SO.cells [SC.int true .i64 (0 : Int), SC.int true .i64 (0 : Int)] 82), (168,
 SO.cells [SC.int false .u64 a, SC.raw (Value.pointer none)] 199), (176, SO.cells [SC.int false .u64 a, SC.raw (Value.pointer none)] 199), (196, SO.cells [SC.int true .u64 (0 : Int),
 SC.raw (Value.pointer none)] 199), (199, SO.cells [SC.int false .u64 a, SC.raw (Value.pointer none)] 199), (200, SO.cells [SC.int true .u64 (0 : Int), SC.raw (Value.pointer none)]
 199), (215, SO.cells (ds5_4) 87)] 205) Scr.nil)) ∧ True) ∧ True) (K (ds5_24 a k hk) (Mem.mk [(1, SO.cells (ds5_2 a b c d e f g) 75), (2, SO.cells (ds5_1 k hk p hp q hq) 77), (45,
 SO.cells (ds5_2 a b c d e f g) 75), (51, SO.cells (ds5_2 a b c d e f g) 75), (83, SO.cells [SC.int false .u64 a, SC.raw (Value.pointer none)] 199), (87, SO.cells [SC.int false .u64
 c, SC.raw (Value.pointer none)] 199), (91, SO.cells [SC.int false .u64 f, SC.raw (Value.pointer none)] 199), (93, SO.mp true []), (95, SO.cells (ds5_29 a b c d e f g) 204), (109,
 SO.cells (ds5_1 k hk p hp q hq) 77), (110, SO.cells [SC.int true .i64 (0 : Int), SC.int true .i64 (0 : Int)] 82), (128, SO.cells [SC.int true .i64 (0 : Int), SC.int true .i64 (0 :
 Int)] 82), (141, SO.cells (ds5_1 k hk p hp q hq) 77), (142, SO.cells [SC.int true .i64 (0 : Int), SC.int true .i64 (0 : Int)] 82), (168, SO.cells [SC.int false .u64 a, SC.raw
 (Value.pointer none)] 199), (176, SO.cells [SC.int false .u64 a, SC.raw (Value.pointer none)] 199), (196, SO.cells [SC.int true .u64 (0 : Int), SC.raw (Value.pointer none)] 199),
 (199, SO.cells [SC.int false .u64 a, SC.raw (Value.pointer none)] 199), (200, SO.cells [SC.int true .u64 (0 : Int), SC.raw (Value.pointer none)] 199), (215, SO.cells (ds5_4) 87)]
 229) Scr.nil)) ∧ True) ∧ True → a = a ∧ Value.pointer none = Value.pointer none ∧ c = c ∧ Value.pointer none = Value.pointer none ∧ f = f ∧ Value.pointer none = Value.pointer none ∧
 ([] : List (Int × Value)) = [] ∧ a = a ∧ b = b ∧ c = c ∧ d = d ∧ e = e ∧ f = f ∧ g = g ∧ a = a ∧ Value.pointer none = Value.pointer none ∧ (True ∧ (∀ (z : Un), True → ds5_22 a c f b
 d e g X0 k hk p hp q hq) ∧ True) ∧ True) (K (ds5_24 a k hk) (Mem.mk [(1, SO.cells (ds5_2 a b c d e f g) 75), (2, SO.cells (ds5_1 k hk p hp q hq) 77), (45, SO.cells (ds5_2 a b c d e
 f g) 75), (51, SO.cells (ds5_2 a b c d e f g) 75), (83, SO.cells [SC.int false .u64 a, SC.raw (Value.pointer none)] 199), (87, SO.cells [SC.int false .u64 c, SC.raw (Value.pointer
 none)] 199), (91, SO.cells [SC.int false .u64 f, SC.raw (Value.pointer none)] 199), (93, SO.mp true []), (95, SO.cells (ds5_29 a b c d e f g) 204), (109, SO.cells (ds5_1 k hk p hp q
 hq) 77), (110, SO.cells [SC.int true .i64 (0 : Int), SC.int true .i64 (0 : Int)] 82), (128, SO.cells [SC.int true .i64 (0 : Int), SC.int true .i64 (0 : Int)] 82), (141, SO.cells
 (ds5_1 k hk p hp q hq) 77), (142, SO.cells [SC.int true .i64 (0 : Int), SC.int true .i64 (0 : Int)] 82), (168, SO.cells [SC.int false .u64 a, SC.raw (Value.pointer none)] 199),
 (176, SO.cells [SC.int false .u64 a, SC.raw (Value.pointer none)] 199), (196, SO.cells [SC.int true .u64 (0 : Int), SC.raw (Value.pointer none)] 199), (199, SO.cells [SC.int false
 .u64 a, SC.raw (Value.pointer none)] 199), (200, SO.cells [SC.int true .u64 (0 : Int), SC.raw (Value.pointer none)] 199), (215, SO.cells (ds5_4) 87)] 229) Scr.nil)) ∧ True))) ∧
 True)) ∧ (decide (max (max b e) g ≤ (256 : Int)) = false → true = true)) ∧ (decide (min (min (min b e) g) d ≥ (0 : Int)) = false → true = true)) := by
  kernel_rfl
theorem ds5_run (a b c d e f g : Int) (k p q : Int) (hk : 0 ≤ k ∧ k ≤ 255) (hp : 0 ≤ p ∧ p ≤ 1023) (hq : 0 ≤ q ∧ q ≤ 1023) (hc : DsOk a b c d e f g) : Run (callN Try.prog (tblDS : List (Smry Try.prog XN)) (fun _ _ => false) 100 20 4 [.agg [.int false .u64 a, .int false .i64 b, .int false .u64 c, .int false .i64 d, .int false .i64 e, .int false .u64 f, .int false .i64 g], .agg [.int true .i64 5, .int false .i64 k (.w 0 255 hk), .int false .i64 p (.w 0 1023 hp), .int false .i64 q (.w 0 1023 hq)]] ⟨[], 1⟩ (.cut 4 (liveL [2, 3, 4, 5, 6, 8, 9, 11, 13, 131]) [] Unit (fun _ _ => ([], [])) .nil fun _ => .nil) (fun v _ _ => retTrue v)) := by
  constructor
  rw [ds5_vc]
  delta ds5_1 ds5_2 ds5_3 ds5_4 ds5_5 ds5_26 ds5_38 ds5_34 ds5_39 ds5_33 ds5_6 ds5_7 ds5_43 ds5_40 ds5_49 ds5_8 ds5_9 ds5_10 ds5_11 ds5_12 ds5_13 ds5_14 ds5_15 ds5_16 ds5_17 ds5_18 ds5_19 ds5_20 ds5_21 ds5_22 ds5_23 ds5_24 ds5_25 ds5_27 ds5_28 ds5_29 ds5_30 ds5_31 ds5_32 ds5_35 ds5_36 ds5_37 ds5_41 ds5_42 ds5_44 ds5_45 ds5_46 ds5_47 ds5_48
  obtain ⟨⟨⟨ha0, ha1⟩, ⟨hb0, hb1⟩, hc0, hc1⟩, ⟨hd0, hd1⟩, ⟨he0, he1⟩, ⟨hf0, hf1⟩, hg0, hg1⟩ := hc
  repeat' first
    | (refine fun (K : KO XN) => ?_; simp only [eq_self, true_and, and_true, imp_self, implies_true]; first | done | exact id; done)
    | with_reducible apply And.intro
    | with_reducible exact trivial
    | with_reducible exact Eq.refl _
    | (with_reducible refine Exists.intro () ?_)
    | (intro h; simp only [bne_self_eq_false, Bool.false_eq_true] at h; done)
    | intro _
  all_goals first
    | omega
    | exact (dkF_bd _ _).1
    | (refine Int.lt_of_le_of_lt (dkF_bd _ _).2 ?_; omega)
    | exact ds_tn _ _
    | exact (ds_no (dkF_bd _ 3) hp.1 (by assumption)).elim
    | with_reducible assumption
    | (simp only [Bool.not_eq_false', Bool.not_eq_true', decide_eq_true_eq, decide_eq_false_iff_not] at *; omega)
    | (simp_all; done)
end Go.Proofs.Ytnkikhhiaecebaa
