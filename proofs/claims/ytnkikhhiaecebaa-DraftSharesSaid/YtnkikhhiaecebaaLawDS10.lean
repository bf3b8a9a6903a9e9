/- DraftShares, code 10. -/
import Derived.Test.YtnkikhhiaecebaaDsT
import Derived.Test.YtnkikhhiaecebaaBaseC
set_option linter.all false
namespace Go.Proofs.Ytnkikhhiaecebaa
open Go Go.RowKit
set_option maxRecDepth 1000000
set_option maxHeartbeats 0
def ds10_1 (k : Int) (hk : 0 ≤ k ∧ k ≤ 255) (p : Int) (hp : 0 ≤ p ∧ p ≤ 1023) (q : Int) (hq : 0 ≤ q ∧ q ≤ 1023) : List SC := [SC.int true .i64 (10 : Int), SC.int false .i64 k (Bd.w
 (0 : Int) (255 : Int) hk), SC.int false .i64 p (Bd.w (0 : Int) (1023 : Int) hp), SC.int false .i64 q (Bd.w (0 : Int) (1023 : Int) hq)]
def ds10_2 (a b c d e f g : Int) : List SC := [SC.int false .u64 a, SC.int false .i64 b, SC.int false .u64 c, SC.int false .i64 d, SC.int false .i64 e, SC.int false .u64 f, SC.int
 false .i64 g]
def ds10_3 (k : Int) (g_1 g_2 g_3 : Nat → Value) (X0 : Prop) : Prop := ((if (dkF k (0 : Int)).toNat = 0 then (0 : Int) else (0 : Int)) = if (dkF k (0 : Int)).toNat = 0 then (0 :
 Int) else (0 : Int)) ∧ ((if (dkF k (0 : Int)).toNat = 1 then (0 : Int) else (0 : Int)) = if (dkF k (0 : Int)).toNat = 1 then (0 : Int) else (0 : Int)) ∧ ((if (dkF k (0 : Int)).toNat
 = 2 then (0 : Int) else (0 : Int)) = if (dkF k (0 : Int)).toNat = 2 then (0 : Int) else (0 : Int)) ∧ ((if (dkF k (0 : Int)).toNat = 3 then (0 : Int) else (0 : Int)) = if (dkF k (0 :
 Int)).toNat = 3 then (0 : Int) else (0 : Int)) ∧ g_1 0 = g_1 0 ∧ g_1 1 = g_1 1 ∧ g_1 2 = g_1 2 ∧ g_1 3 = g_1 3 ∧ ((if (dkF k (1 : Int)).toNat = 0 then (0 : Int) else (0 : Int)) = if
 (dkF k (1 : Int)).toNat = 0 then (0 : Int) else (0 : Int)) ∧ ((if (dkF k (1 : Int)).toNat = 1 then (0 : Int) else (0 : Int)) = if (dkF k (1 : Int)).toNat = 1 then (0 : Int) else (0
 : Int)) ∧ ((if (dkF k (1 : Int)).toNat = 2 then (0 : Int) else (0 : Int)) = if (dkF k (1 : Int)).toNat = 2 then (0 : Int) else (0 : Int)) ∧ ((if (dkF k (1 : Int)).toNat = 3 then (0
 : Int) else (0 : Int)) = if (dkF k (1 : Int)).toNat = 3 then (0 : Int) else (0 : Int)) ∧ g_2 0 = g_2 0 ∧ g_2 1 = g_2 1 ∧ g_2 2 = g_2 2 ∧ g_2 3 = g_2 3 ∧ ((if (dkF k (2 : Int)).toNat
 = 0 then (0 : Int) else (0 : Int)) = if (dkF k (2 : Int)).toNat = 0 then (0 : Int) else (0 : Int)) ∧ ((if (dkF k (2 : Int)).toNat = 1 then (0 : Int) else (0 : Int)) = if (dkF k (2 :
 Int)).toNat = 1 then (0 : Int) else (0 : Int)) ∧ ((if (dkF k (2 : Int)).toNat = 2 then (0 : Int) else (0 : Int)) = if (dkF k (2 : Int)).toNat = 2 then (0 : Int) else (0 : Int)) ∧
 ((if (dkF k (2 : Int)).toNat = 3 then (0 : Int) else (0 : Int)) = if (dkF k (2 : Int)).toNat = 3 then (0 : Int) else (0 : Int)) ∧ g_3 0 = g_3 0 ∧ g_3 1 = g_3 1 ∧ g_3 2 = g_3 2 ∧ g_3
 3 = g_3 3 ∧ (((0 : Int) ≤ dkF k (3 : Int) ∧ dkF k (3 : Int) < (4 : Int)) ∧ (dkF k (3 : Int)).toNat < 4 ∧ ((if (dkF k (0 : Int)).toNat = 0 then (0 : Int) else (0 : Int)) = if (dkF k
 (0 : Int)).toNat = 0 then (0 : Int) else (0 : Int)) ∧ ((if (dkF k (0 : Int)).toNat = 1 then (0 : Int) else (0 : Int)) = if (dkF k (0 : Int)).toNat = 1 then (0 : Int) else (0 : Int))
 ∧ ((if (dkF k (0 : Int)).toNat = 2 then (0 : Int) else (0 : Int)) = if (dkF k (0 : Int)).toNat = 2 then (0 : Int) else (0 : Int)) ∧ ((if (dkF k (0 : Int)).toNat = 3 then (0 : Int)
 else (0 : Int)) = if (dkF k (0 : Int)).toNat = 3 then (0 : Int) else (0 : Int)) ∧ g_1 0 = g_1 0 ∧ g_1 1 = g_1 1 ∧ g_1 2 = g_1 2 ∧ g_1 3 = g_1 3 ∧ ((if (dkF k (1 : Int)).toNat = 0
 then (0 : Int) else (0 : Int)) = if (dkF k (1 : Int)).toNat = 0 then (0 : Int) else (0 : Int)) ∧ ((if (dkF k (1 : Int)).toNat = 1 then (0 : Int) else (0 : Int)) = if (dkF k (1 :
 Int)).toNat = 1 then (0 : Int) else (0 : Int)) ∧ ((if (dkF k (1 : Int)).toNat = 2 then (0 : Int) else (0 : Int)) = if (dkF k (1 : Int)).toNat = 2 then (0 : Int) else (0 : Int)) ∧
 ((if (dkF k (1 : Int)).toNat = 3 then (0 : Int) else (0 : Int)) = if (dkF k (1 : Int)).toNat = 3 then (0 : Int) else (0 : Int)) ∧ g_2 0 = g_2 0 ∧ g_2 1 = g_2 1 ∧ g_2 2 = g_2 2 ∧ g_2
 3 = g_2 3 ∧ ((if (dkF k (2 : Int)).toNat = 0 then (0 : Int) else (0 : Int)) = if (dkF k (2 : Int)).toNat = 0 then (0 : Int) else (0 : Int)) ∧ ((if (dkF k (2 : Int)).toNat = 1 then
 (0 : Int) else (0 : Int)) = if (dkF k (2 : Int)).toNat = 1 then (0 : Int) else (0 : Int)) ∧ ((if (dkF k (2 : Int)).toNat = 2 then (0 : Int) else (0 : Int)) = if (dkF k (2 :
 Int)).toNat = 2 then (0 : Int) else (0 : Int)) ∧ ((if (dkF k (2 : Int)).toNat = 3 then (0 : Int) else (0 : Int)) = if (dkF k (2 : Int)).toNat = 3 then (0 : Int) else (0 : Int)) ∧
 g_3 0 = g_3 0 ∧ g_3 1 = g_3 1 ∧ g_3 2 = g_3 2 ∧ g_3 3 = g_3 3 ∧ X0 ∧ True) ∧ True
def ds10_4  : List SC := [SC.int true .u64 (0 : Int), SC.int true .u64 (0 : Int), SC.int true .u64 (0 : Int), SC.int true .u64 (0 : Int)]
def ds10_5 (a c f b d e g : Int) (X0 : Prop) : Prop := a = a ∧ Value.pointer none = Value.pointer none ∧ c = c ∧ Value.pointer none = Value.pointer none ∧ f = f ∧ Value.pointer none
 = Value.pointer none ∧ ([] : List (Int × Value)) = [] ∧ a = a ∧ b = b ∧ c = c ∧ d = d ∧ e = e ∧ f = f ∧ g = g ∧ f = f ∧ Value.pointer none = Value.pointer none ∧ (X0 ∧ True) ∧ True
def ds10_26 (p : Int) (hp : 0 ≤ p ∧ p ≤ 1023) : SV := SV.c (SC.int false .u64 (p + (1 : Int)) (Bd.w (1 : Int) (1024 : Int) (Bd.add._proof_1 (Int.ofNat 0) (Int.ofNat (1022 + 1)) hp
 (1 : Int) (1 : Int) Bd.of._proof_1)))
def ds10_35 (g p : Int) (hp : 0 ≤ p ∧ p ≤ 1023) : ST := np 141 0 (nv (SV.tup [(false, [SC.int true .u64 (0 : Int)]), (false, [tb true])]) (nv (SV.c (tb true)) (np 95 0 nu0 tn) (nu
 nu0 tn)) (np 141 1 (nv (SV.c (si .i64 (g + (1 : Int)))) nu0 tn) (nu nu0 tn))) (nv (SV.tup [(false, [SC.int true .u64 (0 : Int)]), (false, [tb true])]) (np 141 0 (np 141 2 nu0 tn)
 (nu nu0 tn)) (nv (ds10_26 p hp) (nu nu0 tn) (nu nu0 tn)))
def ds10_41 (g p : Int) (hp : 0 ≤ p ∧ p ≤ 1023) : ST := nv (SV.c (SC.int true .u64 (0 : Int))) (np 141 1 (nu (nv (SV.c (SC.int false .i64 g)) nu0 tn) (nu nu0 tn)) (np 141 2 (np 95 0
 nu0 tn) (nu nu0 tn))) (nv (SV.c (tb true)) (nv (SV.c (tb true)) (nv (ds10_26 p hp) nu0 tn) (nu nu0 tn)) (np 95 0 (nu nu0 tn) nu0))
def ds10_47 (k : Int) (hk : 0 ≤ k ∧ k ≤ 255) : ST := np 95 0 (nv (SV.c (tb false)) (np 95 6 nu0 tn) (nu nu0 tn)) (nv (SV.c (SC.int false .i64 k (Bd.w (0 : Int) (255 : Int) hk))) (np
 95 0 nu0 tn) (nu nu0 tn))
def ds10_34 (k : Int) (hk : 0 ≤ k ∧ k ≤ 255) (p : Int) (hp : 0 ≤ p ∧ p ≤ 1023) : ST := nv (SV.c (tb true)) (nv (SV.c (SC.int false .i64 k (Bd.w (0 : Int) (255 : Int) hk))) (nv (SV.c
 (tb true)) (nv (SV.c (SC.int true .u64 (0 : Int))) nu0 tn) (nu nu0 tn)) (nv (SV.c (SC.int false .i64 p (Bd.w (0 : Int) (1023 : Int) hp))) (np 95 6 nu0 tn) (nu nu0 tn))) (nv (SV.c
 (tb false)) (np 95 0 (nv (SV.c (SC.int true .i64 (1 : Int))) nu0 tn) (nu nu0 tn)) (np 95 0 (nu nu0 tn) nu0))
def ds10_6 (k : Int) (hk : 0 ≤ k ∧ k ≤ 255) (p : Int) (hp : 0 ≤ p ∧ p ≤ 1023) (q : Int) (hq : 0 ≤ q ∧ q ≤ 1023) (g : Int) : SF := SF.mk 92 (np 95 0 (nv (SV.agg (ds10_1 k hk p hp q
 hq)) (ds10_35 g p hp) (ds10_41 g p hp)) (nu (np 142 0 (ds10_47 k hk) (nv (SV.c (SC.int true .u64 (0 : Int))) (nv (SV.c (SC.int true .i64 (10 : Int))) (nv (SV.c (SC.int false .i64 p
 (Bd.w (0 : Int) (1023 : Int) hp))) nu0 tn) (nu nu0 tn)) (nv (SV.tup [(false, [SC.int true .u64 (0 : Int)]), (false, [tb true])]) (nu nu0 tn) nu0))) (ds10_34 k hk p hp))) []
def ds10_42  : ST := nu (nv (SV.c (tb false)) (nu (np 95 10 tn tn) nu0) (nu nu0 tn)) (nv (SV.c (SC.raw (Value.pointer none))) (nu (nv (SV.tup [(true, (ds10_4)), (false, [tb
 false])]) tn tn) tn) (nu nu0 tn))
def ds10_38 (k : Int) : SV := SV.c (SC.int false .i64 (dkF k (0 : Int)) (Bd.w (0 : Int) (3 : Int) (dkF_bd k (Int.ofNat 0))))
def ds10_46  : ST := nv (SV.c (tb false)) (nu (nv (SV.agg (ds10_4)) tn tn) tn) (nv (SV.tup [(true, (ds10_4)), (false, [tb false])]) nu0 tn)
def ds10_7 (f k : Int) : SF := SF.mk 50 (np 95 0 (nv (SV.agg [SC.int false .u64 f, SC.raw (Value.pointer none)]) (ds10_42) (nu (nv (SV.c (tb false)) (nu (np 254 0 tn tn) nu0) (nu
 nu0 tn)) (nu (nu (nv (SV.c (tb false)) tn tn) tn) (np 95 0 nu0 tn)))) (nv (ds10_38 k) (np 254 0 (np 270 0 (nu (nv (SV.c (SC.map 93)) tn tn) nu0) (nu nu0 tn)) (ds10_46)) (np 255 0
 (np 254 1 (nu (nv (SV.c (SC.int false .u64 f)) tn tn) tn) (nu nu0 tn)) (nu (nu nu0 tn) (np 95 0 nu0 tn))))) []
def ds10_8 (f k : Int) : SF := SF.mk 50 (np 95 0 (nv (SV.agg [SC.int false .u64 f, SC.raw (Value.pointer none)]) (ds10_42) (nu (nv (SV.c (tb false)) (nu (np 193 0 tn tn) nu0) (nu
 nu0 tn)) (nu (nu (nv (SV.c (tb false)) tn tn) tn) (np 95 0 nu0 tn)))) (nv (ds10_38 k) (np 193 0 (np 209 0 (nu (nv (SV.c (SC.map 93)) tn tn) nu0) (nu nu0 tn)) (ds10_46)) (np 194 0
 (np 193 1 (nu (nv (SV.c (SC.int false .u64 f)) tn tn) tn) (nu nu0 tn)) (nu (nu nu0 tn) (np 95 0 nu0 tn))))) []
def ds10_9 (k : Int) (hk : 0 ≤ k ∧ k ≤ 255) (p : Int) (hp : 0 ≤ p ∧ p ≤ 1023) (q : Int) (hq : 0 ≤ q ∧ q ≤ 1023) (g : Int) : ST := nv (SV.agg (ds10_1 k hk p hp q hq)) (ds10_35 g p
 hp) (ds10_41 g p hp)
def ds10_10 (k p : Int) : List SC := [si .u64 (if (dkF k (3 : Int)).toNat = 0 then p + (1 : Int) else (0 : Int)), si .u64 (if (dkF k (3 : Int)).toNat = 1 then p + (1 : Int) else (0
 : Int)), si .u64 (if (dkF k (3 : Int)).toNat = 2 then p + (1 : Int) else (0 : Int)), si .u64 (if (dkF k (3 : Int)).toNat = 3 then p + (1 : Int) else (0 : Int))]
def ds10_11 (f : Int) : ST := nv (SV.c (SC.int true .i64 (2 : Int))) (nu (nv (SV.c (tb false)) (np 95 7 (nv (SV.tup [(true, [SC.int true .u64 (0 : Int), SC.raw (Value.pointer
 none)]), (false, [tb false])]) tn tn) tn) (nv (SV.agg [SC.int false .u64 f, SC.raw (Value.pointer none)]) nu0 tn)) (nv (SV.c (tb false)) (nv (SV.agg [SC.int false .u64 f, SC.raw
 (Value.pointer none)]) nu0 tn) (nv (SV.agg [SC.int false .u64 f, SC.raw (Value.pointer none)]) tn tn))) (nu (nv (SV.c (SC.int true .i64 (0 : Int))) (np 91 0 (nv (SV.c (tb false)) tn
 tn) tn) (nv (SV.tup [(true, [SC.int true .u64 (0 : Int), SC.raw (Value.pointer none)]), (false, [tb false])]) tn tn)) (nv (SV.c (SC.int true .i64 (2 : Int))) (nv (SV.c (tb true))
 nu0 tn) (nv (SV.c (SC.int true .i64 (0 : Int))) tn tn)))
def ds10_12 (a c f b d e g : Int) (X0 : Prop) : Prop := a = a ∧ Value.pointer none = Value.pointer none ∧ c = c ∧ Value.pointer none = Value.pointer none ∧ f = f ∧ Value.pointer
 none = Value.pointer none ∧ ([] : List (Int × Value)) = [] ∧ a = a ∧ b = b ∧ c = c ∧ d = d ∧ e = e ∧ f = f ∧ g = g ∧ f = f ∧ Value.pointer none = Value.pointer none ∧ X0 ∧ True
def ds10_13 (a b c d e f g : Int) : List SC := [SC.int false .u64 a, SC.int false .i64 b, SC.int false .u64 c, SC.int false .i64 d, SC.int false .i64 e, SC.int false .u64 f, SC.int
 false .i64 g, sp 83 0, sp 87 0, sp 91 0, SC.map 93, SC.nls, SC.nls, SC.nls, SC.int true .u64 (0 : Int)]
def ds10_14 (k p : Int) : List SC := [ti .i64 (3 : Int), si .u64 (if (dkF k (3 : Int)).toNat = 0 then p + (1 : Int) else (0 : Int)), si .u64 (if (dkF k (3 : Int)).toNat = 1 then p +
 (1 : Int) else (0 : Int)), si .u64 (if (dkF k (3 : Int)).toNat = 2 then p + (1 : Int) else (0 : Int)), si .u64 (if (dkF k (3 : Int)).toNat = 3 then p + (1 : Int) else (0 : Int)),
 SC.raw (Value.pointer none), SC.raw (Value.pointer none), SC.raw (Value.pointer none), SC.raw (Value.pointer none), tb false]
def ds10_15 (k : Int) (g_1 : Nat → Value) : List SC := [SC.int true .i64 (0 : Int), si .u64 (if (dkF k (0 : Int)).toNat = 0 then (0 : Int) else (0 : Int)), si .u64 (if (dkF k (0 :
 Int)).toNat = 1 then (0 : Int) else (0 : Int)), si .u64 (if (dkF k (0 : Int)).toNat = 2 then (0 : Int) else (0 : Int)), si .u64 (if (dkF k (0 : Int)).toNat = 3 then (0 : Int) else
 (0 : Int)), SC.raw (g_1 0), SC.raw (g_1 1), SC.raw (g_1 2), SC.raw (g_1 3), tb false]
def ds10_16 (k : Int) (g_2 : Nat → Value) : List SC := [ti .i64 (1 : Int), si .u64 (if (dkF k (1 : Int)).toNat = 0 then (0 : Int) else (0 : Int)), si .u64 (if (dkF k (1 :
 Int)).toNat = 1 then (0 : Int) else (0 : Int)), si .u64 (if (dkF k (1 : Int)).toNat = 2 then (0 : Int) else (0 : Int)), si .u64 (if (dkF k (1 : Int)).toNat = 3 then (0 : Int) else
 (0 : Int)), SC.raw (g_2 0), SC.raw (g_2 1), SC.raw (g_2 2), SC.raw (g_2 3), tb false]
def ds10_17 (k : Int) (g_3 : Nat → Value) : List SC := [ti .i64 (2 : Int), si .u64 (if (dkF k (2 : Int)).toNat = 0 then (0 : Int) else (0 : Int)), si .u64 (if (dkF k (2 :
 Int)).toNat = 1 then (0 : Int) else (0 : Int)), si .u64 (if (dkF k (2 : Int)).toNat = 2 then (0 : Int) else (0 : Int)), si .u64 (if (dkF k (2 : Int)).toNat = 3 then (0 : Int) else
 (0 : Int)), SC.raw (g_3 0), SC.raw (g_3 1), SC.raw (g_3 2), SC.raw (g_3 3), tb false]
def ds10_18 (k : Int) (g_1 g_2 g_3 : Nat → Value) (X0 : Prop) : Prop := True ∧ (∀ (z : Un), True → ((if (dkF k (0 : Int)).toNat = 0 then (0 : Int) else (0 : Int)) = if (dkF k (0 :
 Int)).toNat = 0 then (0 : Int) else (0 : Int)) ∧ ((if (dkF k (0 : Int)).toNat = 1 then (0 : Int) else (0 : Int)) = if (dkF k (0 : Int)).toNat = 1 then (0 : Int) else (0 : Int)) ∧
 ((if (dkF k (0 : Int)).toNat = 2 then (0 : Int) else (0 : Int)) = if (dkF k (0 : Int)).toNat = 2 then (0 : Int) else (0 : Int)) ∧ ((if (dkF k (0 : Int)).toNat = 3 then (0 : Int)
 else (0 : Int)) = if (dkF k (0 : Int)).toNat = 3 then (0 : Int) else (0 : Int)) ∧ g_1 0 = g_1 0 ∧ g_1 1 = g_1 1 ∧ g_1 2 = g_1 2 ∧ g_1 3 = g_1 3 ∧ ((if (dkF k (1 : Int)).toNat = 0
 then (0 : Int) else (0 : Int)) = if (dkF k (1 : Int)).toNat = 0 then (0 : Int) else (0 : Int)) ∧ ((if (dkF k (1 : Int)).toNat = 1 then (0 : Int) else (0 : Int)) = if (dkF k (1 :
 Int)).toNat = 1 then (0 : Int) else (0 : Int)) ∧ ((if (dkF k (1 : Int)).toNat = 2 then (0 : Int) else (0 : Int)) = if (dkF k (1 : Int)).toNat = 2 then (0 : Int) else (0 : Int)) ∧
 ((if (dkF k (1 : Int)).toNat = 3 then (0 : Int) else (0 : Int)) = if (dkF k (1 : Int)).toNat = 3 then (0 : Int) else (0 : Int)) ∧ g_2 0 = g_2 0 ∧ g_2 1 = g_2 1 ∧ g_2 2 = g_2 2 ∧ g_2
 3 = g_2 3 ∧ ((if (dkF k (2 : Int)).toNat = 0 then (0 : Int) else (0 : Int)) = if (dkF k (2 : Int)).toNat = 0 then (0 : Int) else (0 : Int)) ∧ ((if (dkF k (2 : Int)).toNat = 1 then
 (0 : Int) else (0 : Int)) = if (dkF k (2 : Int)).toNat = 1 then (0 : Int) else (0 : Int)) ∧ ((if (dkF k (2 : Int)).toNat = 2 then (0 : Int) else (0 : Int)) = if (dkF k (2 :
 Int)).toNat = 2 then (0 : Int) else (0 : Int)) ∧ ((if (dkF k (2 : Int)).toNat = 3 then (0 : Int) else (0 : Int)) = if (dkF k (2 : Int)).toNat = 3 then (0 : Int) else (0 : Int)) ∧
 g_3 0 = g_3 0 ∧ g_3 1 = g_3 1 ∧ g_3 2 = g_3 2 ∧ g_3 3 = g_3 3 ∧ (ds10_3 k g_1 g_2 g_3 X0) ∧ True) ∧ True
def ds10_19 (a b c e d : Int) : Prop := ((a != a) = true → false = true) ∧ ((a != a) = false → ((b != b) = true → false = true) ∧ ((b != b) = false → ((c != c) = true → false =
 true) ∧ ((c != c) = false → ((e != e) = true → false = true) ∧ ((e != e) = false → ((d != d) = true → false = true) ∧ ((d != d) = false → true = true)))))
def ds10_20 (a c f b d e g : Int) (X0 : Prop) : Prop := (a = a ∧ Value.pointer none = Value.pointer none ∧ c = c ∧ Value.pointer none = Value.pointer none ∧ f = f ∧ Value.pointer
 none = Value.pointer none ∧ ([] : List (Int × Value)) = [] ∧ a = a ∧ b = b ∧ c = c ∧ d = d ∧ e = e ∧ f = f ∧ g = g ∧ f = f ∧ Value.pointer none = Value.pointer none ∧ ((X0 ∧ True) ∧
 True) ∧ True) ∧ True
def ds10_21 (a c f b d e g : Int) (X0 : Prop) (k : Int) (hk : 0 ≤ k ∧ k ≤ 255) (p : Int) (hp : 0 ≤ p ∧ p ≤ 1023) (q : Int) (hq : 0 ≤ q ∧ q ≤ 1023) : Prop := a = a ∧ Value.pointer
 none = Value.pointer none ∧ c = c ∧ Value.pointer none = Value.pointer none ∧ f = f ∧ Value.pointer none = Value.pointer none ∧ ([] : List (Int × Value)) = [] ∧ a = a ∧ b = b ∧ c =
 c ∧ d = d ∧ e = e ∧ f = f ∧ g = g ∧ f = f ∧ Value.pointer none = Value.pointer none ∧ (((ds10_5 a c f b d e g X0) ∧ True) ∧ (∀ (K : KO XN), (fun X1 : Prop => (ds10_12 a c f b d e g
 X1) ∧ True → ds10_5 a c f b d e g X1) (K (ds10_7 f k) (Mem.mk [(1, SO.cells (ds10_2 a b c d e f g) 75), (2, SO.cells (ds10_1 k hk p hp q hq) 77), (45, SO.cells (ds10_2 a b c d e f
 g) 75), (51, SO.cells (ds10_2 a b c d e f g) 75), (83, SO.cells [SC.int false .u64 a, SC.raw (Value.pointer none)] 199), (87, SO.cells [SC.int false .u64 c, SC.raw (Value.pointer
 none)] 199), (91, SO.cells [SC.int false .u64 f, SC.raw (Value.pointer none)] 199), (93, SO.mp true []), (95, SO.cells (ds10_13 a b c d e f g) 204), (109, SO.cells (ds10_1 k hk p hp
 q hq) 77), (110, SO.cells [SC.int true .i64 (0 : Int), SC.int true .i64 (0 : Int)] 82), (128, SO.cells [SC.int true .i64 (0 : Int), SC.int true .i64 (0 : Int)] 82), (141, SO.cells
 (ds10_1 k hk p hp q hq) 77), (142, SO.cells [SC.int true .i64 (0 : Int), SC.int true .i64 (0 : Int)] 82), (162, SO.cells [SC.int false .u64 f, SC.raw (Value.pointer none)] 199),
 (170, SO.cells [SC.int false .u64 f, SC.raw (Value.pointer none)] 199), (223, SO.cells [SC.int false .u64 f, SC.raw (Value.pointer none)] 199), (231, SO.cells [SC.int false .u64 f,
 SC.raw (Value.pointer none)] 199), (251, SO.cells [SC.int true .u64 (0 : Int), SC.raw (Value.pointer none)] 199), (254, SO.cells [SC.int false .u64 f, SC.raw (Value.pointer none)]
 199), (255, SO.cells [SC.int true .u64 (0 : Int), SC.raw (Value.pointer none)] 199), (270, SO.cells (ds10_4) 87)] 260) Scr.nil)) ∧ True) ∧ True
def ds10_22 (a c f b d e g : Int) (X0 : Prop) (k : Int) (hk : 0 ≤ k ∧ k ≤ 255) (p : Int) (hp : 0 ≤ p ∧ p ≤ 1023) (q : Int) (hq : 0 ≤ q ∧ q ≤ 1023) : Prop := a = a ∧ Value.pointer
 none = Value.pointer none ∧ c = c ∧ Value.pointer none = Value.pointer none ∧ f = f ∧ Value.pointer none = Value.pointer none ∧ ([] : List (Int × Value)) = [] ∧ a = a ∧ b = b ∧ c =
 c ∧ d = d ∧ e = e ∧ f = f ∧ g = g ∧ f = f ∧ Value.pointer none = Value.pointer none ∧ (((ds10_5 a c f b d e g X0) ∧ True) ∧ (∀ (K : KO XN), (fun X1 : Prop => (ds10_12 a c f b d e g
 X1) ∧ True → ds10_5 a c f b d e g X1) (K (ds10_8 f k) (Mem.mk [(1, SO.cells (ds10_2 a b c d e f g) 75), (2, SO.cells (ds10_1 k hk p hp q hq) 77), (45, SO.cells (ds10_2 a b c d e f
 g) 75), (51, SO.cells (ds10_2 a b c d e f g) 75), (83, SO.cells [SC.int false .u64 a, SC.raw (Value.pointer none)] 199), (87, SO.cells [SC.int false .u64 c, SC.raw (Value.pointer
 none)] 199), (91, SO.cells [SC.int false .u64 f, SC.raw (Value.pointer none)] 199), (93, SO.mp true []), (95, SO.cells (ds10_13 a b c d e f g) 204), (109, SO.cells (ds10_1 k hk p hp
 q hq) 77), (110, SO.cells [SC.int true .i64 (0 : Int), SC.int true .i64 (0 : Int)] 82), (128, SO.cells [SC.int true .i64 (0 : Int), SC.int true .i64 (0 : Int)] 82), (141, SO.cells
 (ds10_1 k hk p hp q hq) 77), (142, SO.cells [SC.int true .i64 (0 : Int), SC.int true .i64 (0 : Int)] 82), (162, SO.cells [SC.int false .u64 f, SC.raw (Value.pointer none)] 199),
 (170, SO.cells [SC.int false .u64 f, SC.raw (Value.pointer none)] 199), (190, SO.cells [SC.int true .u64 (0 : Int), SC.raw (Value.pointer none)] 199), (193, SO.cells [SC.int false
 .u64 f, SC.raw (Value.pointer none)] 199), (194, SO.cells [SC.int true .u64 (0 : Int), SC.raw (Value.pointer none)] 199), (209, SO.cells (ds10_4) 87)] 199) Scr.nil)) ∧ True) ∧ True
def ds10_23 (f k : Int) (hk : 0 ≤ k ∧ k ≤ 255) : SF := SF.mk 40 (np 95 0 (ds10_11 f) (nv (SV.c (SC.int false .i64 k (Bd.w (0 : Int) (255 : Int) hk))) (nu (np 223 0 (np 95 9 (nv
 (SV.agg [SC.int true .u64 (0 : Int), SC.raw (Value.pointer none)]) tn tn) tn) (nv (SV.c (tb false)) tn tn)) (np 95 0 (nv (SV.c (SC.int true .i64 (0 : Int))) nu0 tn) (nv (SV.c
 (SC.int false .i64 k (Bd.w (0 : Int) (255 : Int) hk))) tn tn))) (nv (SV.c (SC.int true .u64 (0 : Int))) (np 251 0 (np 91 0 nu0 tn) (np 95 0 tn tn)) (np 95 0 (nv (SV.c (SC.int true
 .i64 (0 : Int))) nu0 tn) (nv (ds10_38 k) tn tn))))) []
def ds10_24 (f k : Int) (hk : 0 ≤ k ∧ k ≤ 255) : SF := SF.mk 40 (np 95 0 (ds10_11 f) (nv (SV.c (SC.int false .i64 k (Bd.w (0 : Int) (255 : Int) hk))) (nu (np 162 0 (np 95 9 (nv
 (SV.agg [SC.int true .u64 (0 : Int), SC.raw (Value.pointer none)]) tn tn) tn) (nv (SV.c (tb false)) tn tn)) (np 95 0 (nv (SV.c (SC.int true .i64 (0 : Int))) nu0 tn) (nv (SV.c
 (SC.int false .i64 k (Bd.w (0 : Int) (255 : Int) hk))) tn tn))) (nv (SV.c (SC.int true .u64 (0 : Int))) (np 190 0 (np 91 0 nu0 tn) (np 95 0 tn tn)) (np 95 0 (nv (SV.c (SC.int true
 .i64 (0 : Int))) nu0 tn) (nv (ds10_38 k) tn tn))))) []
def ds10_25 (g : Int) : Prop := (-9223372036854775808 : Int) ≤ g + (1 : Int) ∧ g + (1 : Int) ≤ (9223372036854775807 : Int)
def ds10_27 (a c f b d e g k : Int) (hk : 0 ≤ k ∧ k ≤ 255) (p : Int) (hp : 0 ≤ p ∧ p ≤ 1023) (q : Int) (hq : 0 ≤ q ∧ q ≤ 1023) : Prop := ∀ (K : KO XN), (fun X1 : Prop => (ds10_12 a
 c f b d e g X1) ∧ True → ds10_5 a c f b d e g X1) (K (ds10_7 f k) (Mem.mk [(1, SO.cells (ds10_2 a b c d e f g) 75), (2, SO.cells (ds10_1 k hk p hp q hq) 77), (45, SO.cells (ds10_2 a
 b c d e f g) 75), (51, SO.cells (ds10_2 a b c d e f g) 75), (83, SO.cells [SC.int false .u64 a, SC.raw (Value.pointer none)] 199), (87, SO.cells [SC.int false .u64 c, SC.raw
 (Value.pointer none)] 199), (91, SO.cells [SC.int false .u64 f, SC.raw (Value.pointer none)] 199), (93, SO.mp true []), (95, SO.cells (ds10_13 a b c d e f g) 204), (109, SO.cells
 (ds10_1 k hk p hp q hq) 77), (110, SO.cells [SC.int true .i64 (0 : Int), SC.int true .i64 (0 : Int)] 82), (128, SO.cells [SC.int true .i64 (0 : Int), SC.int true .i64 (0 : Int)]
 82), (141, SO.cells (ds10_1 k hk p hp q hq) 77), (142, SO.cells [SC.int true .i64 (0 : Int), SC.int true .i64 (0 : Int)] 82), (162, SO.cells [SC.int false .u64 f, SC.raw
 (Value.pointer none)] 199), (170, SO.cells [SC.int false .u64 f, SC.raw (Value.pointer none)] 199), (223, SO.cells [SC.int false .u64 f, SC.raw (Value.pointer none)] 199), (231,
 SO.cells [SC.int false .u64 f, SC.raw (Value.pointer none)] 199), (254, SO.cells [SC.int false .u64 f, SC.raw (Value.pointer none)] 199), (255, SO.cells [SC.int true .u64 (0 : Int),
 SC.raw (Value.pointer none)] 199), (270, SO.cells (ds10_4) 87)] 260) Scr.nil)
def ds10_28 (a b c d e f g : Int) : List SC := [SC.int false .u64 a, SC.int false .i64 b, SC.int false .u64 c, SC.int false .i64 d, SC.int false .i64 e, SC.int false .u64 f, SC.int
 false .i64 g, sp 83 0, sp 87 0, sp 91 0, SC.map 93, SC.nls, SC.nls, SC.nls, SC.int false .u64 f]
def ds10_29 (a c f b d e g k : Int) (hk : 0 ≤ k ∧ k ≤ 255) (p : Int) (hp : 0 ≤ p ∧ p ≤ 1023) (q : Int) (hq : 0 ≤ q ∧ q ≤ 1023) : Prop := ∀ (K : KO XN), (fun X1 : Prop => (ds10_12 a
 c f b d e g X1) ∧ True → ds10_5 a c f b d e g X1) (K (ds10_8 f k) (Mem.mk [(1, SO.cells (ds10_2 a b c d e f g) 75), (2, SO.cells (ds10_1 k hk p hp q hq) 77), (45, SO.cells (ds10_2 a
 b c d e f g) 75), (51, SO.cells (ds10_2 a b c d e f g) 75), (83, SO.cells [SC.int false .u64 a, SC.raw (Value.pointer none)] 199), (87, SO.cells [SC.int false .u64 c, SC.raw
 (Value.pointer none)] 199), (91, SO.cells [SC.int false .u64 f, SC.raw (Value.pointer none)] 199), (93, SO.mp true []), (95, SO.cells (ds10_13 a b c d e f g) 204), (109, SO.cells
 (ds10_1 k hk p hp q hq) 77), (110, SO.cells [SC.int true .i64 (0 : Int), SC.int true .i64 (0 : Int)] 82), (128, SO.cells [SC.int true .i64 (0 : Int), SC.int true .i64 (0 : Int)]
 82), (141, SO.cells (ds10_1 k hk p hp q hq) 77), (142, SO.cells [SC.int true .i64 (0 : Int), SC.int true .i64 (0 : Int)] 82), (162, SO.cells [SC.int false .u64 f, SC.raw
 (Value.pointer none)] 199), (170, SO.cells [SC.int false .u64 f, SC.raw (Value.pointer none)] 199), (193, SO.cells [SC.int false .u64 f, SC.raw (Value.pointer none)] 199), (194,
 SO.cells [SC.int true .u64 (0 : Int), SC.raw (Value.pointer none)] 199), (209, SO.cells (ds10_4) 87)] 199) Scr.nil)
def ds10_30 (k : Int) (hk : 0 ≤ k ∧ k ≤ 255) (p : Int) (hp : 0 ≤ p ∧ p ≤ 1023) : ST := nu (np 142 0 (ds10_47 k hk) (nv (SV.c (SC.int true .u64 (0 : Int))) (nv (SV.c (SC.int true
 .i64 (10 : Int))) (nv (SV.c (SC.int false .i64 p (Bd.w (0 : Int) (1023 : Int) hp))) nu0 tn) (nu nu0 tn)) (nv (SV.tup [(false, [SC.int true .u64 (0 : Int)]), (false, [tb false])])
 (nu nu0 tn) nu0))) (ds10_34 k hk p hp)
def ds10_31 (k : Int) : SV := SV.c (SC.int false .i64 (dkF k (2 : Int)) (Bd.w (0 : Int) (3 : Int) (dkF_bd k (Int.ofNat (1 + 1)))))
def ds10_32 (k : Int) : SV := SV.c (SC.int false .i64 (dkF k (3 : Int)) (Bd.w (0 : Int) (3 : Int) (dkF_bd k (Int.ofNat (2 + 1)))))
def ds10_33 (k p : Int) : Prop := (false == ((if (dkF k (3 : Int)).toNat = 0 then p + (1 : Int) else (0 : Int)) == (0 : Int) && ((if (dkF k (3 : Int)).toNat = 1 then p + (1 : Int)
 else (0 : Int)) == (0 : Int) && ((if (dkF k (3 : Int)).toNat = 2 then p + (1 : Int) else (0 : Int)) == (0 : Int) && ((if (dkF k (3 : Int)).toNat = 3 then p + (1 : Int) else (0 :
 Int)) == (0 : Int) && true))))) = false → Stuck 131
def ds10_36 (a c f k p q g : Int) (X0 : Prop) : Prop := a = a ∧ Value.pointer none = Value.pointer none ∧ c = c ∧ Value.pointer none = Value.pointer none ∧ f = f ∧ Value.pointer
 none = Value.pointer none ∧ ([] : List (Int × Value)) = [] ∧ k = k ∧ p = p ∧ q = q ∧ (ds10_25 g) ∧ X0 ∧ True
def ds10_37  : List SC := [SC.int true .i64 (0 : Int), SC.int true .u64 (0 : Int), SC.int true .u64 (0 : Int), SC.int true .u64 (0 : Int), SC.int true .u64 (0 : Int), SC.raw
 (Value.pointer none), SC.raw (Value.pointer none), SC.raw (Value.pointer none), SC.raw (Value.pointer none), tb false]
def ds10_39 (a c k p q : Int) (cap : Nat) (f : Int) (cap_4 : Nat) (g : Int) (X0 : Prop) : Prop := a = a ∧ Value.pointer none = Value.pointer none ∧ c = c ∧ Value.pointer none =
 Value.pointer none ∧ ([] : List (Int × Value)) = [] ∧ k = k ∧ p = p ∧ q = q ∧ cap = cap ∧ f = f ∧ cap_4 = cap_4 ∧ (ds10_25 g) ∧ X0 ∧ True
def ds10_40 (a c k p q : Int) (cap : Nat) (g : Int) (X0 : Prop) : Prop := a = a ∧ Value.pointer none = Value.pointer none ∧ c = c ∧ Value.pointer none = Value.pointer none ∧ ([] :
 List (Int × Value)) = [] ∧ k = k ∧ p = p ∧ q = q ∧ cap = cap ∧ (ds10_25 g) ∧ X0 ∧ True
def ds10_43 (k : Int) (hk : 0 ≤ k ∧ k ≤ 255) : ST := nv (SV.c (SC.int true .i64 (2 : Int))) (np 255 3 (nv (ds10_31 k) tn tn) nu0) (nv (SV.agg [ti .u64 (0 : Int), SC.raw
 (Value.pointer none)]) (nv (SV.c (SC.int false .i64 k (Bd.w (0 : Int) (255 : Int) hk))) tn tn) tn)
def ds10_44 (a b c e d : Int) : Prop := (True ∧ True ∧ 1 ≤ 1000000000 ∧ ∀ (cap : Nat), 1 ≤ cap → cap = cap ∧ True ∧ 2 ≤ 1000000000 ∧ ∀ (cap : Nat), 2 ≤ cap → cap = cap ∧ True ∧ 3 ≤
 1000000000 ∧ ∀ (cap : Nat), 3 ≤ cap → cap = cap ∧ True ∧ 4 ≤ 1000000000 ∧ ∀ (cap : Nat), 4 ≤ cap → ds10_19 a b c e d) ∧ True
def ds10_45 (a b c d e f g : Int) (cap_4 cap : Nat) : List SC := [SC.int false .u64 a, SC.int false .i64 b, SC.int false .u64 c, SC.int false .i64 d, SC.int false .i64 e, SC.int
 false .u64 f, si .i64 (g + (1 : Int)), sp 83 0, sp 87 0, sp 658 0, SC.map 93, SC.sli 542 1 true 0 true 4 cap_4, SC.sli 306 1 true 0 true 1 cap, SC.nls, SC.int true .u64 (0 : Int)]
def ds10_48 (k : Int) : ST := nv (SV.c (ti .i64 (3 : Int))) (nv (SV.c (SC.int false .i64 (dkF k (3 : Int)) (Bd.w (0 : Int) (3 : Int) (dkF_bd k (3 : Int))))) tn tn) tn
def ds10_49 (a b c d e f g : Int) (cap : Nat) : List SC := [SC.int false .u64 a, SC.int false .i64 b, SC.int false .u64 c, SC.int false .i64 d, SC.int false .i64 e, SC.int false
 .u64 f, si .i64 (g + (1 : Int)), sp 83 0, sp 87 0, sp 635 0, SC.map 93, SC.sli 519 1 true 0 true 4 cap, SC.nls, SC.nls, SC.int true .u64 (0 : Int)]
/-- What the executor leaves to be shown of roundelay/roundelaylaw08.DraftShares, written out. -/
theorem ds10_vc (a b c d e f g : Int) (k p q : Int) (hk : 0 ≤ k ∧ k ≤ 255) (hp : 0 ≤ p ∧ p ≤ 1023) (hq : 0 ≤ q ∧ q ≤ 1023) : (callN Try.prog (tblDS : List (Smry Try.prog XN)) (fun _ _ => false) 100 20 4 [.agg [.int false .u64 a, .int false .i64 b, .int false .u64 c, .int false .i64 d, .int false .i64 e, .int false .u64 f, .int false .i64 g], .agg [.int true .i64 10, .int false .i64 k (.w 0 255 hk), .int false .i64 p (.w 0 1023 hp), .int false .i64 q (.w 0 1023 hq)]] ⟨[], 1⟩ (.cut 4 (liveL [2, 3, 4, 5, 6, 8, 9, 11, 13, 131]) [] Unit (fun _ _ => ([], [])) .nil fun _ => .nil) (fun v _ _ => retTrue v)) = (
 (((c == (0 : Int)) = true → (decide (e > (0 : Int)) = true → ∃ (y : Unit), a = a ∧ b = b ∧ c = c ∧ d = d ∧ e = e ∧ f = f ∧ g = g ∧ k = k ∧ p = p ∧ q = q ∧ True) ∧ (decide (e > (0 :
 Int)) = false → ∃ (y : Unit), a = a ∧ b = b ∧ c = c ∧ d = d ∧ e = e ∧ f = f ∧ g = g ∧ k = k ∧ p = p ∧ q = q ∧ True)) ∧ ((c == (0 : Int)) = false → ∃ (y : Unit), a = a ∧ b = b ∧ c =
 c ∧ d = d ∧ e = e ∧ f = f ∧ g = g ∧ k = k ∧ p = p ∧ q = q ∧ True)) ∧ ∀ (y : Unit) (ρ : Nat → Value), (decide (min (min (min b e) g) d ≥ (0 : Int)) = true → (decide (max (max b e) g
 ≤ (256 : Int)) = true → ((!decide (d < (256 : Int))) = true → true = true) ∧ ((!decide (d < (256 : Int))) = false → True ∧ (∀ (z : Un), True → ((!decide (RightO (10 : Int) k p q)) =
 true → ds10_19 a b c e d) ∧ ((!decide (RightO (10 : Int) k p q)) = false → ((f == (0 : Int)) = true → (a = a ∧ Value.pointer none = Value.pointer none ∧ c = c ∧ Value.pointer none =
 Value.pointer none ∧ f = f ∧ Value.pointer none = Value.pointer none ∧ ([] : List (Int × Value)) = [] ∧ a = a ∧ b = b ∧ c = c ∧ d = d ∧ e = e ∧ f = f ∧ g = g ∧ k = k ∧ p = p ∧ q = q
 ∧ (((f == (0 : Int)) = true → ((f != (0 : Int)) = true → (((f = f ∧ Value.pointer none = Value.pointer none ∧ (f = f ∧ Value.pointer none = Value.pointer none ∧ (True ∧ True ∧ 1 ≤
 1000000000 ∧ ∀ (cap : Nat), 1 ≤ cap → (True ∧ True ∧ 1 ≤ 1000000000 ∧ ∀ (cap_1 : Nat), 1 ≤ cap_1 → True ∧ (∀ (z : Un), True → ((0 : Int) ≤ dkF k (0 : Int) ∧ dkF k (0 : Int) < (4 :
 Int)) ∧ (dkF k (0 : Int)).toNat < 4 ∧ ((0 : Int) ≤ dkF k (0 : Int) ∧ dkF k (0 : Int) < (4 : Int)) ∧ (dkF k (0 : Int)).toNat < 4 ∧ (cap_1 = cap_1 ∧ True ∧ 2 ≤ 1000000000 ∧ ∀ (cap_2 :
 Nat), 2 ≤ cap_2 → True ∧ (∀ (z : Un), True → ((0 : Int) ≤ dkF k (1 : Int) ∧ dkF k (1 : Int) < (4 : Int)) ∧ (dkF k (1 : Int)).toNat < 4 ∧ ((0 : Int) ≤ dkF k (1 : Int) ∧ dkF k (1 :
 Int) < (4 : Int)) ∧ (dkF k (1 : Int)).toNat < 4 ∧ (True ∧ (∀ (z : Un), True → ((0 : Int) ≤ dkF k (0 : Int) ∧ dkF k (0 : Int) < (4 : Int)) ∧ ((dkF k (0 : Int)).toNat < 4 ∧ ∀ (g_1 :
 Nat → Value), Value.pointer none = Value.pointer none ∧ Value.pointer none = Value.pointer none ∧ Value.pointer none = Value.pointer none ∧ Value.pointer none = Value.pointer none ∧
 Value.pointer none = Value.pointer none ∧ Value.pointer none = Value.pointer none ∧ ((0 : Int) ≤ dkF k (0 : Int) ∧ dkF k (0 : Int) < (4 : Int)) ∧ ((dkF k (0 : Int)).toNat < 4 ∧
 cap_2 = cap_2 ∧ True ∧ 3 ≤ 1000000000 ∧ ∀ (cap_3 : Nat), 3 ≤ cap_3 → True ∧ (∀ (z : Un), True → ((0 : Int) ≤ dkF k (2 : Int) ∧ dkF k (2 : Int) < (4 : Int)) ∧ (dkF k (2 : Int)).toNat
 < 4 ∧ ((0 : Int) ≤ dkF k (2 : Int) ∧ dkF k (2 : Int) < (4 : Int)) ∧ (dkF k (2 : Int)).toNat < 4 ∧ (True ∧ (∀ (z : Un), True → ((0 : Int) ≤ dkF k (1 : Int) ∧ dkF k (1 : Int) < (4 :
 Int)) ∧ ((dkF k (1 : Int)).toNat < 4 ∧ ∀ (g_2 : Nat → Value), Value.pointer none = Value.pointer none ∧ Value.pointer none = Value.pointer none ∧ Value.pointer none = Value.pointer
 none ∧ Value.pointer none = Value.pointer none ∧ Value.pointer none = Value.pointer none ∧ ((0 : Int) ≤ dkF k (1 : Int) ∧ dkF k (1 : Int) < (4 : Int)) ∧ ((dkF k (1 : Int)).toNat < 4
 ∧ cap_3 = cap_3 ∧ True ∧ 4 ≤ 1000000000 ∧ ∀ (cap_4 : Nat), 4 ≤ cap_4 → True ∧ (∀ (z : Un), True → ((0 : Int) ≤ dkF k (3 : Int) ∧ dkF k (3 : Int) < (4 : Int)) ∧ (dkF k (3 :
 Int)).toNat < 4 ∧ ((0 : Int) ≤ dkF k (3 : Int) ∧ dkF k (3 : Int) < (4 : Int)) ∧ (dkF k (3 : Int)).toNat < 4 ∧ (True ∧ (∀ (z : Un), True → ((0 : Int) ≤ dkF k (2 : Int) ∧ dkF k (2 :
 Int) < (4 : Int)) ∧ ((dkF k (2 : Int)).toNat < 4 ∧ ∀ (g_3 : Nat → Value), ((if (dkF k (0 : Int)).toNat = 0 then (0 : Int) else (0 : Int)) = if (dkF k (0 : Int)).toNat = 0 then (0 :
 Int) else (0 : Int)) ∧ ((if (dkF k (0 : Int)).toNat = 1 then (0 : Int) else (0 : Int)) = if (dkF k (0 : Int)).toNat = 1 then (0 : Int) else (0 : Int)) ∧ ((if (dkF k (0 : Int)).toNat
 = 2 then (0 : Int) else (0 : Int)) = if (dkF k (0 : Int)).toNat = 2 then (0 : Int) else (0 : Int)) ∧ ((if (dkF k (0 : Int)).toNat = 3 then (0 : Int) else (0 : Int)) = if (dkF k (0 :
 Int)).toNat = 3 then (0 : Int) else (0 : Int)) ∧ g_1 0 = g_1 0 ∧ g_1 1 = g_1 1 ∧ g_1 2 = g_1 2 ∧ g_1 3 = g_1 3 ∧ Value.pointer none = Value.pointer none ∧ Value.pointer none =
 Value.pointer none ∧ Value.pointer none = Value.pointer none ∧ Value.pointer none = Value.pointer none ∧ ((0 : Int) ≤ dkF k (2 : Int) ∧ dkF k (2 : Int) < (4 : Int)) ∧ ((dkF k (2 :
 Int)).toNat < 4 ∧ (((if (dkF k (0 : Int)).toNat = 0 then (0 : Int) else (0 : Int)) = if (dkF k (0 : Int)).toNat = 0 then (0 : Int) else (0 : Int)) ∧ ((if (dkF k (0 : Int)).toNat = 1
 then (0 : Int) else (0 : Int)) = if (dkF k (0 : Int)).toNat = 1 then (0 : Int) else (0 : Int)) ∧ ((if (dkF k (0 : Int)).toNat = 2 then (0 : Int) else (0 : Int)) = if (dkF k (0 :
 Int)).toNat = 2 then (0 : Int) else (0 : Int)) ∧ ((if (dkF k (0 : Int)).toNat = 3 then (0 : Int) else (0 : Int)) = if (dkF k (0 : Int)).toNat = 3 then (0 : Int) else (0 : Int)) ∧
 g_1 0 = g_1 0 ∧ g_1 1 = g_1 1 ∧ g_1 2 = g_1 2 ∧ g_1 3 = g_1 3 ∧ ((if (dkF k (1 : Int)).toNat = 0 then (0 : Int) else (0 : Int)) = if (dkF k (1 : Int)).toNat = 0 then (0 : Int) else
 (0 : Int)) ∧ ((if (dkF k (1 : Int)).toNat = 1 then (0 : Int) else (0 : Int)) = if (dkF k (1 : Int)).toNat = 1 then (0 : Int) else (0 : Int)) ∧ ((if (dkF k (1 : Int)).toNat = 2 then
 (0 : Int) else (0 : Int)) = if (dkF k (1 : Int)).toNat = 2 then (0 : Int) else (0 : Int)) ∧ ((if (dkF k (1 : Int)).toNat = 3 then (0 : Int) else (0 : Int)) = if (dkF k (1 :
 Int)).toNat = 3 then (0 : Int) else (0 : Int)) ∧ g_2 0 = g_2 0 ∧ g_2 1 = g_2 1 ∧ g_2 2 = g_2 2 ∧ g_2 3 = g_2 3 ∧ ((if (dkF k (2 : Int)).toNat = 0 then (0 : Int) else (0 : Int)) = if
 (dkF k (2 : Int)).toNat = 0 then (0 : Int) else (0 : Int)) ∧ ((if (dkF k (2 : Int)).toNat = 1 then (0 : Int) else (0 : Int)) = if (dkF k (2 : Int)).toNat = 1 then (0 : Int) else (0
 : Int)) ∧ ((if (dkF k (2 : Int)).toNat = 2 then (0 : Int) else (0 : Int)) = if (dkF k (2 : Int)).toNat = 2 then (0 : Int) else (0 : Int)) ∧ ((if (dkF k (2 : Int)).toNat = 3 then (0
 : Int) else (0 : Int)) = if (dkF k (2 : Int)).toNat = 3 then (0 : Int) else (0 : Int)) ∧ g_3 0 = g_3 0 ∧ g_3 1 = g_3 1 ∧ g_3 2 = g_3 2 ∧ g_3 3 = g_3 3 ∧ (True ∧ (∀ (z : Un), True →
 ((if (dkF k (0 : Int)).toNat = 0 then (0 : Int) else (0 : Int)) = if (dkF k (0 : Int)).toNat = 0 then (0 : Int) else (0 : Int)) ∧ ((if (dkF k (0 : Int)).toNat = 1 then (0 : Int)
 else (0 : Int)) = if (dkF k (0 : Int)).toNat = 1 then (0 : Int) else (0 : Int)) ∧ ((if (dkF k (0 : Int)).toNat = 2 then (0 : Int) else (0 : Int)) = if (dkF k (0 : Int)).toNat = 2
 then (0 : Int) else (0 : Int)) ∧ ((if (dkF k (0 : Int)).toNat = 3 then (0 : Int) else (0 : Int)) = if (dkF k (0 : Int)).toNat = 3 then (0 : Int) else (0 : Int)) ∧ g_1 0 = g_1 0 ∧
 g_1 1 = g_1 1 ∧ g_1 2 = g_1 2 ∧ g_1 3 = g_1 3 ∧ ((if (dkF k (1 : Int)).toNat = 0 then (0 : Int) else (0 : Int)) = if (dkF k (1 : Int)).toNat = 0 then (0 : Int) else (0 : Int)) ∧
 ((if (dkF k (1 : Int)).toNat = 1 then (0 : Int) else (0 : Int)) = if (dkF k (1 : Int)).toNat = 1 then (0 : Int) else (0 : Int)) ∧ ((if (dkF k (1 : Int)).toNat = 2 then (0 : Int)
 else (0 : Int)) = if (dkF k (1 : Int)).toNat = 2 then (0 : Int) else (0 : Int)) ∧ ((if (dkF k (1 : Int)).toNat = 3 then (0 : Int) else (0 : Int)) = if (dkF k (1 : Int)).toNat = 3
 then (0 : Int) else (0 : Int)) ∧ g_2 0 = g_2 0 ∧ g_2 1 = g_2 1 ∧ g_2 2 = g_2 2 ∧ g_2 3 = g_2 3 ∧ ((if (dkF k (2 : Int)).toNat = 0 then (0 : Int) else (0 : Int)) = if (dkF k (2 :
 Int)).toNat = 0 then (0 : Int) else (0 : Int)) ∧ ((if (dkF k (2 : Int)).toNat = 1 then (0 : Int) else (0 : Int)) = if (dkF k (2 : Int)).toNat = 1 then (0 : Int) else (0 : Int)) ∧
 ((if (dkF k (2 : Int)).toNat = 2 then (0 : Int) else (0 : Int)) = if (dkF k (2 : Int)).toNat = 2 then (0 : Int) else (0 : Int)) ∧ ((if (dkF k (2 : Int)).toNat = 3 then (0 : Int)
 else (0 : Int)) = if (dkF k (2 : Int)).toNat = 3 then (0 : Int) else (0 : Int)) ∧ g_3 0 = g_3 0 ∧ g_3 1 = g_3 1 ∧ g_3 2 = g_3 2 ∧ g_3 3 = g_3 3 ∧ (((0 : Int) ≤ dkF k (3 : Int) ∧ dkF
 k (3 : Int) < (4 : Int)) ∧ (dkF k (3 : Int)).toNat < 4 ∧ ((if (dkF k (0 : Int)).toNat = 0 then (0 : Int) else (0 : Int)) = if (dkF k (0 : Int)).toNat = 0 then (0 : Int) else (0 :
 Int)) ∧ ((if (dkF k (0 : Int)).toNat = 1 then (0 : Int) else (0 : Int)) = if (dkF k (0 : Int)).toNat = 1 then (0 : Int) else (0 : Int)) ∧ ((if (dkF k (0 : Int)).toNat = 2 then (0 :
 Int) else (0 : Int)) = if (dkF k (0 : Int)).toNat = 2 then (0 : Int) else (0 : Int)) ∧ ((if (dkF k (0 : Int)).toNat = 3 then (0 : Int) else (0 : Int)) = if (dkF k (0 : Int)).toNat =
 3 then (0 : Int) else (0 : Int)) ∧ g_1 0 = g_1 0 ∧ g_1 1 = g_1 1 ∧ g_1 2 = g_1 2 ∧ g_1 3 = g_1 3 ∧ ((if (dkF k (1 : Int)).toNat = 0 then (0 : Int) else (0 : Int)) = if (dkF k (1 :
 Int)).toNat = 0 then (0 : Int) else (0 : Int)) ∧ ((if (dkF k (1 : Int)).toNat = 1 then (0 : Int) else (0 : Int)) = if (dkF k (1 : Int)).toNat = 1 then (0 : Int) else (0 : Int)) ∧
 ((if (dkF k (1 : Int)).toNat = 2 then (0 : Int) else (0 : Int)) = if (dkF k (1 : Int)).toNat = 2 then (0 : Int) else (0 : Int)) ∧ ((if (dkF k (1 : Int)).toNat = 3 then (0 : Int)
 else (0 : Int)) = if (dkF k (1 : Int)).toNat = 3 then (0 : Int) else (0 : Int)) ∧ g_2 0 = g_2 0 ∧ g_2 1 = g_2 1 ∧ g_2 2 = g_2 2 ∧ g_2 3 = g_2 3 ∧ ((if (dkF k (2 : Int)).toNat = 0
 then (0 : Int) else (0 : Int)) = if (dkF k (2 : Int)).toNat = 0 then (0 : Int) else (0 : Int)) ∧ ((if (dkF k (2 : Int)).toNat = 1 then (0 : Int) else (0 : Int)) = if (dkF k (2 :
 Int)).toNat = 1 then (0 : Int) else (0 : Int)) ∧ ((if (dkF k (2 : Int)).toNat = 2 then (0 : Int) else (0 : Int)) = if (dkF k (2 : Int)).toNat = 2 then (0 : Int) else (0 : Int)) ∧
 ((if (dkF k (2 : Int)).toNat = 3 then (0 : Int) else (0 : Int)) = if (dkF k (2 : Int)).toNat = 3 then (0 : Int) else (0 : Int)) ∧ g_3 0 = g_3 0 ∧ g_3 1 = g_3 1 ∧ g_3 2 = g_3 2 ∧ g_3
 3 = g_3 3 ∧ (((false == ((if (dkF k (3 : Int)).toNat = 0 then p + (1 : Int) else (0 : Int)) == (0 : Int) && ((if (dkF k (3 : Int)).toNat = 1 then p + (1 : Int) else (0 : Int)) == (0
 : Int) && ((if (dkF k (3 : Int)).toNat = 2 then p + (1 : Int) else (0 : Int)) == (0 : Int) && ((if (dkF k (3 : Int)).toNat = 3 then p + (1 : Int) else (0 : Int)) == (0 : Int) &&
 true))))) = true → (((a = a ∧ Value.pointer none = Value.pointer none ∧ c = c ∧ Value.pointer none = Value.pointer none ∧ ([] : List (Int × Value)) = [] ∧ k = k ∧ p = p ∧ q = q ∧
 cap = cap ∧ f = f ∧ cap_4 = cap_4 ∧ (a = a ∧ Value.pointer none = Value.pointer none ∧ c = c ∧ Value.pointer none = Value.pointer none ∧ ([] : List (Int × Value)) = [] ∧ k = k ∧ p =
 p ∧ q = q ∧ cap = cap ∧ f = f ∧ cap_4 = cap_4 ∧ (a = a ∧ Value.pointer none = Value.pointer none ∧ c = c ∧ Value.pointer none = Value.pointer none ∧ ([] : List (Int × Value)) = [] ∧
 k = k ∧ p = p ∧ q = q ∧ cap = cap ∧ f = f ∧ cap_4 = cap_4 ∧ (ds10_25 g) ∧ ds10_44 a b c e d) ∧ True) ∧ True) ∧ (∀ (K : KO XN), (fun X0 : Prop => a = a ∧ Value.pointer none =
 Value.pointer none ∧ c = c ∧ Value.pointer none = Value.pointer none ∧ ([] : List (Int × Value)) = [] ∧ k = k ∧ p = p ∧ q = q ∧ cap = cap ∧ f = f ∧ cap_4 = cap_4 ∧ (a = a ∧
 Value.pointer none = Value.pointer none ∧ c = c ∧ Value.pointer none = Value.pointer none ∧ ([] : List (Int × Value)) = [] ∧ k = k ∧ p = p ∧ q = q ∧ cap = cap ∧ f = f ∧ cap_4 =
 cap_4 ∧ (ds10_39 a c k p q cap f cap_4 g X0) ∧ True) ∧ True → a = a ∧ Value.pointer none = Value.pointer none ∧ c = c ∧ Value.pointer none = Value.pointer none ∧ ([] : List (Int ×
 Value)) = [] ∧ k = k ∧ p = p ∧ q = q ∧ cap = cap ∧ f = f ∧ cap_4 = cap_4 ∧ ((ds10_39 a c k p q cap f cap_4 g X0) ∧ True) ∧ (∀ (K : KO XN), (fun X1 : Prop => (ds10_39 a c k p q cap f
 cap_4 g X1) ∧ True → a = a ∧ Value.pointer none = Value.pointer none ∧ c = c ∧ Value.pointer none = Value.pointer none ∧ ([] : List (Int × Value)) = [] ∧ k = k ∧ p = p ∧ q = q ∧ cap
 = cap ∧ f = f ∧ cap_4 = cap_4 ∧ ((ds10_25 g) ∧ X1 ∧ True) ∧ True) (K (ds10_6 k hk p hp q hq g) (Mem.mk [(1, SO.cells (ds10_2 a b c d e f g) 75), (2, SO.cells (ds10_1 k hk p hp q hq)
 77), (45, SO.cells (ds10_2 a b c d e f g) 75), (51, SO.cells (ds10_2 a b c d e f g) 75), (83, SO.cells [SC.int false .u64 a, SC.raw (Value.pointer none)] 199), (87, SO.cells [SC.int
 false .u64 c, SC.raw (Value.pointer none)] 199), (91, SO.cells [SC.int false .u64 f, SC.raw (Value.pointer none)] 199), (93, SO.mp true []), (95, SO.cells (ds10_45 a b c d e f g
 cap_4 cap) 204), (109, SO.cells (ds10_1 k hk p hp q hq) 77), (110, SO.cells [SC.int true .i64 (0 : Int), SC.int true .i64 (0 : Int)] 82), (128, SO.cells [SC.int true .i64 (0 : Int),
 SC.int true .i64 (0 : Int)] 82), (141, SO.cells (ds10_1 k hk p hp q hq) 77), (142, SO.cells [SC.int true .i64 (0 : Int), SC.int true .i64 (0 : Int)] 82), (162, SO.cells [SC.int
 false .u64 f, SC.raw (Value.pointer none)] 199), (170, SO.cells [SC.int false .u64 f, SC.raw (Value.pointer none)] 199), (223, SO.cells [SC.int false .u64 f, SC.raw (Value.pointer
 none)] 199), (231, SO.cells [SC.int false .u64 f, SC.raw (Value.pointer none)] 199), (255, SO.cells [sp 282 0, sp 364 0, sp 447 0, sp 530 0] 210), (264, SO.cells [ti .u64 (0 : Int),
 SC.raw (Value.pointer none)] 199), (275, SO.cells [SC.int false .u64 f, SC.raw (Value.pointer none)] 199), (282, SO.cells (ds10_15 k g_1) 212), (305, SO.cells [SC.int false .u64 f]
 29), (306, SO.row 29 1 1 cap [SC.int false .u64 f]), (316, SO.cells [sp 282 0] 197), (357, SO.cells [ti .u64 (0 : Int), SC.raw (Value.pointer none)] 199), (364, SO.cells (ds10_16 k
 g_2) 212), (375, SO.cells [sp 364 0] 197), (440, SO.cells [ti .u64 (0 : Int), SC.raw (Value.pointer none)] 199), (447, SO.cells (ds10_17 k g_3) 212), (458, SO.cells [sp 447 0] 197),
 (523, SO.cells [ti .u64 (0 : Int), SC.raw (Value.pointer none)] 199), (530, SO.cells (ds10_14 k p) 212), (541, SO.cells [sp 530 0] 197), (542, SO.row 197 1 4 cap_4 [sp 282 0, sp 364
 0, sp 447 0, sp 530 0]), (613, SO.cells (ds10_10 k p) 87), (614, SO.cells (ds10_10 k p) 87), (631, SO.cells [sp 282 0, sp 364 0, sp 447 0, sp 530 0] 210), (658, SO.cells [SC.int
 true .u64 (0 : Int), sp 282 0] 199)] 701) Scr.nil)) ∧ True) (K (ds10_6 k hk p hp q hq g) (Mem.mk [(1, SO.cells (ds10_2 a b c d e f g) 75), (2, SO.cells (ds10_1 k hk p hp q hq) 77),
 (45, SO.cells (ds10_2 a b c d e f g) 75), (51, SO.cells (ds10_2 a b c d e f g) 75), (83, SO.cells [SC.int false .u64 a, SC.raw (Value.pointer none)] 199), (87, SO.cells [SC.int
 false .u64 c, SC.raw (Value.pointer none)] 199), (91, SO.cells [SC.int false .u64 f, SC.raw (Value.pointer none)] 199), (93, SO.mp true []), (95, SO.cells (ds10_45 a b c d e f g
 cap_4 cap) 204), (109, SO.cells (ds10_1 k hk p hp q hq) 77), (110, SO.cells [SC.int true .i64 (0 : Int), SC.int true .i64 (0 : Int)] 82), (128, SO.cells [SC.int true .i64 (0 : Int),
 SC.int true .i64 (0 : Int)] 82), (141, SO.cells (ds10_1 k hk p hp q hq) 77), (142, SO.cells [SC.int true .i64 (0 : Int), SC.int true .i64 (0 : Int)] 82), (162, SO.cells [SC.int
 false .u64 f, SC.raw (Value.pointer none)] 199), (170, SO.cells [SC.int false .u64 f, SC.raw (Value.pointer none)] 199), (223, SO.cells [SC.int false .u64 f, SC.raw (Value.pointer
 none)] 199), (231, SO.cells [SC.int false .u64 f, SC.raw (Value.pointer none)] 199), (255, SO.cells [sp 282 0, sp 364 0, sp 447 0, sp 530 0] 210), (264, SO.cells [ti .u64 (0 : Int),
 SC.raw (Value.pointer none)] 199), (275, SO.cells [SC.int false .u64 f, SC.raw (Value.pointer none)] 199), (282, SO.cells (ds10_15 k g_1) 212), (305, SO.cells [SC.int false .u64 f]
 29), (306, SO.row 29 1 1 cap [SC.int false .u64 f]), (316, SO.cells [sp 282 0] 197), (357, SO.cells [ti .u64 (0 : Int), SC.raw (Value.pointer none)] 199), (364, SO.cells (ds10_16 k
 g_2) 212), (375, SO.cells [sp 364 0] 197), (440, SO.cells [ti .u64 (0 : Int), SC.raw (Value.pointer none)] 199), (447, SO.cells (ds10_17 k g_3) 212), (458, SO.cells [sp 447 0] 197),
 (523, SO.cells [ti .u64 (0 : Int), SC.raw (Value.pointer none)] 199), (530, SO.cells (ds10_14 k p) 212), (541, SO.cells [sp 530 0] 197), (542, SO.row 197 1 4 cap_4 [sp 282 0, sp 364
 0, sp 447 0, sp 530 0]), (613, SO.cells (ds10_10 k p) 87), (614, SO.cells (ds10_10 k p) 87), (631, SO.cells [sp 282 0, sp 364 0, sp 447 0, sp 530 0] 210), (658, SO.cells [SC.int
 true .u64 (0 : Int), sp 282 0] 199)] 701) Scr.nil)) ∧ True) ∧ True) ∧ True) ∧ (ds10_33 k p)) ∧ True) ∧ True) ∧ True) ∧ True) ∧ (∀ (K : KO XN), (fun X0 : Prop => ((if (dkF k (0 :
 Int)).toNat = 0 then (0 : Int) else (0 : Int)) = if (dkF k (0 : Int)).toNat = 0 then (0 : Int) else (0 : Int)) ∧ ((if (dkF k (0 : Int)).toNat = 1 then (0 : Int) else (0 : Int)) = if
 (dkF k (0 : Int)).toNat = 1 then (0 : Int) else (0 : Int)) ∧ ((if (dkF k (0 : Int)).toNat = 2 then (0 : Int) else (0 : Int)) = if (dkF k (0 : Int)).toNat = 2 then (0 : Int) else (0
 : Int)) ∧ ((if (dkF k (0 : Int)).toNat = 3 then (0 : Int) else (0 : Int)) = if (dkF k (0 : Int)).toNat = 3 then (0 : Int) else (0 : Int)) ∧ g_1 0 = g_1 0 ∧ g_1 1 = g_1 1 ∧ g_1 2 =
 g_1 2 ∧ g_1 3 = g_1 3 ∧ ((if (dkF k (1 : Int)).toNat = 0 then (0 : Int) else (0 : Int)) = if (dkF k (1 : Int)).toNat = 0 then (0 : Int) else (0 : Int)) ∧ ((if (dkF k (1 :
 Int)).toNat = 1 then (0 : Int) else (0 : Int)) = if (dkF k (1 : Int)).toNat = 1 then (0 : Int) else (0 : Int)) ∧ ((if (dkF k (1 : Int)).toNat = 2 then (0 : Int) else (0 : Int)) = if
 (dkF k (1 : Int)).toNat = 2 then (0 : Int) else (0 : Int)) ∧ ((if (dkF k (1 : Int)).toNat = 3 then (0 : Int) else (0 : Int)) = if (dkF k (1 : Int)).toNat = 3 then (0 : Int) else (0
 : Int)) ∧ g_2 0 = g_2 0 ∧ g_2 1 = g_2 1 ∧ g_2 2 = g_2 2 ∧ g_2 3 = g_2 3 ∧ ((if (dkF k (2 : Int)).toNat = 0 then (0 : Int) else (0 : Int)) = if (dkF k (2 : Int)).toNat = 0 then (0 :
 Int) else (0 : Int)) ∧ ((if (dkF k (2 : Int)).toNat = 1 then (0 : Int) else (0 : Int)) = if (dkF k (2 : Int)).toNat = 1 then (0 : Int) else (0 : Int)) ∧ ((if (dkF k (2 : Int)).toNat
 = 2 then (0 : Int) else (0 : Int)) = if (dkF k (2 : Int)).toNat = 2 then (0 : Int) else (0 : Int)) ∧ ((if (dkF k (2 : Int)).toNat = 3 then (0 : Int) else (0 : Int)) = if (dkF k (2 :
 Int)).toNat = 3 then (0 : Int) else (0 : Int)) ∧ g_3 0 = g_3 0 ∧ g_3 1 = g_3 1 ∧ g_3 2 = g_3 2 ∧ g_3 3 = g_3 3 ∧ (True ∧ (∀ (z : Un), True → ds10_3 k g_1 g_2 g_3 X0) ∧ True) ∧ True
 → ds10_18 k g_1 g_2 g_3 X0) (K (SF.mk 110 (np 95 0 (nv (SV.c (SC.int true .i64 (2 : Int))) (nv (ds10_26 p hp) (nu (ds10_43 k hk) (nv (SV.c (tb false)) (nv (SV.c (SC.elp 530 (dkF k
 (3 : Int)).toNat 1 1)) (nv (SV.c (ti .i64 (4 : Int))) tn tn) nu0) (nv (SV.c (ti .i64 (2 : Int))) nu0 tn))) (np 530 0 (np 91 0 (np 530 0 (nv (SV.c (SC.elp 447 (dkF k (2 : Int)).toNat
 1 5)) tn tn) nu0) (nv (SV.c (ti .i64 (3 : Int))) (np 530 0 tn tn) tn)) (nv (SV.c (ti .i64 (3 : Int))) (np 530 0 (np 530 0 tn tn) nu0) (nv (SV.c (ti .i64 (3 : Int))) nu0 tn)))) (nu
 (np 264 0 (np 95 7 (nv (SV.c (ti .i64 (3 : Int))) (np 447 0 tn tn) nu0) (nv (SV.c (tb true)) (nv (ds10_26 p hp) tn tn) tn)) (np 95 0 (np 530 0 (np 530 0 tn tn) nu0) (np 447 0 nu0
 tn))) (nv (ds10_31 k) (nv (SV.agg [SC.int false .u64 f, SC.raw (Value.pointer none)]) (np 530 0 (np 447 1 tn tn) nu0) (nv (ds10_31 k) nu0 tn)) (nv (SV.c (ti .i64 (3 : Int))) (nv
 (SV.c (SC.elp 530 (dkF k (3 : Int)).toNat 1 5)) (np 530 1 tn tn) nu0) (np 255 2 nu0 tn))))) (nv (SV.c (SC.int false .i64 k (Bd.w (0 : Int) (255 : Int) hk))) (nu (np 255 0 (np 95 0
 (nv (SV.c (SC.int false .i64 k (Bd.w (0 : Int) (255 : Int) hk))) (np 530 0 tn tn) nu0) (ds10_48 k)) (nv (SV.c (ti .i64 (3 : Int))) (nv (SV.c (ti .u64 (0 : Int))) (np 255 3 tn tn)
 nu0) (np 255 2 nu0 tn))) (nv (ds10_32 k) (np 91 0 (nv (ds10_32 k) (np 447 0 tn tn) nu0) (nv (SV.c (ti .i64 (2 : Int))) (np 530 1 tn tn) tn)) (np 530 0 (np 530 5 (np 530 0 tn tn)
 nu0) (nv (SV.c (ti .i64 (2 : Int))) nu0 tn)))) (nu (nv (SV.c (ti .i64 (3 : Int))) (np 95 9 (nv (ds10_32 k) (np 447 5 tn tn) nu0) (nv (SV.c (SC.int false .i64 k (Bd.w (0 : Int) (255
 : Int) hk))) (nv (SV.agg (ds10_10 k p)) tn tn) tn)) (nv (SV.agg [ti .u64 (0 : Int), SC.raw (Value.pointer none)]) (nv (ds10_32 k) (np 255 3 tn tn) nu0) (nv (ds10_31 k) nu0 tn))) (np
 95 0 (nv (SV.c (ti .i64 (4 : Int))) (np 530 1 (nv (SV.c (SC.elp 447 (dkF k (2 : Int)).toNat 1 1)) tn tn) nu0) (nv (SV.c (ti .i64 (3 : Int))) nu0 tn)) (np 530 0 (nv (SV.c (SC.raw
 (Value.pointer none))) (nv (SV.agg (ds10_4)) tn tn) tn) (np 447 0 nu0 tn)))))) []) (Mem.mk [(1, SO.cells (ds10_2 a b c d e f g) 75), (2, SO.cells (ds10_1 k hk p hp q hq) 77), (45,
 SO.cells (ds10_2 a b c d e f g) 75), (51, SO.cells (ds10_2 a b c d e f g) 75), (83, SO.cells [SC.int false .u64 a, SC.raw (Value.pointer none)] 199), (87, SO.cells [SC.int false
 .u64 c, SC.raw (Value.pointer none)] 199), (91, SO.cells [SC.int false .u64 f, SC.raw (Value.pointer none)] 199), (93, SO.mp true []), (95, SO.cells [SC.int false .u64 a, SC.int
 false .i64 b, SC.int false .u64 c, SC.int false .i64 d, SC.int false .i64 e, SC.int false .u64 f, SC.int false .i64 g, sp 83 0, sp 87 0, sp 91 0, SC.map 93, SC.sli 542 1 true 0 true
 4 cap_4, SC.sli 306 1 true 0 true 1 cap, SC.nls, SC.int true .u64 (0 : Int)] 204), (109, SO.cells (ds10_1 k hk p hp q hq) 77), (110, SO.cells [SC.int true .i64 (0 : Int), SC.int
 true .i64 (0 : Int)] 82), (128, SO.cells [SC.int true .i64 (0 : Int), SC.int true .i64 (0 : Int)] 82), (141, SO.cells (ds10_1 k hk p hp q hq) 77), (142, SO.cells [SC.int true .i64
 (0 : Int), SC.int true .i64 (0 : Int)] 82), (162, SO.cells [SC.int false .u64 f, SC.raw (Value.pointer none)] 199), (170, SO.cells [SC.int false .u64 f, SC.raw (Value.pointer none)]
 199), (223, SO.cells [SC.int false .u64 f, SC.raw (Value.pointer none)] 199), (231, SO.cells [SC.int false .u64 f, SC.raw (Value.pointer none)] 199), (255, SO.cells [sp 282 0, sp
 364 0, sp 447 0, sp 530 0] 210), (264, SO.cells [ti .u64 (0 : Int), SC.raw (Value.pointer none)] 199), (275, SO.cells [SC.int false .u64 f, SC.raw (Value.pointer none)] 199), (282,
 SO.cells (ds10_15 k g_1) 212), (305, SO.cells [SC.int false .u64 f] 29), (306, SO.row 29 1 1 cap [SC.int false .u64 f]), (316, SO.cells [sp 282 0] 197), (357, SO.cells [ti .u64 (0 :
 Int), SC.raw (Value.pointer none)] 199), (364, SO.cells (ds10_16 k g_2) 212), (375, SO.cells [sp 364 0] 197), (440, SO.cells [ti .u64 (0 : Int), SC.raw (Value.pointer none)] 199),
 (447, SO.cells (ds10_17 k g_3) 212), (458, SO.cells [sp 447 0] 197), (523, SO.cells [ti .u64 (0 : Int), SC.raw (Value.pointer none)] 199), (530, SO.cells (ds10_14 k p) 212), (541,
 SO.cells [sp 530 0] 197), (542, SO.row 197 1 4 cap_4 [sp 282 0, sp 364 0, sp 447 0, sp 530 0]), (613, SO.cells (ds10_10 k p) 87), (614, SO.cells (ds10_10 k p) 87)] 627) Scr.nil)) ∧
 True) ∧ True) ∧ True) ∧ True) ∧ True) ∧ True) ∧ True) ∧ True) ∧ True) ∧ True) ∧ True) ∧ True) ∧ True) ∧ True) ∧ True) ∧ True) ∧ True) ∧ True) ∧ True) ∧ True) ∧ True) ∧ (∀ (K : KO
 XN), (fun X0 : (Nat) → Prop => f = f ∧ Value.pointer none = Value.pointer none ∧ (f = f ∧ Value.pointer none = Value.pointer none ∧ (True ∧ True ∧ 1 ≤ 1000000000 ∧ ∀ (cap : Nat), 1
 ≤ cap → (X0 cap) ∧ True) ∧ True) ∧ True → f = f ∧ Value.pointer none = Value.pointer none ∧ (f = f ∧ Value.pointer none = Value.pointer none ∧ (True ∧ True ∧ 1 ≤ 1000000000 ∧ ∀ (cap
 : Nat), 1 ≤ cap → (X0 cap) ∧ True) ∧ True) ∧ True) (fun (cap : Nat) => K (SF.mk 51 (np 95 0 (nv (SV.agg [SC.int false .u64 f, SC.raw (Value.pointer none)]) (nu (np 282 0 (np 282 0
 (np 95 0 tn tn) nu0) (nv (SV.c (SC.map 93)) (np 95 12 tn tn) tn)) (nu (np 282 0 (nv (SV.c (SC.int false .u64 f)) tn tn) tn) (np 282 0 nu0 tn))) (nu (nv (SV.c (SC.raw (Value.pointer
 none))) (nv (SV.c (SC.int false .u64 f)) (nv (SV.c SC.nls) tn tn) nu0) (nv (SV.c (SC.int false .u64 f)) nu0 tn)) (nv (SV.c (SC.int true .i64 (0 : Int))) (np 95 0 (nv (SV.c (SC.sli
 306 1 true 0 true 1 cap)) tn tn) tn) (np 95 0 nu0 tn)))) (nv (SV.c (SC.int true .i64 (0 : Int))) (np 275 0 (np 275 1 (np 275 0 (np 95 12 tn tn) nu0) (np 275 0 nu0 tn)) (nu (np 95 0
 (nv (SV.c (SC.sli 305 1 true 0 true 1 1)) tn tn) tn) (np 282 1 nu0 tn))) (nv (SV.c (SC.raw (Value.pointer none))) (nv (SV.c (tb false)) (nv (SV.c (tb true)) (np 275 0 tn tn) nu0)
 (nv (SV.agg (ds10_4)) nu0 tn)) (nv (SV.agg (ds10_37)) (np 95 10 (np 95 0 tn tn) tn) (np 95 0 nu0 tn))))) []) (Mem.mk [(1, SO.cells (ds10_2 a b c d e f g) 75), (2, SO.cells (ds10_1 k
 hk p hp q hq) 77), (45, SO.cells (ds10_2 a b c d e f g) 75), (51, SO.cells (ds10_2 a b c d e f g) 75), (83, SO.cells [SC.int false .u64 a, SC.raw (Value.pointer none)] 199), (87,
 SO.cells [SC.int false .u64 c, SC.raw (Value.pointer none)] 199), (91, SO.cells [SC.int false .u64 f, SC.raw (Value.pointer none)] 199), (93, SO.mp true []), (95, SO.cells [SC.int
 false .u64 a, SC.int false .i64 b, SC.int false .u64 c, SC.int false .i64 d, SC.int false .i64 e, SC.int false .u64 f, SC.int false .i64 g, sp 83 0, sp 87 0, sp 91 0, SC.map 93,
 SC.nls, SC.sli 306 1 true 0 true 1 cap, SC.nls, SC.int true .u64 (0 : Int)] 204), (109, SO.cells (ds10_1 k hk p hp q hq) 77), (110, SO.cells [SC.int true .i64 (0 : Int), SC.int true
 .i64 (0 : Int)] 82), (128, SO.cells [SC.int true .i64 (0 : Int), SC.int true .i64 (0 : Int)] 82), (141, SO.cells (ds10_1 k hk p hp q hq) 77), (142, SO.cells [SC.int true .i64 (0 :
 Int), SC.int true .i64 (0 : Int)] 82), (162, SO.cells [SC.int false .u64 f, SC.raw (Value.pointer none)] 199), (170, SO.cells [SC.int false .u64 f, SC.raw (Value.pointer none)]
 199), (223, SO.cells [SC.int false .u64 f, SC.raw (Value.pointer none)] 199), (231, SO.cells [SC.int false .u64 f, SC.raw (Value.pointer none)] 199), (255, SO.cells [SC.raw
 (Value.pointer none), SC.raw (Value.pointer none), SC.raw (Value.pointer none), SC.raw (Value.pointer none)] 210), (264, SO.cells [SC.int false .u64 f, SC.raw (Value.pointer none)]
 199), (275, SO.cells [SC.int false .u64 f, SC.raw (Value.pointer none)] 199), (282, SO.cells (ds10_37) 212), (305, SO.cells [SC.int false .u64 f] 29), (306, SO.row 29 1 1 cap
 [SC.int false .u64 f])] 298) Scr.nil)) ∧ True) ∧ True) ∧ True) ∧ ((f != (0 : Int)) = false → True ∧ True ∧ 1 ≤ 1000000000 ∧ ∀ (cap : Nat), 1 ≤ cap → True ∧ (∀ (z : Un), True → ((0 :
 Int) ≤ dkF k (0 : Int) ∧ dkF k (0 : Int) < (4 : Int)) ∧ (dkF k (0 : Int)).toNat < 4 ∧ ((0 : Int) ≤ dkF k (0 : Int) ∧ dkF k (0 : Int) < (4 : Int)) ∧ (dkF k (0 : Int)).toNat < 4 ∧
 (cap = cap ∧ True ∧ 2 ≤ 1000000000 ∧ ∀ (cap : Nat), 2 ≤ cap → True ∧ (∀ (z : Un), True → ((0 : Int) ≤ dkF k (1 : Int) ∧ dkF k (1 : Int) < (4 : Int)) ∧ (dkF k (1 : Int)).toNat < 4 ∧
 ((0 : Int) ≤ dkF k (1 : Int) ∧ dkF k (1 : Int) < (4 : Int)) ∧ (dkF k (1 : Int)).toNat < 4 ∧ (True ∧ (∀ (z : Un), True → ((0 : Int) ≤ dkF k (0 : Int) ∧ dkF k (0 : Int) < (4 : Int)) ∧
 ((dkF k (0 : Int)).toNat < 4 ∧ ∀ (g_1 : Nat → Value), Value.pointer none = Value.pointer none ∧ Value.pointer none = Value.pointer none ∧ Value.pointer none = Value.pointer none ∧
 Value.pointer none = Value.pointer none ∧ Value.pointer none = Value.pointer none ∧ Value.pointer none = Value.pointer none ∧ ((0 : Int) ≤ dkF k (0 : Int) ∧ dkF k (0 : Int) < (4 :
 Int)) ∧ ((dkF k (0 : Int)).toNat < 4 ∧ cap = cap ∧ True ∧ 3 ≤ 1000000000 ∧ ∀ (cap : Nat), 3 ≤ cap → True ∧ (∀ (z : Un), True → ((0 : Int) ≤ dkF k (2 : Int) ∧ dkF k (2 : Int) < (4 :
 Int)) ∧ (dkF k (2 : Int)).toNat < 4 ∧ ((0 : Int) ≤ dkF k (2 : Int) ∧ dkF k (2 : Int) < (4 : Int)) ∧ (dkF k (2 : Int)).toNat < 4 ∧ (True ∧ (∀ (z : Un), True → ((0 : Int) ≤ dkF k (1 :
 Int) ∧ dkF k (1 : Int) < (4 : Int)) ∧ ((dkF k (1 : Int)).toNat < 4 ∧ ∀ (g_2 : Nat → Value), Value.pointer none = Value.pointer none ∧ Value.pointer none = Value.pointer none ∧
 Value.pointer none = Value.pointer none ∧ Value.pointer none = Value.pointer none ∧ Value.pointer none = Value.pointer none ∧ ((0 : Int) ≤ dkF k (1 : Int) ∧ dkF k (1 : Int) < (4 :
 Int)) ∧ ((dkF k (1 : Int)).toNat < 4 ∧ cap = cap ∧ True ∧ 4 ≤ 1000000000 ∧ ∀ (cap : Nat), 4 ≤ cap → True ∧ (∀ (z : Un), True → ((0 : Int) ≤ dkF k (3 : Int) ∧ dkF k (3 : Int) < (4 :
 Int)) ∧ (dkF k (3 : Int)).toNat < 4 ∧ ((0 : Int) ≤ dkF k (3 : Int) ∧ dkF k (3 : Int) < (4 : Int)) ∧ (dkF k (3 : Int)).toNat < 4 ∧ (True ∧ (∀ (z : Un), True → ((0 : Int) ≤ dkF k (2 :
 Int) ∧ dkF k (2 : Int) < (4 : Int)) ∧ ((dkF k (2 : Int)).toNat < 4 ∧ ∀ (g_3 : Nat → Value), ((if (dkF k (0 : Int)).toNat = 0 then (0 : Int) else (0 : Int)) = if (dkF k (0 :
 Int)).toNat = 0 then (0 : Int) else (0 : Int)) ∧ ((if (dkF k (0 : Int)).toNat = 1 then (0 : Int) else (0 : Int)) = if (dkF k (0 : Int)).toNat = 1 then (0 : Int) else (0 : Int)) ∧
 ((if (dkF k (0 : Int)).toNat = 2 then (0 : Int) else (0 : Int)) = if (dkF k (0 : Int)).toNat = 2 then (0 : Int) else (0 : Int)) ∧ ((if (dkF k (0 : Int)).toNat = 3 then (0 : Int)
 else (0 : Int)) = if (dkF k (0 : Int)).toNat = 3 then (0 : Int) else (0 : Int)) ∧ g_1 0 = g_1 0 ∧ g_1 1 = g_1 1 ∧ g_1 2 = g_1 2 ∧ g_1 3 = g_1 3 ∧ Value.pointer none = Value.pointer
 none ∧ Value.pointer none = Value.pointer none ∧ Value.pointer none = Value.pointer none ∧ Value.pointer none = Value.pointer none ∧ ((0 : Int) ≤ dkF k (2 : Int) ∧ dkF k (2 : Int) <
 (4 : Int)) ∧ ((dkF k (2 : Int)).toNat < 4 ∧ (((if (dkF k (0 : Int)).toNat = 0 then (0 : Int) else (0 : Int)) = if (dkF k (0 : Int)).toNat = 0 then (0 : Int) else (0 : Int)) ∧ ((if
 (dkF k (0 : Int)).toNat = 1 then (0 : Int) else (0 : Int)) = if (dkF k (0 : Int)).toNat = 1 then (0 : Int) else (0 : Int)) ∧ ((if (dkF k (0 : Int)).toNat = 2 then (0 : Int) else (0
 : Int)) = if (dkF k (0 : Int)).toNat = 2 then (0 : Int) else (0 : Int)) ∧ ((if (dkF k (0 : Int)).toNat = 3 then (0 : Int) else (0 : Int)) = if (dkF k (0 : Int)).toNat = 3 then (0 :
 Int) else (0 : Int)) ∧ g_1 0 = g_1 0 ∧ g_1 1 = g_1 1 ∧ g_1 2 = g_1 2 ∧ g_1 3 = g_1 3 ∧ ((if (dkF k (1 : Int)).toNat = 0 then (0 : Int) else (0 : Int)) = if (dkF k (1 : Int)).toNat =
 0 then (0 : Int) else (0 : Int)) ∧ ((if (dkF k (1 : Int)).toNat = 1 then (0 : Int) else (0 : Int)) = if (dkF k (1 : Int)).toNat = 1 then (0 : Int) else (0 : Int)) ∧ ((if (dkF k (1 :
 Int)).toNat = 2 then (0 : Int) else (0 : Int)) = if (dkF k (1 : Int)).toNat = 2 then (0 : Int) else (0 : Int)) ∧ ((if (dkF k (1 : Int)).toNat = 3 then (0 : Int) else (0 : Int)) = if
 (dkF k (1 : Int)).toNat = 3 then (0 : Int) else (0 : Int)) ∧ g_2 0 = g_2 0 ∧ g_2 1 = g_2 1 ∧ g_2 2 = g_2 2 ∧ g_2 3 = g_2 3 ∧ ((if (dkF k (2 : Int)).toNat = 0 then (0 : Int) else (0
 : Int)) = if (dkF k (2 : Int)).toNat = 0 then (0 : Int) else (0 : Int)) ∧ ((if (dkF k (2 : Int)).toNat = 1 then (0 : Int) else (0 : Int)) = if (dkF k (2 : Int)).toNat = 1 then (0 :
 Int) else (0 : Int)) ∧ ((if (dkF k (2 : Int)).toNat = 2 then (0 : Int) else (0 : Int)) = if (dkF k (2 : Int)).toNat = 2 then (0 : Int) else (0 : Int)) ∧ ((if (dkF k (2 : Int)).toNat
 = 3 then (0 : Int) else (0 : Int)) = if (dkF k (2 : Int)).toNat = 3 then (0 : Int) else (0 : Int)) ∧ g_3 0 = g_3 0 ∧ g_3 1 = g_3 1 ∧ g_3 2 = g_3 2 ∧ g_3 3 = g_3 3 ∧ (True ∧ (∀ (z :
 Un), True → ((if (dkF k (0 : Int)).toNat = 0 then (0 : Int) else (0 : Int)) = if (dkF k (0 : Int)).toNat = 0 then (0 : Int) else (0 : Int)) ∧ ((if (dkF k (0 : Int)).toNat = 1 then
 (0 : Int) else (0 : Int)) = if (dkF k (0 : Int)).toNat = 1 then (0 : Int) else (0 : Int)) ∧ ((if (dkF k (0 : Int)).toNat = 2 then (0 : Int) else (0 : Int)) = if (dkF k (0 :
 Int)).toNat = 2 then (0 : Int) else (0 : Int)) ∧ ((if (dkF k (0 : Int)).toNat = 3 then (0 : Int) else (0 : Int)) = if (dkF k (0 : Int)).toNat = 3 then (0 : Int) else (0 : Int)) ∧
 g_1 0 = g_1 0 ∧ g_1 1 = g_1 1 ∧ g_1 2 = g_1 2 ∧ g_1 3 = g_1 3 ∧ ((if (dkF k (1 : Int)).toNat = 0 then (0 : Int) else (0 : Int)) = if (dkF k (1 : Int)).toNat = 0 then (0 : Int) else
 (0 : Int)) ∧ ((if (dkF k (1 : Int)).toNat = 1 then (0 : Int) else (0 : Int)) = if (dkF k (1 : Int)).toNat = 1 then (0 : Int) else (0 : Int)) ∧ ((if (dkF k (1 : Int)).toNat = 2 then
 (0 : Int) else (0 : Int)) = if (dkF k (1 : Int)).toNat = 2 then (0 : Int) else (0 : Int)) ∧ ((if (dkF k (1 : Int)).toNat = 3 then (0 : Int) else (0 : Int)) = if (dkF k (1 :
 Int)).toNat = 3 then (0 : Int) else (0 : Int)) ∧ g_2 0 = g_2 0 ∧ g_2 1 = g_2 1 ∧ g_2 2 = g_2 2 ∧ g_2 3 = g_2 3 ∧ ((if (dkF k (2 : Int)).toNat = 0 then (0 : Int) else (0 : Int)) = if
 (dkF k (2 : Int)).toNat = 0 then (0 : Int) else (0 : Int)) ∧ ((if (dkF k (2 : Int)).toNat = 1 then (0 : Int) else (0 : Int)) = if (dkF k (2 : Int)).toNat = 1 then (0 : Int) else (0
 : Int)) ∧ ((if (dkF k (2 : Int)).toNat = 2 then (0 : Int) else (0 : Int)) = if (dkF k (2 : Int)).toNat = 2 then (0 : Int) else (0 : Int)) ∧ ((if (dkF k (2 : Int)).toNat = 3 then (0
 : Int) else (0 : Int)) = if (dkF k (2 : Int)).toNat = 3 then (0 : Int) else (0 : Int)) ∧ g_3 0 = g_3 0 ∧ g_3 1 = g_3 1 ∧ g_3 2 = g_3 2 ∧ g_3 3 = g_3 3 ∧ (((0 : Int) ≤ dkF k (3 :
 Int) ∧ dkF k (3 : Int) < (4 : Int)) ∧ (dkF k (3 : Int)).toNat < 4 ∧ ((if (dkF k (0 : Int)).toNat = 0 then (0 : Int) else (0 : Int)) = if (dkF k (0 : Int)).toNat = 0 then (0 : Int)
 else (0 : Int)) ∧ ((if (dkF k (0 : Int)).toNat = 1 then (0 : Int) else (0 : Int)) = if (dkF k (0 : Int)).toNat = 1 then (0 : Int) else (0 : Int)) ∧ ((if (dkF k (0 : Int)).toNat = 2
 then (0 : Int) else (0 : Int)) = if (dkF k (0 : Int)).toNat = 2 then (0 : Int) else (0 : Int)) ∧ ((if (dkF k (0 : Int)).toNat = 3 then (0 : Int) else (0 : Int)) = if (dkF k (0 :
 Int)).toNat = 3 then (0 : Int) else (0 : Int)) ∧ g_1 0 = g_1 0 ∧ g_1 1 = g_1 1 ∧ g_1 2 = g_1 2 ∧ g_1 3 = g_1 3 ∧ ((if (dkF k (1 : Int)).toNat = 0 then (0 : Int) else (0 : Int)) = if
 (dkF k (1 : Int)).toNat = 0 then (0 : Int) else (0 : Int)) ∧ ((if (dkF k (1 : Int)).toNat = 1 then (0 : Int) else (0 : Int)) = if (dkF k (1 : Int)).toNat = 1 then (0 : Int) else (0
 : Int)) ∧ ((if (dkF k (1 : Int)).toNat = 2 then (0 : Int) else (0 : Int)) = if (dkF k (1 : Int)).toNat = 2 then (0 : Int) else (0 : Int)) ∧ ((if (dkF k (1 : Int)).toNat = 3 then (0
 : Int) else (0 : Int)) = if (dkF k (1 : Int)).toNat = 3 then (0 : Int) else (0 : Int)) ∧ g_2 0 = g_2 0 ∧ g_2 1 = g_2 1 ∧ g_2 2 = g_2 2 ∧ g_2 3 = g_2 3 ∧ ((if (dkF k (2 : Int)).toNat
 = 0 then (0 : Int) else (0 : Int)) = if (dkF k (2 : Int)).toNat = 0 then (0 : Int) else (0 : Int)) ∧ ((if (dkF k (2 : Int)).toNat = 1 then (0 : Int) else (0 : Int)) = if (dkF k (2 :
 Int)).toNat = 1 then (0 : Int) else (0 : Int)) ∧ ((if (dkF k (2 : Int)).toNat = 2 then (0 : Int) else (0 : Int)) = if (dkF k (2 : Int)).toNat = 2 then (0 : Int) else (0 : Int)) ∧
 ((if (dkF k (2 : Int)).toNat = 3 then (0 : Int) else (0 : Int)) = if (dkF k (2 : Int)).toNat = 3 then (0 : Int) else (0 : Int)) ∧ g_3 0 = g_3 0 ∧ g_3 1 = g_3 1 ∧ g_3 2 = g_3 2 ∧ g_3
 3 = g_3 3 ∧ (((false == ((if (dkF k (3 : Int)).toNat = 0 then p + (1 : Int) else (0 : Int)) == (0 : Int) && ((if (dkF k (3 : Int)).toNat = 1 then p + (1 : Int) else (0 : Int)) == (0
 : Int) && ((if (dkF k (3 : Int)).toNat = 2 then p + (1 : Int) else (0 : Int)) == (0 : Int) && ((if (dkF k (3 : Int)).toNat = 3 then p + (1 : Int) else (0 : Int)) == (0 : Int) &&
 true))))) = true → (((a = a ∧ Value.pointer none = Value.pointer none ∧ c = c ∧ Value.pointer none = Value.pointer none ∧ ([] : List (Int × Value)) = [] ∧ k = k ∧ p = p ∧ q = q ∧
 cap = cap ∧ (a = a ∧ Value.pointer none = Value.pointer none ∧ c = c ∧ Value.pointer none = Value.pointer none ∧ ([] : List (Int × Value)) = [] ∧ k = k ∧ p = p ∧ q = q ∧ cap = cap ∧
 (a = a ∧ Value.pointer none = Value.pointer none ∧ c = c ∧ Value.pointer none = Value.pointer none ∧ ([] : List (Int × Value)) = [] ∧ k = k ∧ p = p ∧ q = q ∧ cap = cap ∧ (ds10_25 g)
 ∧ ds10_44 a b c e d) ∧ True) ∧ True) ∧ (∀ (K : KO XN), (fun X0 : Prop => a = a ∧ Value.pointer none = Value.pointer none ∧ c = c ∧ Value.pointer none = Value.pointer none ∧ ([] :
 List (Int × Value)) = [] ∧ k = k ∧ p = p ∧ q = q ∧ cap = cap ∧ (a = a ∧ Value.pointer none = Value.pointer none ∧ c = c ∧ Value.pointer none = Value.pointer none ∧ ([] : List (Int ×
 Value)) = [] ∧ k = k ∧ p = p ∧ q = q ∧ cap = cap ∧ (ds10_40 a c k p q cap g X0) ∧ True) ∧ True → a = a ∧ Value.pointer none = Value.pointer none ∧ c = c ∧ Value.pointer none =
 Value.pointer none ∧ ([] : List (Int × Value)) = [] ∧ k = k ∧ p = p ∧ q = q ∧ cap = cap ∧ ((ds10_40 a c k p q cap g X0) ∧ True) ∧ (∀ (K : KO XN), (fun X1 : Prop => (ds10_40 a c k p
 q cap g X1) ∧ True → a = a ∧ Value.pointer none = Value.pointer none ∧ c = c ∧ Value.pointer none = Value.pointer none ∧ ([] : List (Int × Value)) = [] ∧ k = k ∧ p = p ∧ q = q ∧ cap
 = cap ∧ ((ds10_25 g) ∧ X1 ∧ True) ∧ True) (K (ds10_6 k hk p hp q hq g) (Mem.mk [(1, SO.cells (ds10_2 a b c d e f g) 75), (2, SO.cells (ds10_1 k hk p hp q hq) 77), (45, SO.cells
 (ds10_2 a b c d e f g) 75), (51, SO.cells (ds10_2 a b c d e f g) 75), (83, SO.cells [SC.int false .u64 a, SC.raw (Value.pointer none)] 199), (87, SO.cells [SC.int false .u64 c,
 SC.raw (Value.pointer none)] 199), (91, SO.cells [SC.int false .u64 f, SC.raw (Value.pointer none)] 199), (93, SO.mp true []), (95, SO.cells (ds10_49 a b c d e f g cap) 204), (109,
 SO.cells (ds10_1 k hk p hp q hq) 77), (110, SO.cells [SC.int true .i64 (0 : Int), SC.int true .i64 (0 : Int)] 82), (128, SO.cells [SC.int true .i64 (0 : Int), SC.int true .i64 (0 :
 Int)] 82), (141, SO.cells (ds10_1 k hk p hp q hq) 77), (142, SO.cells [SC.int true .i64 (0 : Int), SC.int true .i64 (0 : Int)] 82), (162, SO.cells [SC.int false .u64 f, SC.raw
 (Value.pointer none)] 199), (170, SO.cells [SC.int false .u64 f, SC.raw (Value.pointer none)] 199), (223, SO.cells [SC.int false .u64 f, SC.raw (Value.pointer none)] 199), (231,
 SO.cells [SC.int false .u64 f, SC.raw (Value.pointer none)] 199), (255, SO.cells [sp 282 0, sp 341 0, sp 424 0, sp 507 0] 210), (264, SO.cells [ti .u64 (0 : Int), SC.raw
 (Value.pointer none)] 199), (275, SO.cells [SC.int false .u64 f, SC.raw (Value.pointer none)] 199), (282, SO.cells (ds10_15 k g_1) 212), (293, SO.cells [sp 282 0] 197), (334,
 SO.cells [ti .u64 (0 : Int), SC.raw (Value.pointer none)] 199), (341, SO.cells (ds10_16 k g_2) 212), (352, SO.cells [sp 341 0] 197), (417, SO.cells [ti .u64 (0 : Int), SC.raw
 (Value.pointer none)] 199), (424, SO.cells (ds10_17 k g_3) 212), (435, SO.cells [sp 424 0] 197), (500, SO.cells [ti .u64 (0 : Int), SC.raw (Value.pointer none)] 199), (507, SO.cells
 (ds10_14 k p) 212), (518, SO.cells [sp 507 0] 197), (519, SO.row 197 1 4 cap [sp 282 0, sp 341 0, sp 424 0, sp 507 0]), (590, SO.cells (ds10_10 k p) 87), (591, SO.cells (ds10_10 k
 p) 87), (608, SO.cells [sp 282 0, sp 341 0, sp 424 0, sp 507 0] 210), (635, SO.cells [SC.int true .u64 (0 : Int), sp 282 0] 199)] 678) Scr.nil)) ∧ True) (K (ds10_6 k hk p hp q hq g)
 (Mem.mk [(1, SO.cells (ds10_2 a b c d e f g) 75), (2, SO.cells (ds10_1 k hk p hp q hq) 77), (45, SO.cells (ds10_2 a b c d e f g) 75), (51, SO.cells (ds10_2 a b c d e f g) 75), (83,
 SO.cells [SC.int false .u64 a, SC.raw (Value.pointer none)] 199), (87, SO.cells [SC.int false .u64 c, SC.raw (Value.pointer none)] 199), (91, SO.cells [SC.int false .u64 f, SC.raw
 (Value.pointer none)] 199), (93, SO.mp true []), (95, SO.cells (ds10_49 a b c d e f g cap) 204), (109, SO.cells (ds10_1 k hk p hp q hq) 77), (110, SO.cells [SC.int true .i64 (0 :
 Int), SC.int true .i64 (0 : Int)] 82), (128, SO.cells [SC.int true .i64 (0 : Int), SC.int true .i64 (0 : Int)] 82), (141, SO.cells (ds10_1 k hk p hp q hq) 77), (142, SO.cells
 [SC.int true .i64 (0 : Int), SC.int true .i64 (0 : Int)] 82), (162, SO.cells [SC.int false .u64 f, SC.raw (Value.pointer none)] 199), (170, SO.cells [SC.int false .u64 f, SC.raw
 (Value.pointer none)] 199), (223, SO.cells [SC.int false .u64 f, SC.raw (Value.pointer none)] 199), (231, SO.cells [SC.int false .u64 f, SC.raw (Value.pointer none)] 199), (255,
 SO.cells [sp 282 0, sp 341 0, sp 424 0, sp 507 0] 210), (264, SO.cells [ti .u64 (0 : Int), SC.raw (Value.pointer none)] 199), (275, SO.cells [SC.int false .u64 f, SC.raw
 (Value.pointer none)] 199), (282, SO.cells (ds10_15 k g_1) 212), (293, SO.cells [sp 282 0] 197), (334, SO.cells [ti .u64 (0 : Int), SC.raw (Value.pointer none)] 199), (341, SO.cells
 (ds10_16 k g_2) 212), (352, SO.cells [sp 341 0] 197), (417, SO.cells [ti .u64 (0 : Int), SC.raw (Value.pointer none)] 199), (424, SO.cells (ds10_17 k g_3) 212), (435, SO.cells [sp
 424 0] 197), (500, SO.cells [ti .u64 (0 : Int), SC.raw (Value.pointer none)] 199), (507, SO.cells (ds10_14 k p) 212), (518, SO.cells [sp 507 0] 197), (519, SO.row 197 1 4 cap [sp
 282 0, sp 341 0, sp 424 0, sp 507 0]), (590, SO.cells (ds10_10 k p) 87), (591, SO.cells (ds10_10 k p) 87), (608, SO.cells [sp 282 0, sp 341 0, sp 424 0, sp 507 0] 210), (635,
 SO.cells [SC.int true .u64 (0 : Int), sp 282 0] 199)] 678) Scr.nil)) ∧ True) ∧ True) ∧ True) ∧ (ds10_33 k p)) ∧ True) ∧ True) ∧ True) ∧ True) ∧ (∀ (K : KO XN), (fun X0 : Prop =>
 ((if (dkF k (0 : Int)).toNat = 0 then (0 : Int) else (0 : Int)) = if (dkF k (0 : Int)).toNat = 0 then (0 : Int) else (0 : Int)) ∧ ((if (dkF k (0 : Int)).toNat = 1 then (0 : Int)
 else (0 : Int)) = if (dkF k (0 : Int)).toNat = 1 then (0 : Int) else (0 : Int)) ∧ ((if (dkF k (0 : Int)).toNat = 2 then (0 : Int) else (0 : Int)) = if (dkF k (0 : Int)).toNat = 2
 then (0 : Int) else (0 : Int)) ∧ ((if (dkF k (0 : Int)).toNat = 3 then (0 : Int) else (0 : Int)) = if (dkF k (0 : Int)).toNat = 3 then (0 : Int) else (0 : Int)) ∧ g_1 0 = g_1 0 ∧
 g_1 1 = g_1 1 ∧ g_1 2 = g_1 2 ∧ g_1 3 = g_1 3 ∧ ((if (dkF k (1 : Int)).toNat = 0 then (0 : Int) else (0 : Int)) = if (dkF k (1 : Int)).toNat = 0 then (0 : Int) else (0 : Int)) ∧
 ((if (dkF k (1 : Int)).toNat = 1 then (0 : Int) else (0 : Int)) = if (dkF k (1 : Int)).toNat = 1 then (0 : Int) else (0 : Int)) ∧ ((if (dkF k (1 : Int)).toNat = 2 then (0 : Int)
 else (0 : Int)) = if (dkF k (1 : Int)).toNat = 2 then (0 : Int) else (0 : Int)) ∧ ((if (dkF k (1 : Int)).toNat = 3 then (0 : Int) else (0 : Int)) = if (dkF k (1 : Int)).toNat = 3
 then (0 : Int) else (0 : Int)) ∧ g_2 0 = g_2 0 ∧ g_2 1 = g_2 1 ∧ g_2 2 = g_2 2 ∧ g_2 3 = g_2 3 ∧ ((if (dkF k (2 : Int)).toNat = 0 then (0 : Int) else (0 : Int)) = if (dkF k (2 :
 Int)).toNat = 0 then (0 : Int) else (0 : Int)) ∧ ((if (dkF k (2 : Int)).toNat = 1 then (0 : Int) else (0 : Int)) = if (dkF k (2 : Int)).toNat = 1 then (0 : Int) else (0 : Int)) ∧
 ((if (dkF k (2 : Int)).toNat = 2 then (0 : Int) else (0 : Int)) = if (dkF k (2 : Int)).toNat = 2 then (0 : Int) else (0 : Int)) ∧ ((if (dkF k (2 : Int)).toNat = 3 then (0 : Int)
 else (0 : Int)) = if (dkF k (2 : Int)).toNat = 3 then (0 : Int) else (0 : Int)) ∧ g_3 0 = g_3 0 ∧ g_3 1 = g_3 1 ∧ g_3 2 = g_3 2 ∧ g_3 3 = g_3 3 ∧ (True ∧ (∀ (z : Un), True → ds10_3
 k g_1 g_2 g_3 X0) ∧ True) ∧ True → ds10_18 k g_1 g_2 g_3 X0) (K (SF.mk 110 (np 95 0 (nv (SV.c (SC.int true .i64 (2 : Int))) (nv (ds10_26 p hp) (nu (ds10_43 k hk) (nv (SV.c (tb
 false)) (nv (SV.c (SC.elp 507 (dkF k (3 : Int)).toNat 1 1)) (nv (SV.c (ti .i64 (4 : Int))) tn tn) nu0) (nv (SV.c (ti .i64 (2 : Int))) nu0 tn))) (np 507 0 (np 91 0 (np 507 0 (nv
 (SV.c (SC.elp 424 (dkF k (2 : Int)).toNat 1 5)) tn tn) nu0) (nv (SV.c (ti .i64 (3 : Int))) (np 507 0 tn tn) tn)) (nv (SV.c (ti .i64 (3 : Int))) (np 507 0 (np 507 0 tn tn) nu0) (nv
 (SV.c (ti .i64 (3 : Int))) nu0 tn)))) (nu (np 264 0 (np 95 7 (nv (SV.c (ti .i64 (3 : Int))) (np 424 0 tn tn) nu0) (nv (SV.c (tb true)) (nv (ds10_26 p hp) tn tn) tn)) (np 95 0 (np
 507 0 (np 507 0 tn tn) nu0) (np 424 0 nu0 tn))) (nv (ds10_31 k) (nv (SV.agg [SC.int false .u64 f, SC.raw (Value.pointer none)]) (np 507 0 (np 424 1 tn tn) nu0) (nv (ds10_31 k) nu0
 tn)) (nv (SV.c (ti .i64 (3 : Int))) (nv (SV.c (SC.elp 507 (dkF k (3 : Int)).toNat 1 5)) (np 507 1 tn tn) nu0) (np 255 2 nu0 tn))))) (nv (SV.c (SC.int false .i64 k (Bd.w (0 : Int)
 (255 : Int) hk))) (nu (np 255 0 (np 95 0 (nv (SV.c (SC.int false .i64 k (Bd.w (0 : Int) (255 : Int) hk))) (np 507 0 tn tn) nu0) (ds10_48 k)) (nv (SV.c (ti .i64 (3 : Int))) (nv (SV.c
 (ti .u64 (0 : Int))) (np 255 3 tn tn) nu0) (np 255 2 nu0 tn))) (nv (ds10_32 k) (np 91 0 (nv (ds10_32 k) (np 424 0 tn tn) nu0) (nv (SV.c (ti .i64 (2 : Int))) (np 507 1 tn tn) tn))
 (np 507 0 (np 507 5 (np 507 0 tn tn) nu0) (nv (SV.c (ti .i64 (2 : Int))) nu0 tn)))) (nu (nv (SV.c (ti .i64 (3 : Int))) (np 95 9 (nv (ds10_32 k) (np 424 5 tn tn) nu0) (nv (SV.c
 (SC.int false .i64 k (Bd.w (0 : Int) (255 : Int) hk))) (nv (SV.agg (ds10_10 k p)) tn tn) tn)) (nv (SV.agg [ti .u64 (0 : Int), SC.raw (Value.pointer none)]) (nv (ds10_32 k) (np 255 3
 tn tn) nu0) (nv (ds10_31 k) nu0 tn))) (np 95 0 (nv (SV.c (ti .i64 (4 : Int))) (np 507 1 (nv (SV.c (SC.elp 424 (dkF k (2 : Int)).toNat 1 1)) tn tn) nu0) (nv (SV.c (ti .i64 (3 :
 Int))) nu0 tn)) (np 507 0 (nv (SV.c (SC.raw (Value.pointer none))) (nv (SV.agg (ds10_4)) tn tn) tn) (np 424 0 nu0 tn)))))) []) (Mem.mk [(1, SO.cells (ds10_2 a b c d e f g) 75), (2,
 SO.cells (ds10_1 k hk p hp q hq) 77), (45, SO.cells (ds10_2 a b c d e f g) 75), (51, SO.cells (ds10_2 a b c d e f g) 75), (83, SO.cells [SC.int false .u64 a, SC.raw (Value.pointer
 none)] 199), (87, SO.cells [SC.int false .u64 c, SC.raw (Value.pointer none)] 199), (91, SO.cells [SC.int false .u64 f, SC.raw (Value.pointer none)] 199), (93, SO.mp true []), (95,
 SO.cells [SC.int false .u64 a, SC.int false .i64 b, SC.int false .u64 c, SC.int false .i64 d, SC.int false .i64 e, SC.int false .u64 f, SC.int false .i64 g, sp 83 0, sp 87 0, sp 91
 0, SC.map 93, SC.sli 519 1 true 0 true 4 cap, SC.nls, SC.nls, SC.int true .u64 (0 : Int)] 204), (109, SO.cells (ds10_1 k hk p hp q hq) 77), (110, SO.cells [SC.int true .i64 (0 :
 Int), SC.int true .i64 (0 : Int)] 82), (128, SO.cells [SC.int true .i64 (0 : Int), SC.int true .i64 (0 : Int)] 82), (141, SO.cells (ds10_1 k hk p hp q hq) 77), (142, SO.cells
 [SC.int true .i64 (0 : Int), SC.int true .i64 (0 : Int)] 82), (162, SO.cells [SC.int false .u64 f, SC.raw (Value.pointer none)] 199), (170, SO.cells [SC.int false .u64 f, SC.raw
 (Value.pointer none)] 199), (223, SO.cells [SC.int false .u64 f, SC.raw (Value.pointer none)] 199), (231, SO.cells [SC.int false .u64 f, SC.raw (Value.pointer none)] 199), (255,
 SO.cells [sp 282 0, sp 341 0, sp 424 0, sp 507 0] 210), (264, SO.cells [ti .u64 (0 : Int), SC.raw (Value.pointer none)] 199), (275, SO.cells [SC.int false .u64 f, SC.raw
 (Value.pointer none)] 199), (282, SO.cells (ds10_15 k g_1) 212), (293, SO.cells [sp 282 0] 197), (334, SO.cells [ti .u64 (0 : Int), SC.raw (Value.pointer none)] 199), (341, SO.cells
 (ds10_16 k g_2) 212), (352, SO.cells [sp 341 0] 197), (417, SO.cells [ti .u64 (0 : Int), SC.raw (Value.pointer none)] 199), (424, SO.cells (ds10_17 k g_3) 212), (435, SO.cells [sp
 424 0] 197), (500, SO.cells [ti .u64 (0 : Int), SC.raw (Value.pointer none)] 199), (507, SO.cells (ds10_14 k p) 212), (518, SO.cells [sp 507 0] 197), (519, SO.row 197 1 4 cap [sp
 282 0, sp 341 0, sp 424 0, sp 507 0]), (590, SO.cells (ds10_10 k p) 87), (591, SO.cells (ds10_10 k p) 87)] 604) Scr.nil)) ∧ True) ∧ True) ∧ True) ∧ True) ∧ True) ∧ True) ∧ True) ∧
 True) ∧ True) ∧ True) ∧ True) ∧ True) ∧ True) ∧ True) ∧ True) ∧ True) ∧ True) ∧ True)) ∧ ((f == (0 : Int)) = false → (True ∧ (∀ (z : Un), True → a = a ∧ Value.pointer none =
 Value.pointer none ∧ c = c ∧ Value.pointer none = Value.pointer none ∧ f = f ∧ Value.pointer none = Value.pointer none ∧ ([] : List (Int × Value)) = [] ∧ a = a ∧ b = b ∧ c = c ∧ d =
 d ∧ e = e ∧ f = f ∧ g = g ∧ f = f ∧ Value.pointer none = Value.pointer none ∧ (((a = a ∧ Value.pointer none = Value.pointer none ∧ c = c ∧ Value.pointer none = Value.pointer none ∧
 f = f ∧ Value.pointer none = Value.pointer none ∧ ([] : List (Int × Value)) = [] ∧ a = a ∧ b = b ∧ c = c ∧ d = d ∧ e = e ∧ f = f ∧ g = g ∧ f = f ∧ Value.pointer none = Value.pointer
 none ∧ ((((a = a ∧ Value.pointer none = Value.pointer none ∧ c = c ∧ Value.pointer none = Value.pointer none ∧ f = f ∧ Value.pointer none = Value.pointer none ∧ ([] : List (Int ×
 Value)) = [] ∧ k = k ∧ p = p ∧ q = q ∧ (a = a ∧ Value.pointer none = Value.pointer none ∧ c = c ∧ Value.pointer none = Value.pointer none ∧ f = f ∧ Value.pointer none =
 Value.pointer none ∧ ([] : List (Int × Value)) = [] ∧ k = k ∧ p = p ∧ q = q ∧ (a = a ∧ Value.pointer none = Value.pointer none ∧ c = c ∧ Value.pointer none = Value.pointer none ∧ f
 = f ∧ Value.pointer none = Value.pointer none ∧ ([] : List (Int × Value)) = [] ∧ k = k ∧ p = p ∧ q = q ∧ (ds10_25 g) ∧ (((f != (0 : Int)) = true → (a = a ∧ Value.pointer none =
 Value.pointer none ∧ c = c ∧ Value.pointer none = Value.pointer none ∧ f = f ∧ Value.pointer none = Value.pointer none ∧ ([] : List (Int × Value)) = [] ∧ a = a ∧ b = b ∧ c = c ∧ d =
 d ∧ e = e ∧ f = f ∧ g + (1 : Int) = g + (1 : Int) ∧ f = f ∧ ((f != (0 : Int)) = true → ((true == (a == a && (b == b && (c == c && (d == d && (e == e && (f == f && (g + (1 : Int) ==
 g && true)))))))) = true → true = true) ∧ ((true == (a == a && (b == b && (c == c && (d == d && (e == e && (f == f && (g + (1 : Int) == g && true)))))))) = false → false = true)) ∧
 ((f != (0 : Int)) = false → ds10_19 a b c e d)) ∧ True) ∧ ((f != (0 : Int)) = false → ds10_19 a b c e d)) ∧ True) ∧ True) ∧ True) ∧ (∀ (K : KO XN), (fun X0 : Prop => a = a ∧
 Value.pointer none = Value.pointer none ∧ c = c ∧ Value.pointer none = Value.pointer none ∧ f = f ∧ Value.pointer none = Value.pointer none ∧ ([] : List (Int × Value)) = [] ∧ k = k
 ∧ p = p ∧ q = q ∧ (a = a ∧ Value.pointer none = Value.pointer none ∧ c = c ∧ Value.pointer none = Value.pointer none ∧ f = f ∧ Value.pointer none = Value.pointer none ∧ ([] : List
 (Int × Value)) = [] ∧ k = k ∧ p = p ∧ q = q ∧ (ds10_36 a c f k p q g X0) ∧ True) ∧ True → a = a ∧ Value.pointer none = Value.pointer none ∧ c = c ∧ Value.pointer none =
 Value.pointer none ∧ f = f ∧ Value.pointer none = Value.pointer none ∧ ([] : List (Int × Value)) = [] ∧ k = k ∧ p = p ∧ q = q ∧ ((ds10_36 a c f k p q g X0) ∧ True) ∧ (∀ (K : KO XN),
 (fun X1 : Prop => (ds10_36 a c f k p q g X1) ∧ True → a = a ∧ Value.pointer none = Value.pointer none ∧ c = c ∧ Value.pointer none = Value.pointer none ∧ f = f ∧ Value.pointer none
 = Value.pointer none ∧ ([] : List (Int × Value)) = [] ∧ k = k ∧ p = p ∧ q = q ∧ ((ds10_25 g) ∧ X1 ∧ True) ∧ True) (K (SF.mk 92 (np 95 0 (ds10_9 k hk p hp q hq g) (ds10_30 k hk p
 hp)) []) (Mem.mk [(1, SO.cells (ds10_2 a b c d e f g) 75), (2, SO.cells (ds10_1 k hk p hp q hq) 77), (45, SO.cells (ds10_2 a b c d e f g) 75), (51, SO.cells (ds10_2 a b c d e f g)
 75), (83, SO.cells [SC.int false .u64 a, SC.raw (Value.pointer none)] 199), (87, SO.cells [SC.int false .u64 c, SC.raw (Value.pointer none)] 199), (91, SO.cells [SC.int false .u64
 f, SC.raw (Value.pointer none)] 199), (93, SO.mp true []), (95, SO.cells [SC.int false .u64 a, SC.int false .i64 b, SC.int false .u64 c, SC.int false .i64 d, SC.int false .i64 e,
 SC.int false .u64 f, si .i64 (g + (1 : Int)), sp 83 0, sp 87 0, sp 91 0, SC.map 93, SC.nls, SC.nls, SC.nls, SC.int false .u64 f] 204), (109, SO.cells (ds10_1 k hk p hp q hq) 77),
 (110, SO.cells [SC.int true .i64 (0 : Int), SC.int true .i64 (0 : Int)] 82), (128, SO.cells [SC.int true .i64 (0 : Int), SC.int true .i64 (0 : Int)] 82), (141, SO.cells (ds10_1 k hk
 p hp q hq) 77), (142, SO.cells [SC.int true .i64 (0 : Int), SC.int true .i64 (0 : Int)] 82), (162, SO.cells [SC.int false .u64 f, SC.raw (Value.pointer none)] 199), (170, SO.cells
 [SC.int false .u64 f, SC.raw (Value.pointer none)] 199), (223, SO.cells [SC.int false .u64 f, SC.raw (Value.pointer none)] 199), (231, SO.cells [SC.int false .u64 f, SC.raw
 (Value.pointer none)] 199), (251, SO.cells [SC.int true .u64 (0 : Int), SC.raw (Value.pointer none)] 199), (254, SO.cells [SC.int false .u64 f, SC.raw (Value.pointer none)] 199),
 (255, SO.cells [SC.int true .u64 (0 : Int), SC.raw (Value.pointer none)] 199), (270, SO.cells (ds10_4) 87)] 327) Scr.nil)) ∧ True) (K (SF.mk 92 (np 95 0 (ds10_9 k hk p hp q hq g)
 (ds10_30 k hk p hp)) []) (Mem.mk [(1, SO.cells (ds10_2 a b c d e f g) 75), (2, SO.cells (ds10_1 k hk p hp q hq) 77), (45, SO.cells (ds10_2 a b c d e f g) 75), (51, SO.cells (ds10_2
 a b c d e f g) 75), (83, SO.cells [SC.int false .u64 a, SC.raw (Value.pointer none)] 199), (87, SO.cells [SC.int false .u64 c, SC.raw (Value.pointer none)] 199), (91, SO.cells
 [SC.int false .u64 f, SC.raw (Value.pointer none)] 199), (93, SO.mp true []), (95, SO.cells [SC.int false .u64 a, SC.int false .i64 b, SC.int false .u64 c, SC.int false .i64 d,
 SC.int false .i64 e, SC.int false .u64 f, si .i64 (g + (1 : Int)), sp 83 0, sp 87 0, sp 91 0, SC.map 93, SC.nls, SC.nls, SC.nls, SC.int false .u64 f] 204), (109, SO.cells (ds10_1 k
 hk p hp q hq) 77), (110, SO.cells [SC.int true .i64 (0 : Int), SC.int true .i64 (0 : Int)] 82), (128, SO.cells [SC.int true .i64 (0 : Int), SC.int true .i64 (0 : Int)] 82), (141,
 SO.cells (ds10_1 k hk p hp q hq) 77), (142, SO.cells [SC.int true .i64 (0 : Int), SC.int true .i64 (0 : Int)] 82), (162, SO.cells [SC.int false .u64 f, SC.raw (Value.pointer none)]
 199), (170, SO.cells [SC.int false .u64 f, SC.raw (Value.pointer none)] 199), (223, SO.cells [SC.int false .u64 f, SC.raw (Value.pointer none)] 199), (231, SO.cells [SC.int false
 .u64 f, SC.raw (Value.pointer none)] 199), (251, SO.cells [SC.int true .u64 (0 : Int), SC.raw (Value.pointer none)] 199), (254, SO.cells [SC.int false .u64 f, SC.raw (Value.pointer
 none)] 199), (255, SO.cells [SC.int true .u64 (0 : Int), SC.raw (Value.pointer none)] 199), (270, SO.cells (ds10_4) 87)] 327) Scr.nil)) ∧ True) ∧ True) ∧ True) ∧ True) ∧ True) ∧ (∀
 (K : KO XN), (fun X0 : Prop => (ds10_12 a c f b d e g X0) ∧ True → ds10_5 a c f b d e g X0) (K (ds10_7 f k) (Mem.mk [(1, SO.cells (ds10_2 a b c d e f g) 75), (2, SO.cells (ds10_1 k
 hk p hp q hq) 77), (45, SO.cells (ds10_2 a b c d e f g) 75), (51, SO.cells (ds10_2 a b c d e f g) 75), (83, SO.cells [SC.int false .u64 a, SC.raw (Value.pointer none)] 199), (87,
 SO.cells [SC.int false .u64 c, SC.raw (Value.pointer none)] 199), (91, SO.cells [SC.int false .u64 f, SC.raw (Value.pointer none)] 199), (93, SO.mp true []), (95, SO.cells (ds10_13
 a b c d e f g) 204), (109, SO.cells (ds10_1 k hk p hp q hq) 77), (110, SO.cells [SC.int true .i64 (0 : Int), SC.int true .i64 (0 : Int)] 82), (128, SO.cells [SC.int true .i64 (0 :
 Int), SC.int true .i64 (0 : Int)] 82), (141, SO.cells (ds10_1 k hk p hp q hq) 77), (142, SO.cells [SC.int true .i64 (0 : Int), SC.int true .i64 (0 : Int)] 82), (162, SO.cells
 [SC.int false .u64 f, SC.raw (Value.pointer none)] 199), (170, SO.cells [SC.int false .u64 f, SC.raw (Value.pointer none)] 199), (223, SO.cells [SC.int false .u64 f, SC.raw
 (Value.pointer none)] 199), (231, SO.cells [SC.int false .u64 f, SC.raw (Value.pointer none)] 199), (254, SO.cells [SC.int false .u64 f, SC.raw (Value.pointer none)] 199), (255,
 SO.cells [SC.int true .u64 (0 : Int), SC.raw (Value.pointer none)] 199), (270, SO.cells (ds10_4) 87)] 260) Scr.nil)) ∧ True) ∧ (∀ (K : KO XN), (fun X0 : Prop => (ds10_20 a c f b d e
 g X0) ∧ (ds10_27 a c f b d e g k hk p hp q hq) ∧ True → ds10_21 a c f b d e g X0 k hk p hp q hq) (K (ds10_23 f k hk) (Mem.mk [(1, SO.cells (ds10_2 a b c d e f g) 75), (2, SO.cells
 (ds10_1 k hk p hp q hq) 77), (45, SO.cells (ds10_2 a b c d e f g) 75), (51, SO.cells (ds10_2 a b c d e f g) 75), (83, SO.cells [SC.int false .u64 a, SC.raw (Value.pointer none)]
 199), (87, SO.cells [SC.int false .u64 c, SC.raw (Value.pointer none)] 199), (91, SO.cells [SC.int false .u64 f, SC.raw (Value.pointer none)] 199), (93, SO.mp true []), (95,
 SO.cells (ds10_28 a b c d e f g) 204), (109, SO.cells (ds10_1 k hk p hp q hq) 77), (110, SO.cells [SC.int true .i64 (0 : Int), SC.int true .i64 (0 : Int)] 82), (128, SO.cells
 [SC.int true .i64 (0 : Int), SC.int true .i64 (0 : Int)] 82), (141, SO.cells (ds10_1 k hk p hp q hq) 77), (142, SO.cells [SC.int true .i64 (0 : Int), SC.int true .i64 (0 : Int)]
 82), (162, SO.cells [SC.int false .u64 f, SC.raw (Value.pointer none)] 199), (170, SO.cells [SC.int false .u64 f, SC.raw (Value.pointer none)] 199), (223, SO.cells [SC.int false
 .u64 f, SC.raw (Value.pointer none)] 199), (231, SO.cells [SC.int false .u64 f, SC.raw (Value.pointer none)] 199), (251, SO.cells [SC.int true .u64 (0 : Int), SC.raw (Value.pointer
 none)] 199), (254, SO.cells [SC.int false .u64 f, SC.raw (Value.pointer none)] 199), (255, SO.cells [SC.int true .u64 (0 : Int), SC.raw (Value.pointer none)] 199), (270, SO.cells
 (ds10_4) 87)] 284) Scr.nil)) ∧ True) ∧ True) ∧ (∀ (K : KO XN), (fun X0 : Prop => True ∧ (∀ (z : Un), True → a = a ∧ Value.pointer none = Value.pointer none ∧ c = c ∧ Value.pointer
 none = Value.pointer none ∧ f = f ∧ Value.pointer none = Value.pointer none ∧ ([] : List (Int × Value)) = [] ∧ a = a ∧ b = b ∧ c = c ∧ d = d ∧ e = e ∧ f = f ∧ g = g ∧ f = f ∧
 Value.pointer none = Value.pointer none ∧ ((ds10_20 a c f b d e g X0) ∧ (ds10_27 a c f b d e g k hk p hp q hq) ∧ True) ∧ (∀ (K : KO XN), (fun X1 : Prop => (ds10_20 a c f b d e g X1)
 ∧ (∀ (K : KO XN), (fun X2 : Prop => (ds10_12 a c f b d e g X2) ∧ True → ds10_5 a c f b d e g X2) (K (ds10_7 f k) (Mem.mk [(1, SO.cells (ds10_2 a b c d e f g) 75), (2, SO.cells
 (ds10_1 k hk p hp q hq) 77), (45, SO.cells (ds10_2 a b c d e f g) 75), (51, SO.cells (ds10_2 a b c d e f g) 75), (83, SO.cells [SC.int false .u64 a, SC.raw (Value.pointer none)]
 199), (87, SO.cells [SC.int false .u64 c, SC.raw (Value.pointer none)] 199), (91, SO.cells [SC.int false .u64 f, SC.raw (Value.pointer none)] 199), (93, SO.mp true []), (95,
 SO.cells (ds10_13 a b c d e f g) 204), (109, SO.cells (ds10_1 k hk p hp q hq) 77), (110, SO.cells [SC.int true .i64 (0 : Int), SC.int true .i64 (0 : Int)] 82), (128, SO.cells
 [SC.int true .i64 (0 : Int), SC.int true .i64 (0 : Int)] 82), (141, SO.cells (ds10_1 k hk p hp q hq) 77), (142, SO.cells [SC.int true .i64 (0 : Int), SC.int true .i64 (0 : Int)]
 82), (162, SO.cells [SC.int false .u64 f, SC.raw (Value.pointer none)] 199), (170, SO.cells [SC.int false .u64 f, SC.raw (Value.pointer none)] 199), (223, SO.cells [SC.int false
 .u64 f, SC.raw (Value.pointer none)] 199), (231, SO.cells [SC.int false .u64 f, SC.raw (Value.pointer none)] 199), (254, SO.cells [SC.int false .u64 f, SC.raw (Value.pointer none)]
 199), (255, SO.cells [SC.int true .u64 (0 : Int), SC.raw (Value.pointer none)] 199), (270, SO.cells (ds10_4) 87)] 260) Scr.nil)) ∧ True → a = a ∧ Value.pointer none = Value.pointer
 none ∧ c = c ∧ Value.pointer none = Value.pointer none ∧ f = f ∧ Value.pointer none = Value.pointer none ∧ ([] : List (Int × Value)) = [] ∧ a = a ∧ b = b ∧ c = c ∧ d = d ∧ e = e ∧ f
 = f ∧ g = g ∧ f = f ∧ Value.pointer none = Value.pointer none ∧ (((ds10_5 a c f b d e g X1) ∧ True) ∧ (∀ (K : KO XN), (fun X2 : Prop => (ds10_12 a c f b d e g X2) ∧ True → ds10_5 a
 c f b d e g X2) (K (ds10_7 f k) (Mem.mk [(1, SO.cells (ds10_2 a b c d e f g) 75), (2, SO.cells (ds10_1 k hk p hp q hq) 77), (45, SO.cells (ds10_2 a b c d e f g) 75), (51, SO.cells
 (ds10_2 a b c d e f g) 75), (83, SO.cells [SC.int false .u64 a, SC.raw (Value.pointer none)] 199), (87, SO.cells [SC.int false .u64 c, SC.raw (Value.pointer none)] 199), (91,
 SO.cells [SC.int false .u64 f, SC.raw (Value.pointer none)] 199), (93, SO.mp true []), (95, SO.cells (ds10_13 a b c d e f g) 204), (109, SO.cells (ds10_1 k hk p hp q hq) 77), (110,
 SO.cells [SC.int true .i64 (0 : Int), SC.int true .i64 (0 : Int)] 82), (128, SO.cells [SC.int true .i64 (0 : Int), SC.int true .i64 (0 : Int)] 82), (141, SO.cells (ds10_1 k hk p hp
 q hq) 77), (142, SO.cells [SC.int true .i64 (0 : Int), SC.int true .i64 (0 : Int)] 82), (162, SO.cells [SC.int false .u64 f, SC.raw (Value.pointer none)] 199), (170, SO.cells
 [SC.int false .u64 f, SC.raw (Value.pointer none)] 199), (223, SO.cells [SC.int false .u64 f, SC.raw (Value.pointer none)] 199), (231, SO.cells [SC.int false .u64 f, SC.raw
 (Value.pointer none)] 199), (251, SO.cells [SC.int true .u64 (0 : Int), SC.raw (Value.pointer none)] 199), (254, SO.cells [SC.int false .u64 f, SC.raw (Value.pointer none)] 199),
 (255, SO.cells [SC.int true .u64 (0 : Int), SC.raw (Value.pointer none)] 199), (270, SO.cells (ds10_4) 87)] 260) Scr.nil)) ∧ True) ∧ True) (K (ds10_23 f k hk) (Mem.mk [(1, SO.cells
 (ds10_2 a b c d e f g) 75), (2, SO.cells (ds10_1 k hk p hp q hq) 77), (45, SO.cells (ds10_2 a b c d e f g) 75), (51, SO.cells (ds10_2 a b c d e f g) 75), (83, SO.cells [SC.int false
 .u64 a, SC.raw (Value.pointer none)] 199), (87, SO.cells [SC.int false .u64 c, SC.raw (Value.pointer none)] 199), (91, SO.cells [SC.int false .u64 f, SC.raw (Value.pointer none)]
 199), (93, SO.mp true []), (95, SO.cells (ds10_28 a b c d e f g) 204), (109, SO.cells (ds10_1 k hk p hp q hq) 77), (110, SO.cells [SC.int true .i64 (0 : Int), SC.int true .i64 (0 :
 Int)] 82), (128, SO.cells [SC.int true .i64 (0 : Int), SC.int true .i64 (0 : Int)] 82), (141, SO.cells (ds10_1 k hk p hp q hq) 77), (142, SO.cells [SC.int true .i64 (0 : Int),
 SC.int true .i64 (0 : Int)] 82), (162, SO.cells [SC.int false .u64 f, SC.raw (Value.pointer none)] 199), (170, SO.cells [SC.int false .u64 f, SC.raw (Value.pointer none)] 199),
 (223, SO.cells [SC.int false .u64 f, SC.raw (Value.pointer none)] 199), (231, SO.cells [SC.int false .u64 f, SC.raw (Value.pointer none)] 199), (251, SO.cells [SC.int true .u64 (0 :
 Int), SC.raw (Value.pointer none)] 199), (254, SO.cells [SC.int false .u64 f, SC.raw (Value.pointer none)] 199), (255, SO.cells [SC.int true .u64 (0 : Int), SC.raw (Value.pointer
 none)] 199), (270, SO.cells (ds10_4) 87)] 284) Scr.nil)) ∧ True) ∧ True → a = a ∧ Value.pointer none = Value.pointer none ∧ c = c ∧ Value.pointer none = Value.pointer none ∧ f = f ∧
 Value.pointer none = Value.pointer none ∧ ([] : List (Int × Value)) = [] ∧ a = a ∧ b = b ∧ c = c ∧ d = d ∧ e = e ∧ f = f ∧ g = g ∧ f = f ∧ Value.pointer none = Value.pointer none ∧
 (True ∧ (∀ (z : Un), True → ds10_21 a c f b d e g X0 k hk p hp q hq) ∧ True) ∧ True) (K (ds10_23 f k hk) (Mem.mk [(1, SO.cells (ds10_2 a b c d e f g) 75), (2, SO.cells (ds10_1 k hk
 p hp q hq) 77), (45, SO.cells (ds10_2 a b c d e f g) 75), (51, SO.cells (ds10_2 a b c d e f g) 75), (83, SO.cells [SC.int false .u64 a, SC.raw (Value.pointer none)] 199), (87,
 SO.cells [SC.int false .u64 c, SC.raw (Value.pointer none)] 199), (91, SO.cells [SC.int false .u64 f, SC.raw (Value.pointer none)] 199), (93, SO.mp true []), (95, SO.cells (ds10_28
 a b c d e f g) 204), (109, SO.cells (ds10_1 k hk p hp q hq) 77), (110, SO.cells [SC.int true .i64 (0 : Int), SC.int true .i64 (0 : Int)] 82), (128, SO.cells [SC.int true .i64 (0 :
 Int), SC.int true .i64 (0 : Int)] 82), (141, SO.cells (ds10_1 k hk p hp q hq) 77), (142, SO.cells [SC.int true .i64 (0 : Int), SC.int true .i64 (0 : Int)] 82), (162, SO.cells
 [SC.int false .u64 f, SC.raw (Value.pointer none)] 199), (170, SO.cells [SC.int false .u64 f, SC.raw (Value.pointer none)] 199), (223, SO.cells [SC.int false .u64 f, SC.raw
 (Value.pointer none)] 199), (231, SO.cells [SC.int false .u64 f, SC.raw (Value.pointer none)] 199), (251, SO.cells [SC.int true .u64 (0 : Int), SC.raw (Value.pointer none)] 199),
 (254, SO.cells [SC.int false .u64 f, SC.raw (Value.pointer none)] 199), (255, SO.cells [SC.int true .u64 (0 : Int), SC.raw (Value.pointer none)] 199), (270, SO.cells (ds10_4) 87)]
 284) Scr.nil)) ∧ True)) ∧ True) ∧ True) ∧ ((f == (0 : Int)) = false → (True ∧ (∀ (z : Un), True → a = a ∧ Value.pointer none = Value.pointer none ∧ c = c ∧ Value.pointer none =
 Value.pointer none ∧ f = f ∧ Value.pointer none = Value.pointer none ∧ ([] : List (Int × Value)) = [] ∧ a = a ∧ b = b ∧ c = c ∧ d = d ∧ e = e ∧ f = f ∧ g = g ∧ f = f ∧ Value.pointer
 none = Value.pointer none ∧ (((a = a ∧ Value.pointer none = Value.pointer none ∧ c = c ∧ Value.pointer none = Value.pointer none ∧ f = f ∧ Value.pointer none = Value.pointer none ∧
 ([] : List (Int × Value)) = [] ∧ a = a ∧ b = b ∧ c = c ∧ d = d ∧ e = e ∧ f = f ∧ g = g ∧ f = f ∧ Value.pointer none = Value.pointer none ∧ (((((f != (0 : Int)) = true → (a = a ∧
 Value.pointer none = Value.pointer none ∧ c = c ∧ Value.pointer none = Value.pointer none ∧ f = f ∧ Value.pointer none = Value.pointer none ∧ ([] : List (Int × Value)) = [] ∧ a = a
 ∧ b = b ∧ c = c ∧ d = d ∧ e = e ∧ f = f ∧ g = g ∧ f = f ∧ ((f != (0 : Int)) = true → ((true == (a == a && (b == b && (c == c && (d == d && (e == e && (f == f && (g == g &&
 true)))))))) = true → true = true) ∧ ((true == (a == a && (b == b && (c == c && (d == d && (e == e && (f == f && (g == g && true)))))))) = false → false = true)) ∧ ((f != (0 : Int))
 = false → ds10_19 a b c e d)) ∧ True) ∧ ((f != (0 : Int)) = false → ds10_19 a b c e d)) ∧ True) ∧ True) ∧ True) ∧ True) ∧ (∀ (K : KO XN), (fun X0 : Prop => (ds10_12 a c f b d e g
 X0) ∧ True → ds10_5 a c f b d e g X0) (K (ds10_8 f k) (Mem.mk [(1, SO.cells (ds10_2 a b c d e f g) 75), (2, SO.cells (ds10_1 k hk p hp q hq) 77), (45, SO.cells (ds10_2 a b c d e f
 g) 75), (51, SO.cells (ds10_2 a b c d e f g) 75), (83, SO.cells [SC.int false .u64 a, SC.raw (Value.pointer none)] 199), (87, SO.cells [SC.int false .u64 c, SC.raw (Value.pointer
 none)] 199), (91, SO.cells [SC.int false .u64 f, SC.raw (Value.pointer none)] 199), (93, SO.mp true []), (95, SO.cells (ds10_13 a b c d e f g) 204), (109, SO.cells (ds10_1 k hk p hp
 q hq) 77), (110, SO.cells [SC.int true .i64 (0 : Int), SC.int true .i64 (0 : Int)] 82), (128, SO.cells [SC.int true .i64 (0 : Int), SC.int true .i64 (0 : Int)] 82), (141, SO.cells
 (ds10_1 k hk p hp q hq) 77), (142, SO.cells [SC.int true .i64 (0 : Int), SC.int true .i64 (0 : Int)] 82), (162, SO.cells [SC.int false .u64 f, SC.raw (Value.pointer none)] 199),
 (170, SO.cells [SC.int false .u64 f, SC.raw (Value.pointer none)] 199), (193, SO.cells [SC.int false .u64 f, SC.raw (Value.pointer none)] 199), (194, SO.cells [SC.int true .u64 (0 :
 Int), SC.raw (Value.pointer none)] 199), (209, SO.cells (ds10_4) 87)] 199) Scr.nil)) ∧ True) ∧ (∀ (K : KO XN), (fun X0 : Prop => (ds10_20 a c f b d e g X0) ∧ (ds10_29 a c f b d e g
 k hk p hp q hq) ∧ True → ds10_22 a c f b d e g X0 k hk p hp q hq) (K (ds10_24 f k hk) (Mem.mk [(1, SO.cells (ds10_2 a b c d e f g) 75), (2, SO.cells (ds10_1 k hk p hp q hq) 77),
 (45, SO.cells (ds10_2 a b c d e f g) 75), (51, SO.cells (ds10_2 a b c d e f g) 75), (83, SO.cells [SC.int false .u64 a, SC.raw (Value.pointer none)] 199), (87, SO.cells [SC.int
 false .u64 c, SC.raw (Value.pointer none)] 199), (91, SO.cells [SC.int false .u64 f, SC.raw (Value.pointer none)] 199), (93, SO.mp true []), (95, SO.cells (ds10_28 a b c d e f g)
 204), (109, SO.cells (ds10_1 k hk p hp q hq) 77), (110, SO.cells [SC.int true .i64 (0 : Int), SC.int true .i64 (0 : Int)] 82), (128, SO.cells [SC.int true .i64 (0 : Int), SC.int
 true .i64 (0 : Int)] 82), (141, SO.cells (ds10_1 k hk p hp q hq) 77), (142, SO.cells [SC.int true .i64 (0 : Int), SC.int true .i64 (0 : Int)] 82), (162, SO.cells [SC.int false .u64
 f, SC.raw (Value.pointer none)] 199), (170, SO.cells [SC.int false .u64 f, SC.raw (Value.pointer none)] 199), (190, SO.cells [SC.int true .u64 (0 : Int), SC.raw (Value.pointer
 none)] 199), (193, SO.cells [SC.int false .u64 f, SC.raw (Value.pointer none)] 199), (194, SO.cells [SC.int true .u64 (0 : Int), SC.raw (Value.pointer none)] 199), (209, SO.cells
 (ds10_4) 87)] 223) Scr.nil)) ∧ True) ∧ True) ∧ (∀ (K : KO XN), (fun X0 : Prop => True ∧ (∀ (z : Un), True → a = a ∧ Value.pointer none = Value.pointer none ∧ c = c ∧ Value.pointer
 none = Value.pointer none ∧ f = f ∧ Value.pointer none = Value.pointer none ∧ ([] : List (Int × Value)) = [] ∧ a = a ∧ b = b ∧ c = c ∧ d = d ∧ e = e ∧ f = f ∧ g = g ∧ f = f ∧
 Value.pointer none = Value.pointer none ∧ ((ds10_20 a c f b d e g X0) ∧ (ds10_29 a c f b d e g k hk p hp q hq) ∧ True) ∧ (∀ (K : KO XN), (fun X1 : Prop => (ds10_20 a c f b d e g X1)
 ∧ (∀ (K : KO XN), (fun X2 : Prop => (ds10_12 a c f b d e g X2) ∧ True → ds10_5 a c f b d e g X2) (K (ds10_8 f k) (Mem.mk [(1, SO.cells (ds10_2 a b c d e f g) 75), (2, SO.cells
 (ds10_1 k hk p hp q hq) 77), (45, SO.cells (ds10_2 a b c d e f g) 75), (51, SO.cells (ds10_2 a b c d e f g) 75), (83, SO.cells [SC.int false .u64 a, SC.raw (Value.pointer none)]
 199), (87, SO.cells [SC.int false .u64 c, SC.raw (Value.pointer none)] 199), (91, SO.cells [SC.int false .u64 f, SC.raw (Value.pointer none)] 199), (93, SO.mp true []), (95,
 SO.cells (ds10_13 a b c d e f g) 204), (109, SO.cells (ds10_1 k hk p hp q hq) 77), (110, SO.cells [SC.int true .i64 (0 : Int), SC.int true .i64 (0 : Int)] 82), (128, SO.cells
 [SC.int true .i64 (0 : Int), SC.int true .i64 (0 : Int)] 82), (141, SO.cells (ds10_1 k hk p hp q hq) 77), (142, SO.cells [SC.int true .i64 (0 : Int), SC.int true .i64 (0 : Int)]
 82), (162, SO.cells [SC.int false .u64 f, SC.raw (Value.pointer none)] 199), (170, SO.cells [SC.int false .u64 f, SC.raw (Value.pointer none)] 199), (193, SO.cells [SC.int false
 .u64 f, SC.raw (Value.pointer none)] 199), (194, SO.cells [SC.int true .u64 (0 : Int), SC.raw (Value.pointer none)] 199), (209, SO.cells (ds10_4) 87)] 199) Scr.nil)) ∧ True → a = a
 ∧ Value.pointer none = Value.pointer none ∧ c = c ∧ Value.pointer none = Value.pointer none ∧ f = f ∧ Value.pointer none = Value.pointer none ∧ ([] : List (Int × Value)) = [] ∧ a =
 a ∧ b = b ∧ c = c ∧ d = d ∧ e = e ∧ f = f ∧ g = g ∧ f = f ∧ Value.pointer none = Value.pointer none ∧ (((ds10_5 a c f b d e g X1) ∧ True) ∧ (∀ (K : KO XN), (fun X2 : Prop =>
 (ds10_12 a c f b d e g X2) ∧ True → ds10_5 a c f b d e g X2) (K (ds10_8 f k) (Mem.mk [(1, SO.cells (ds10_2 a b c d e f g) 75), (2, SO.cells (ds10_1 k hk p hp q hq) 77), (45,
 SO.cells (ds10_2 a b c d e f g) 75), (51, SO.cells (ds10_2 a b c d e f g) 75), (83, SO.cells [SC.int false .u64 a, SC.raw (Value.pointer none)] 199), (87, SO.cells [SC.int false
 .u64 c, SC.raw (Value.pointer none)] 199), (91, SO.cells [SC.int false .u64 f, SC.raw (Value.pointer none)] 199), (93, SO.mp true []), (95, SO.cells (ds10_13 a b c d e f g) 204),
 (109, SO.cells (ds10_1 k hk p hp q hq) 77), (110, SO.cells [SC.int true .i64 (0 : Int), SC.int true .i64 (0 : Int)] 82), (128, SO.cells [SC.int true .i64 (0 : Int), SC.int true .i64
 (0 : Int)] 82), (141, SO.cells (ds10_1 k hk p hp q hq) 77), (142, SO.cells [SC.int true .i64 (0 : Int), SC.int true .i64 (0 : Int)] 82), (162, SO.cells [SC.int false .u64 f, SC.raw
 (Value.pointer none)] 199), (170, SO.cells [SC.int false .u64 f, SC.raw (Value.pointer none)] 199), (190, SO.cells [SC.int true .u64 (0 : Int), SC.raw (Value.pointer none)] 199),
 (193, SO.cells [SC.int false .u64 f, SC.raw (Value.pointer none)] 199), (194, SO.cells [SC.int true .u64 (0 : Int), SC.raw (Value.pointer none)] 199), (209, SO.cells (ds10_4) 87)]
 199) Scr.nil)) ∧ True) ∧ True) (K (ds10_24 f k hk) (Mem.mk [(1, SO.cells (ds10_2 a b c d e f g) 75), (2, SO.cells (ds10_1 k hk p hp q hq) 77), (45, SO.cells (ds10_2 a b c d e f g)
 75), (51, SO.cells (ds10_2 a b c d e f g) 75), (83, SO.cells [SC.int false .u64 a, SC.raw (Value.pointer none)] 199), (87, SO.cells [SC.int false .u64 c, SC.raw (Value.pointer
 none)] 199), (91, SO.cells [SC.int false .u64 f, SC.raw (Value.pointer none)] 199), (93, SO.mp true []), (95, SO.cells (ds10_28 a b c d e f g) 204), (109, SO.cells (ds10_1 k hk p hp
 q hq) 77), (110, SO.cells [SC.int true .i64 (0 : Int), SC.int true .i64 (0 : Int)] 82), (128, SO.cells [SC.int true .i64 (0 : Int), SC.int true .i64 (0 : Int)] 82), (141, SO.cells
 (ds10_1 k hk p hp q hq) 77), (142, SO.cells [SC.int true .i64 (0 : Int), SC.int true .i64 (0 : Int)] 82), (162, SO.cells [SC.int false .u64 f, SC.raw (Value.pointer none)] 199),
 (170, SO.cells [SC.int false .u64 f, SC.raw (Value.pointer none)] 199), (190, SO.cells [SC.int true .u64 (0 : Int), SC.raw (Value.pointer none)] 199), (193, SO.cells [SC.int false
 .u64 f, SC.raw (Value.pointer none)] 199), (194, SO.cells [SC.int true .u64 (0 : Int), SC.raw (Value.pointer none)] 199), (209, SO.cells (ds10_4) 87)] 223) Scr.nil)) ∧ True) ∧ True
 → a = a ∧ Value.pointer none = Value.pointer none ∧ c = c ∧ Value.pointer none = Value.pointer none ∧ f = f ∧ Value.pointer none = Value.pointer none ∧ ([] : List (Int × Value)) =
 [] ∧ a = a ∧ b = b ∧ c = c ∧ d = d ∧ e = e ∧ f = f ∧ g = g ∧ f = f ∧ Value.pointer none = Value.pointer none ∧ (True ∧ (∀ (z : Un), True → ds10_22 a c f b d e g X0 k hk p hp q hq) ∧
 True) ∧ True) (K (ds10_24 f k hk) (Mem.mk [(1, SO.cells (ds10_2 a b c d e f g) 75), (2, SO.cells (ds10_1 k hk p hp q hq) 77), (45, SO.cells (ds10_2 a b c d e f g) 75), (51, SO.cells
 (ds10_2 a b c d e f g) 75), (83, SO.cells [SC.int false .u64 a, SC.raw (Value.pointer none)] 199), (87, SO.cells [SC.int false .u64 c, SC.raw (Value.pointer none)] 199), (91,
 SO.cells [SC.int false .u64 f, SC.raw (Value.pointer none)] 199), (93, SO.mp true []), (95, SO.cells (ds10_28 a b c d e f g) 204), (109, SO.cells (ds10_1 k hk p hp q hq) 77), (110,
 SO.cells [SC.int true .i64 (0 : Int), SC.int true .i64 (0 : Int)] 82), (128, SO.cells [SC.int true .i64 (0 : Int), SC.int true .i64 (0 : Int)] 82), (141, SO.cells (ds10_1 k hk p hp
 q hq) 77), (142, SO.cells [SC.int true .i64 (0 : Int), SC.int true .i64 (0 : Int)] 82), (162, SO.cells [SC.int false .u64 f, SC.raw (Value.pointer none)] 199), (170, SO.cells
 [SC.int false .u64 f, SC.raw (Value.pointer none)] 199), (190, SO.cells [SC.int true .u64 (0 : Int), SC.raw (Value.pointer none)] 199), (193, SO.cells [SC.int false .u64 f, SC.raw
 (Value.pointer none)] 199), (194, SO.cells [SC.int true .u64 (0 : Int), SC.raw (Value.pointer none)] 199), (209, SO.cells (ds10_4) 87)] 223) Scr.nil)) ∧ True))) ∧ True)) ∧ (decide
 (max (max b e) g ≤ (256 : Int)) = false → true = true)) ∧ (decide (min (min (min b e) g) d ≥ (0 : Int)) = false → true = true)) := by
  kernel_rfl
theorem ds10_run (a b c d e f g : Int) (k p q : Int) (hk : 0 ≤ k ∧ k ≤ 255) (hp : 0 ≤ p ∧ p ≤ 1023) (hq : 0 ≤ q ∧ q ≤ 1023) (hc : DsOk a b c d e f g) : Run (callN Try.prog (tblDS : List (Smry Try.prog XN)) (fun _ _ => false) 100 20 4 [.agg [.int false .u64 a, .int false .i64 b, .int false .u64 c, .int false .i64 d, .int false .i64 e, .int false .u64 f, .int false .i64 g], .agg [.int true .i64 10, .int false .i64 k (.w 0 255 hk), .int false .i64 p (.w 0 1023 hp), .int false .i64 q (.w 0 1023 hq)]] ⟨[], 1⟩ (.cut 4 (liveL [2, 3, 4, 5, 6, 8, 9, 11, 13, 131]) [] Unit (fun _ _ => ([], [])) .nil fun _ => .nil) (fun v _ _ => retTrue v)) := by
  constructor
  rw [ds10_vc]
  delta ds10_1 ds10_2 ds10_3 ds10_4 ds10_5 ds10_26 ds10_35 ds10_41 ds10_47 ds10_34 ds10_6 ds10_42 ds10_38 ds10_46 ds10_7 ds10_8 ds10_9 ds10_10 ds10_11 ds10_12 ds10_13 ds10_14 ds10_15 ds10_16 ds10_17 ds10_18 ds10_19 ds10_20 ds10_21 ds10_22 ds10_23 ds10_24 ds10_25 ds10_27 ds10_28 ds10_29 ds10_30 ds10_31 ds10_32 ds10_33 ds10_36 ds10_37 ds10_39 ds10_40 ds10_43 ds10_44 ds10_45 ds10_48 ds10_49
  obtain ⟨⟨⟨ha0, ha1⟩, ⟨hb0, hb1⟩, hc0, hc1⟩, ⟨hd0, hd1⟩, ⟨he0, he1⟩, ⟨hf0, hf1⟩, hg0, hg1⟩ := hc
  repeat' first
    | (refine fun (K : KO XN) => ?_; simp only [eq_self, true_and, and_true, imp_self, implies_true]; first | done | exact id; done)
    | with_reducible apply And.intro
    | with_reducible exact trivial
    | with_reducible exact Eq.refl _
    | (with_reducible refine Exists.intro () ?_)
    | (intro h; simp only [bne_self_eq_false, Bool.false_eq_true] at h; done)
    | intro _
  all_goals first
    | omega
    | exact (dkF_bd _ _).1
    | (refine Int.lt_of_le_of_lt (dkF_bd _ _).2 ?_; omega)
    | exact ds_tn _ _
    | exact (ds_no (dkF_bd _ 3) hp.1 (by assumption)).elim
    | with_reducible assumption
    | (simp only [Bool.not_eq_false', Bool.not_eq_true', decide_eq_true_eq, decide_eq_false_iff_not] at *; omega)
    | (simp_all; done)
end Go.Proofs.Ytnkikhhiaecebaa
