/- DraftShares, code 6. -/
import Derived.Test.YtnkikhhiaecebaaDsT
import Derived.Test.YtnkikhhiaecebaaBaseC
set_option linter.all false
namespace Go.Proofs.Ytnkikhhiaecebaa
open Go Go.RowKit
set_option maxRecDepth 1000000
set_option maxHeartbeats 0
def ds6_1 (k : Int) (hk : 0 ≤ k ∧ k ≤ 255) (p : Int) (hp : 0 ≤ p ∧ p ≤ 1023) (q : Int) (hq : 0 ≤ q ∧ q ≤ 1023) : List SC := [SC.int true .i64 (6 : Int), SC.int false .i64 k (Bd.w (0
 : Int) (255 : Int) hk), SC.int false .i64 p (Bd.w (0 : Int) (1023 : Int) hp), SC.int false .i64 q (Bd.w (0 : Int) (1023 : Int) hq)]
def ds6_2 (a b c d e f g : Int) : List SC := [SC.int false .u64 a, SC.int false .i64 b, SC.int false .u64 c, SC.int false .i64 d, SC.int false .i64 e, SC.int false .u64 f, SC.int
 false .i64 g]
def ds6_20  : List SC := [SC.int true .u64 (0 : Int), SC.int true .u64 (0 : Int), SC.int true .u64 (0 : Int), SC.int true .u64 (0 : Int)]
def ds6_24  : ST := nu (nv (SV.c (tb false)) (nu (np 95 10 tn tn) nu0) (nu nu0 tn)) (nv (SV.c (SC.raw (Value.pointer none))) (nu (nv (SV.tup [(true, (ds6_20)), (false, [tb false])])
 tn tn) tn) (nu nu0 tn))
def ds6_23 (k : Int) : SV := SV.c (SC.int false .i64 (dkF k (0 : Int)) (Bd.w (0 : Int) (3 : Int) (dkF_bd k (Int.ofNat 0))))
def ds6_27  : ST := nv (SV.c (tb false)) (nu (nv (SV.agg (ds6_20)) tn tn) tn) (nv (SV.tup [(true, (ds6_20)), (false, [tb false])]) nu0 tn)
def ds6_3 (a k : Int) : SF := SF.mk 50 (np 95 0 (nv (SV.agg [SC.int false .u64 a, SC.raw (Value.pointer none)]) (ds6_24) (nu (nv (SV.c (tb false)) (nu (np 255 0 tn tn) nu0) (nu nu0
 tn)) (nu (nu (nv (SV.c (tb false)) tn tn) tn) (np 95 0 nu0 tn)))) (nv (ds6_23 k) (np 255 0 (np 271 0 (nu (nv (SV.c (SC.map 93)) tn tn) nu0) (nu nu0 tn)) (ds6_27)) (np 256 0 (np 255
 1 (nu (nv (SV.c (SC.int false .u64 a)) tn tn) tn) (nu nu0 tn)) (nu (nu nu0 tn) (np 95 0 nu0 tn))))) []
def ds6_4 (a k : Int) : SF := SF.mk 50 (np 95 0 (nv (SV.agg [SC.int false .u64 a, SC.raw (Value.pointer none)]) (ds6_24) (nu (nv (SV.c (tb false)) (nu (np 199 0 tn tn) nu0) (nu nu0
 tn)) (nu (nu (nv (SV.c (tb false)) tn tn) tn) (np 95 0 nu0 tn)))) (nv (ds6_23 k) (np 199 0 (np 215 0 (nu (nv (SV.c (SC.map 93)) tn tn) nu0) (nu nu0 tn)) (ds6_27)) (np 200 0 (np 199
 1 (nu (nv (SV.c (SC.int false .u64 a)) tn tn) tn) (nu nu0 tn)) (nu (nu nu0 tn) (np 95 0 nu0 tn))))) []
def ds6_5  : List SC := [SC.int true .u64 (0 : Int), SC.int true .u64 (0 : Int), SC.int true .u64 (0 : Int), SC.int true .u64 (0 : Int)]
def ds6_6 (a c f b d e g : Int) (X0 : Prop) : Prop := a = a ∧ Value.pointer none = Value.pointer none ∧ c = c ∧ Value.pointer none = Value.pointer none ∧ f = f ∧ Value.pointer none
 = Value.pointer none ∧ ([] : List (Int × Value)) = [] ∧ a = a ∧ b = b ∧ c = c ∧ d = d ∧ e = e ∧ f = f ∧ g = g ∧ a = a ∧ Value.pointer none = Value.pointer none ∧ (X0 ∧ True) ∧ True
def ds6_7 (a : Int) : ST := nv (SV.c (SC.int true .i64 (0 : Int))) (nu (nv (SV.c (tb false)) (np 95 7 (nv (SV.tup [(true, [SC.int true .u64 (0 : Int), SC.raw (Value.pointer none)]),
 (false, [tb false])]) tn tn) tn) (nv (SV.agg [SC.int false .u64 a, SC.raw (Value.pointer none)]) nu0 tn)) (nv (SV.c (tb false)) (nv (SV.agg [SC.int false .u64 a, SC.raw
 (Value.pointer none)]) nu0 tn) (nv (SV.agg [SC.int false .u64 a, SC.raw (Value.pointer none)]) tn tn))) (nu (nv (SV.c (SC.int true .i64 (0 : Int))) (np 83 0 (nv (SV.c (tb false)) tn
 tn) tn) (nv (SV.tup [(true, [SC.int true .u64 (0 : Int), SC.raw (Value.pointer none)]), (false, [tb false])]) tn tn)) (nv (SV.c (SC.int true .i64 (0 : Int))) (nv (SV.c (tb true))
 nu0 tn) (nv (SV.c (SC.int true .i64 (0 : Int))) tn tn)))
def ds6_8 (a c f b d e g : Int) (X0 : Prop) : Prop := a = a ∧ Value.pointer none = Value.pointer none ∧ c = c ∧ Value.pointer none = Value.pointer none ∧ f = f ∧ Value.pointer none
 = Value.pointer none ∧ ([] : List (Int × Value)) = [] ∧ a = a ∧ b = b ∧ c = c ∧ d = d ∧ e = e ∧ f = f ∧ g = g ∧ a = a ∧ Value.pointer none = Value.pointer none ∧ X0 ∧ True
def ds6_9 (a b c d e f g : Int) : List SC := [SC.int false .u64 a, SC.int false .i64 b, SC.int false .u64 c, SC.int false .i64 d, SC.int false .i64 e, SC.int false .u64 f, SC.int
 false .i64 g, sp 83 0, sp 87 0, sp 91 0, SC.map 93, SC.nls, SC.nls, SC.nls, SC.int true .u64 (0 : Int)]
def ds6_10 (a c f b d e g : Int) (X0 : Prop) : Prop := (a = a ∧ Value.pointer none = Value.pointer none ∧ c = c ∧ Value.pointer none = Value.pointer none ∧ f = f ∧ Value.pointer
 none = Value.pointer none ∧ ([] : List (Int × Value)) = [] ∧ a = a ∧ b = b ∧ c = c ∧ d = d ∧ e = e ∧ f = f ∧ g = g ∧ a = a ∧ Value.pointer none = Value.pointer none ∧ ((X0 ∧ True) ∧
 True) ∧ True) ∧ True
def ds6_11 (a c f b d e g : Int) (X0 : Prop) (k : Int) (hk : 0 ≤ k ∧ k ≤ 255) (p : Int) (hp : 0 ≤ p ∧ p ≤ 1023) (q : Int) (hq : 0 ≤ q ∧ q ≤ 1023) : Prop := a = a ∧ Value.pointer
 none = Value.pointer none ∧ c = c ∧ Value.pointer none = Value.pointer none ∧ f = f ∧ Value.pointer none = Value.pointer none ∧ ([] : List (Int × Value)) = [] ∧ a = a ∧ b = b ∧ c =
 c ∧ d = d ∧ e = e ∧ f = f ∧ g = g ∧ a = a ∧ Value.pointer none = Value.pointer none ∧ (((ds6_6 a c f b d e g X0) ∧ True) ∧ (∀ (K : KO XN), (fun X1 : Prop => (ds6_8 a c f b d e g X1)
 ∧ True → ds6_6 a c f b d e g X1) (K (ds6_3 a k) (Mem.mk [(1, SO.cells (ds6_2 a b c d e f g) 75), (2, SO.cells (ds6_1 k hk p hp q hq) 77), (45, SO.cells (ds6_2 a b c d e f g) 75),
 (51, SO.cells (ds6_2 a b c d e f g) 75), (83, SO.cells [SC.int false .u64 a, SC.raw (Value.pointer none)] 199), (87, SO.cells [SC.int false .u64 c, SC.raw (Value.pointer none)]
 199), (91, SO.cells [SC.int false .u64 f, SC.raw (Value.pointer none)] 199), (93, SO.mp true []), (95, SO.cells (ds6_9 a b c d e f g) 204), (109, SO.cells (ds6_1 k hk p hp q hq)
 77), (110, SO.cells [SC.int true .i64 (0 : Int), SC.int true .i64 (0 : Int)] 82), (128, SO.cells [SC.int true .i64 (0 : Int), SC.int true .i64 (0 : Int)] 82), (141, SO.cells (ds6_1
 k hk p hp q hq) 77), (142, SO.cells [SC.int true .i64 (0 : Int), SC.int true .i64 (0 : Int)] 82), (168, SO.cells [SC.int false .u64 a, SC.raw (Value.pointer none)] 199), (176,
 SO.cells [SC.int false .u64 a, SC.raw (Value.pointer none)] 199), (224, SO.cells [SC.int false .u64 a, SC.raw (Value.pointer none)] 199), (232, SO.cells [SC.int false .u64 a, SC.raw
 (Value.pointer none)] 199), (252, SO.cells [SC.int true .u64 (0 : Int), SC.raw (Value.pointer none)] 199), (255, SO.cells [SC.int false .u64 a, SC.raw (Value.pointer none)] 199),
 (256, SO.cells [SC.int true .u64 (0 : Int), SC.raw (Value.pointer none)] 199), (271, SO.cells (ds6_5) 87)] 261) Scr.nil)) ∧ True) ∧ True
def ds6_12 (c e d f g : Int) : Prop := ((c != c) = true → false = true) ∧ ((c != c) = false → ((e != e) = true → false = true) ∧ ((e != e) = false → ((d != d) = true → false = true)
 ∧ ((d != d) = false → ((f != f) = true → false = true) ∧ ((f != f) = false → ((g != g) = true → false = true) ∧ ((g != g) = false → true = true)))))
def ds6_13 (a c f b d e g : Int) (X0 : Prop) (k : Int) (hk : 0 ≤ k ∧ k ≤ 255) (p : Int) (hp : 0 ≤ p ∧ p ≤ 1023) (q : Int) (hq : 0 ≤ q ∧ q ≤ 1023) : Prop := a = a ∧ Value.pointer
 none = Value.pointer none ∧ c = c ∧ Value.pointer none = Value.pointer none ∧ f = f ∧ Value.pointer none = Value.pointer none ∧ ([] : List (Int × Value)) = [] ∧ a = a ∧ b = b ∧ c =
 c ∧ d = d ∧ e = e ∧ f = f ∧ g = g ∧ a = a ∧ Value.pointer none = Value.pointer none ∧ (((ds6_6 a c f b d e g X0) ∧ True) ∧ (∀ (K : KO XN), (fun X1 : Prop => (ds6_8 a c f b d e g X1)
 ∧ True → ds6_6 a c f b d e g X1) (K (ds6_4 a k) (Mem.mk [(1, SO.cells (ds6_2 a b c d e f g) 75), (2, SO.cells (ds6_1 k hk p hp q hq) 77), (45, SO.cells (ds6_2 a b c d e f g) 75),
 (51, SO.cells (ds6_2 a b c d e f g) 75), (83, SO.cells [SC.int false .u64 a, SC.raw (Value.pointer none)] 199), (87, SO.cells [SC.int false .u64 c, SC.raw (Value.pointer none)]
 199), (91, SO.cells [SC.int false .u64 f, SC.raw (Value.pointer none)] 199), (93, SO.mp true []), (95, SO.cells (ds6_9 a b c d e f g) 204), (109, SO.cells (ds6_1 k hk p hp q hq)
 77), (110, SO.cells [SC.int true .i64 (0 : Int), SC.int true .i64 (0 : Int)] 82), (128, SO.cells [SC.int true .i64 (0 : Int), SC.int true .i64 (0 : Int)] 82), (141, SO.cells (ds6_1
 k hk p hp q hq) 77), (142, SO.cells [SC.int true .i64 (0 : Int), SC.int true .i64 (0 : Int)] 82), (168, SO.cells [SC.int false .u64 a, SC.raw (Value.pointer none)] 199), (176,
 SO.cells [SC.int false .u64 a, SC.raw (Value.pointer none)] 199), (196, SO.cells [SC.int true .u64 (0 : Int), SC.raw (Value.pointer none)] 199), (199, SO.cells [SC.int false .u64 a,
 SC.raw (Value.pointer none)] 199), (200, SO.cells [SC.int true .u64 (0 : Int), SC.raw (Value.pointer none)] 199), (215, SO.cells (ds6_5) 87)] 205) Scr.nil)) ∧ True) ∧ True
def ds6_14 (a k : Int) (hk : 0 ≤ k ∧ k ≤ 255) : SF := SF.mk 40 (np 95 0 (ds6_7 a) (nv (SV.c (SC.int false .i64 k (Bd.w (0 : Int) (255 : Int) hk))) (nu (np 224 0 (np 95 7 (nv (SV.agg
 [SC.int true .u64 (0 : Int), SC.raw (Value.pointer none)]) tn tn) tn) (nv (SV.c (tb false)) tn tn)) (np 95 0 (nv (SV.c (SC.int true .i64 (0 : Int))) nu0 tn) (nv (SV.c (SC.int false
 .i64 k (Bd.w (0 : Int) (255 : Int) hk))) tn tn))) (nv (SV.c (SC.int true .u64 (0 : Int))) (np 252 0 (np 83 0 nu0 tn) (np 95 0 tn tn)) (np 95 0 (nv (SV.c (SC.int true .i64 (0 :
 Int))) nu0 tn) (nv (ds6_23 k) tn tn))))) []
def ds6_15 (a k : Int) (hk : 0 ≤ k ∧ k ≤ 255) : SF := SF.mk 40 (np 95 0 (ds6_7 a) (nv (SV.c (SC.int false .i64 k (Bd.w (0 : Int) (255 : Int) hk))) (nu (np 168 0 (np 95 7 (nv (SV.agg
 [SC.int true .u64 (0 : Int), SC.raw (Value.pointer none)]) tn tn) tn) (nv (SV.c (tb false)) tn tn)) (np 95 0 (nv (SV.c (SC.int true .i64 (0 : Int))) nu0 tn) (nv (SV.c (SC.int false
 .i64 k (Bd.w (0 : Int) (255 : Int) hk))) tn tn))) (nv (SV.c (SC.int true .u64 (0 : Int))) (np 196 0 (np 83 0 nu0 tn) (np 95 0 tn tn)) (np 95 0 (nv (SV.c (SC.int true .i64 (0 :
 Int))) nu0 tn) (nv (ds6_23 k) tn tn))))) []
def ds6_16 (a c f b d e g k : Int) (hk : 0 ≤ k ∧ k ≤ 255) (p : Int) (hp : 0 ≤ p ∧ p ≤ 1023) (q : Int) (hq : 0 ≤ q ∧ q ≤ 1023) : Prop := ∀ (K : KO XN), (fun X1 : Prop => (ds6_8 a c f
 b d e g X1) ∧ True → ds6_6 a c f b d e g X1) (K (ds6_3 a k) (Mem.mk [(1, SO.cells (ds6_2 a b c d e f g) 75), (2, SO.cells (ds6_1 k hk p hp q hq) 77), (45, SO.cells (ds6_2 a b c d e
 f g) 75), (51, SO.cells (ds6_2 a b c d e f g) 75), (83, SO.cells [SC.int false .u64 a, SC.raw (Value.pointer none)] 199), (87, SO.cells [SC.int false .u64 c, SC.raw (Value.pointer
 none)] 199), (91, SO.cells [SC.int false .u64 f, SC.raw (Value.pointer none)] 199), (93, SO.mp true []), (95, SO.cells (ds6_9 a b c d e f g) 204), (109, SO.cells (ds6_1 k hk p hp q
 hq) 77), (110, SO.cells [SC.int true .i64 (0 : Int), SC.int true .i64 (0 : Int)] 82), (128, SO.cells [SC.int true .i64 (0 : Int), SC.int true .i64 (0 : Int)] 82), (141, SO.cells
 (ds6_1 k hk p hp q hq) 77), (142, SO.cells [SC.int true .i64 (0 : Int), SC.int true .i64 (0 : Int)] 82), (168, SO.cells [SC.int false .u64 a, SC.raw (Value.pointer none)] 199),
 (176, SO.cells [SC.int false .u64 a, SC.raw (Value.pointer none)] 199), (224, SO.cells [SC.int false .u64 a, SC.raw (Value.pointer none)] 199), (232, SO.cells [SC.int false .u64 a,
 SC.raw (Value.pointer none)] 199), (255, SO.cells [SC.int false .u64 a, SC.raw (Value.pointer none)] 199), (256, SO.cells [SC.int true .u64 (0 : Int), SC.raw (Value.pointer none)]
 199), (271, SO.cells (ds6_5) 87)] 261) Scr.nil)
def ds6_17 (a b c d e f g : Int) : List SC := [SC.int false .u64 a, SC.int false .i64 b, SC.int false .u64 c, SC.int false .i64 d, SC.int false .i64 e, SC.int false .u64 f, SC.int
 false .i64 g, sp 83 0, sp 87 0, sp 91 0, SC.map 93, SC.nls, SC.nls, SC.nls, SC.int false .u64 a]
def ds6_18 (a c f b d e g k : Int) (hk : 0 ≤ k ∧ k ≤ 255) (p : Int) (hp : 0 ≤ p ∧ p ≤ 1023) (q : Int) (hq : 0 ≤ q ∧ q ≤ 1023) : Prop := ∀ (K : KO XN), (fun X1 : Prop => (ds6_8 a c f
 b d e g X1) ∧ True → ds6_6 a c f b d e g X1) (K (ds6_4 a k) (Mem.mk [(1, SO.cells (ds6_2 a b c d e f g) 75), (2, SO.cells (ds6_1 k hk p hp q hq) 77), (45, SO.cells (ds6_2 a b c d e
 f g) 75), (51, SO.cells (ds6_2 a b c d e f g) 75), (83, SO.cells [SC.int false .u64 a, SC.raw (Value.pointer none)] 199), (87, SO.cells [SC.int false .u64 c, SC.raw (Value.pointer
 none)] 199), (91, SO.cells [SC.int false .u64 f, SC.raw (Value.pointer none)] 199), (93, SO.mp true []), (95, SO.cells (ds6_9 a b c d e f g) 204), (109, SO.cells (ds6_1 k hk p hp q
 hq) 77), (110, SO.cells [SC.int true .i64 (0 : Int), SC.int true .i64 (0 : Int)] 82), (128, SO.cells [SC.int true .i64 (0 : Int), SC.int true .i64 (0 : Int)] 82), (141, SO.cells
 (ds6_1 k hk p hp q hq) 77), (142, SO.cells [SC.int true .i64 (0 : Int), SC.int true .i64 (0 : Int)] 82), (168, SO.cells [SC.int false .u64 a, SC.raw (Value.pointer none)] 199),
 (176, SO.cells [SC.int false .u64 a, SC.raw (Value.pointer none)] 199), (199, SO.cells [SC.int false .u64 a, SC.raw (Value.pointer none)] 199), (200, SO.cells [SC.int true .u64 (0 :
 Int), SC.raw (Value.pointer none)] 199), (215, SO.cells (ds6_5) 87)] 205) Scr.nil)
def ds6_19 (k : Int) (hk : 0 ≤ k ∧ k ≤ 255) (p : Int) (hp : 0 ≤ p ∧ p ≤ 1023) (q : Int) (hq : 0 ≤ q ∧ q ≤ 1023) (b : Int) : ST := nv (SV.agg (ds6_1 k hk p hp q hq)) (np 141 0 (nu
 (nu (nu (np 141 0 nu0 tn) (np 95 0 tn tn)) (nu nu0 nu0)) (nu (nu (nu nu0 tn) (np 95 0 tn tn)) (nv (SV.c (SC.int false .i64 k (Bd.w (0 : Int) (255 : Int) hk))) (nv (SV.c (tb true))
 tn tn) nu0))) (np 141 0 (nu (nu (nu nu0 tn) (nv (SV.c (SC.int false .i64 b)) tn tn)) (nu nu0 nu0)) (nu (nu (nu nu0 tn) nu0) (nv (SV.c (tb true)) (np 95 0 tn tn) nu0)))) (nu (nv
 (SV.c (SC.int true .u64 (0 : Int))) (nu (nu (nv (SV.c (tb false)) nu0 tn) (np 95 0 tn tn)) (nu nu0 nu0)) (nu (nu (nu nu0 tn) (np 95 1 tn tn)) (nv (SV.c (SC.int true .u64 (0 : Int)))
 (nv (SV.c (SC.int true .i64 (6 : Int))) tn tn) nu0))) (nv (SV.c (tb false)) (nv (SV.c (SC.int true .i64 (6 : Int))) (nu (nu nu0 tn) (nv (SV.c (SC.int true .i64 (0 : Int))) tn tn))
 (np 95 0 nu0 nu0)) (nu (nu (nu nu0 tn) nu0) (nu (nv (SV.c (SC.int false .i64 k (Bd.w (0 : Int) (255 : Int) hk))) tn tn) nu0))))
def ds6_21  : ST := np 142 0 (nu (nu (nu (nv (SV.c (SC.int true .i64 (6 : Int))) nu0 tn) (np 95 0 tn tn)) (nu nu0 nu0)) (nu (nu (nu nu0 tn) (np 95 0 tn tn)) (nv (SV.tup [(false,
 [SC.int true .u64 (0 : Int)]), (false, [tb true])]) (np 141 0 tn tn) nu0))) (nv (SV.c (SC.int true .i64 (6 : Int))) (np 141 0 (nu (nu nu0 tn) (nv (SV.c (SC.int true .u64 (0 : Int)))
 tn tn)) (nv (SV.tup [(false, [SC.int true .u64 (0 : Int)]), (false, [tb true])]) nu0 nu0)) (nu (nu (nu nu0 tn) nu0) (nv (SV.c (tb false)) (np 141 1 tn tn) nu0)))
def ds6_22 (b : Int) : Prop := (-9223372036854775808 : Int) ≤ b + (0 : Int) ∧ b + (0 : Int) ≤ (9223372036854775807 : Int)
def ds6_25  : ST := nv (SV.c (tb true)) (nu (nu (nu nu0 tn) (np 95 1 tn tn)) (nu nu0 nu0)) (nu (nu (nu nu0 tn) nu0) (nv (SV.c (tb true)) (nv (SV.c (tb true)) tn tn) nu0))
def ds6_26 (c f b : Int) (X0 : Prop) : Prop := Value.pointer none = Value.pointer none ∧ c = c ∧ Value.pointer none = Value.pointer none ∧ f = f ∧ Value.pointer none = Value.pointer
 none ∧ ([] : List (Int × Value)) = [] ∧ ((ds6_22 b) ∧ X0 ∧ True) ∧ True
def ds6_28 (c f b : Int) (X0 : Prop) : Prop := Value.pointer none = Value.pointer none ∧ c = c ∧ Value.pointer none = Value.pointer none ∧ f = f ∧ Value.pointer none = Value.pointer
 none ∧ ([] : List (Int × Value)) = [] ∧ (ds6_22 b) ∧ X0 ∧ True
/-- What the executor leaves to be shown of roundelay/roundelaylaw08.DraftShares, written out. -/
theorem ds6_vc (a b c d e f g : Int) (k p q : Int) (hk : 0 ≤ k ∧ k ≤ 255) (hp : 0 ≤ p ∧ p ≤ 1023) (hq : 0 ≤ q ∧ q ≤ 1023) : (callN Try.prog (tblDS : List (Smry Try.prog XN)) (fun _ _ => false) 100 20 4 [.agg [.int false .u64 a, .int false .i64 b, .int false .u64 c, .int false .i64 d, .int false .i64 e, .int false .u64 f, .int false .i64 g], .agg [.int true .i64 6, .int false .i64 k (.w 0 255 hk), .int false .i64 p (.w 0 1023 hp), .int false .i64 q (.w 0 1023 hq)]] ⟨[], 1⟩ (.cut 4 (liveL [2, 3, 4, 5, 6, 8, 9, 11, 13, 131]) [] Unit (fun _ _ => ([], [])) .nil fun _ => .nil) (fun v _ _ => retTrue v)) = (
 (((c == (0 : Int)) = true → (decide (e > (0 : Int)) = true → ∃ (y : Unit), a = a ∧ b = b ∧ c = c ∧ d = d ∧ e = e ∧ f = f ∧ g = g ∧ k = k ∧ p = p ∧ q = q ∧ True) ∧ (decide (e > (0 :
 Int)) = false → ∃ (y : Unit), a = a ∧ b = b ∧ c = c ∧ d = d ∧ e = e ∧ f = f ∧ g = g ∧ k = k ∧ p = p ∧ q = q ∧ True)) ∧ ((c == (0 : Int)) = false → ∃ (y : Unit), a = a ∧ b = b ∧ c =
 c ∧ d = d ∧ e = e ∧ f = f ∧ g = g ∧ k = k ∧ p = p ∧ q = q ∧ True)) ∧ ∀ (y : Unit) (ρ : Nat → Value), (decide (min (min (min b e) g) d ≥ (0 : Int)) = true → (decide (max (max b e) g
 ≤ (256 : Int)) = true → ((!decide (d < (256 : Int))) = true → true = true) ∧ ((!decide (d < (256 : Int))) = false → True ∧ (∀ (z : Un), True → ((!decide (RightO (6 : Int) k p q)) =
 true → ds6_12 c e d f g) ∧ ((!decide (RightO (6 : Int) k p q)) = false → ((a == (0 : Int)) = true → ((a == (0 : Int)) = true → ((a = a ∧ Value.pointer none = Value.pointer none ∧ c
 = c ∧ Value.pointer none = Value.pointer none ∧ f = f ∧ Value.pointer none = Value.pointer none ∧ ([] : List (Int × Value)) = [] ∧ (ds6_22 b) ∧ (ds6_12 c e d f g) ∧ True) ∧ True) ∧
 (∀ (K : KO XN), (fun X0 : Prop => (a = a ∧ ds6_28 c f b X0) ∧ True → a = a ∧ ds6_26 c f b X0) (K (SF.mk 142 (np 95 0 (ds6_19 k hk p hp q hq b) (nu (ds6_21) (nu (ds6_25) (nu (nv
 (SV.c (tb false)) (nu (nu nu0 tn) (nv (SV.c (si .i64 (b + (0 : Int)))) tn tn)) (np 141 1 nu0 nu0)) (nu (nu nu0 nu0) (nv (SV.c (tb false)) (nv (SV.tup [(false, [SC.int true .u64 (0 :
 Int)]), (false, [tb true])]) tn tn) nu0)))))) []) (Mem.mk [(1, SO.cells (ds6_2 a b c d e f g) 75), (2, SO.cells (ds6_1 k hk p hp q hq) 77), (45, SO.cells (ds6_2 a b c d e f g) 75),
 (51, SO.cells (ds6_2 a b c d e f g) 75), (83, SO.cells [SC.int false .u64 a, SC.raw (Value.pointer none)] 199), (87, SO.cells [SC.int false .u64 c, SC.raw (Value.pointer none)]
 199), (91, SO.cells [SC.int false .u64 f, SC.raw (Value.pointer none)] 199), (93, SO.mp true []), (95, SO.cells [SC.int false .u64 a, si .i64 (b + (0 : Int)), SC.int false .u64 c,
 SC.int false .i64 d, SC.int false .i64 e, SC.int false .u64 f, SC.int false .i64 g, sp 83 0, sp 87 0, sp 91 0, SC.map 93, SC.nls, SC.nls, SC.nls, SC.int true .u64 (0 : Int)] 204),
 (109, SO.cells (ds6_1 k hk p hp q hq) 77), (110, SO.cells [SC.int true .i64 (0 : Int), SC.int true .i64 (0 : Int)] 82), (128, SO.cells [SC.int true .i64 (0 : Int), SC.int true .i64
 (0 : Int)] 82), (141, SO.cells (ds6_1 k hk p hp q hq) 77), (142, SO.cells [SC.int true .i64 (0 : Int), SC.int true .i64 (0 : Int)] 82), (168, SO.cells [SC.int false .u64 a, SC.raw
 (Value.pointer none)] 199), (176, SO.cells [SC.int false .u64 a, SC.raw (Value.pointer none)] 199), (224, SO.cells [SC.int false .u64 a, SC.raw (Value.pointer none)] 199), (232,
 SO.cells [SC.int false .u64 a, SC.raw (Value.pointer none)] 199)] 283) Scr.nil)) ∧ True) ∧ ((a == (0 : Int)) = false → (True ∧ (∀ (z : Un), True → a = a ∧ Value.pointer none =
 Value.pointer none ∧ c = c ∧ Value.pointer none = Value.pointer none ∧ f = f ∧ Value.pointer none = Value.pointer none ∧ ([] : List (Int × Value)) = [] ∧ a = a ∧ b = b ∧ c = c ∧ d =
 d ∧ e = e ∧ f = f ∧ g = g ∧ a = a ∧ Value.pointer none = Value.pointer none ∧ (((a = a ∧ Value.pointer none = Value.pointer none ∧ c = c ∧ Value.pointer none = Value.pointer none ∧
 f = f ∧ Value.pointer none = Value.pointer none ∧ ([] : List (Int × Value)) = [] ∧ a = a ∧ b = b ∧ c = c ∧ d = d ∧ e = e ∧ f = f ∧ g = g ∧ a = a ∧ Value.pointer none = Value.pointer
 none ∧ (((((a = a ∧ Value.pointer none = Value.pointer none ∧ c = c ∧ Value.pointer none = Value.pointer none ∧ f = f ∧ Value.pointer none = Value.pointer none ∧ ([] : List (Int ×
 Value)) = [] ∧ (ds6_22 b) ∧ (((a != (0 : Int)) = true → (a = a ∧ Value.pointer none = Value.pointer none ∧ c = c ∧ Value.pointer none = Value.pointer none ∧ f = f ∧ Value.pointer
 none = Value.pointer none ∧ ([] : List (Int × Value)) = [] ∧ a = a ∧ b + (0 : Int) = b + (0 : Int) ∧ c = c ∧ d = d ∧ e = e ∧ f = f ∧ g = g ∧ a = a ∧ ((a != (0 : Int)) = true →
 ((true == (a == a && (b + (0 : Int) == b && (c == c && (d == d && (e == e && (f == f && (g == g && true)))))))) = true → true = true) ∧ ((true == (a == a && (b + (0 : Int) == b &&
 (c == c && (d == d && (e == e && (f == f && (g == g && true)))))))) = false → false = true)) ∧ ((a != (0 : Int)) = false → ds6_12 c e d f g)) ∧ True) ∧ ((a != (0 : Int)) = false →
 ds6_12 c e d f g)) ∧ True) ∧ True) ∧ (∀ (K : KO XN), (fun X0 : Prop => (a = a ∧ ds6_28 c f b X0) ∧ True → a = a ∧ ds6_26 c f b X0) (K (SF.mk 142 (np 95 0 (ds6_19 k hk p hp q hq b)
 (nu (ds6_21) (nu (ds6_25) (nu (nv (SV.c (tb false)) (nu (nu nu0 tn) (nv (SV.c (si .i64 (b + (0 : Int)))) tn tn)) (np 141 1 nu0 nu0)) (nu (nu nu0 nu0) (nv (SV.c (tb false)) (nv
 (SV.tup [(false, [SC.int true .u64 (0 : Int)]), (false, [tb false])]) tn tn) nu0)))))) []) (Mem.mk [(1, SO.cells (ds6_2 a b c d e f g) 75), (2, SO.cells (ds6_1 k hk p hp q hq) 77),
 (45, SO.cells (ds6_2 a b c d e f g) 75), (51, SO.cells (ds6_2 a b c d e f g) 75), (83, SO.cells [SC.int false .u64 a, SC.raw (Value.pointer none)] 199), (87, SO.cells [SC.int false
 .u64 c, SC.raw (Value.pointer none)] 199), (91, SO.cells [SC.int false .u64 f, SC.raw (Value.pointer none)] 199), (93, SO.mp true []), (95, SO.cells [SC.int false .u64 a, si .i64 (b
 + (0 : Int)), SC.int false .u64 c, SC.int false .i64 d, SC.int false .i64 e, SC.int false .u64 f, SC.int false .i64 g, sp 83 0, sp 87 0, sp 91 0, SC.map 93, SC.nls, SC.nls, SC.nls,
 SC.int false .u64 a] 204), (109, SO.cells (ds6_1 k hk p hp q hq) 77), (110, SO.cells [SC.int true .i64 (0 : Int), SC.int true .i64 (0 : Int)] 82), (128, SO.cells [SC.int true .i64
 (0 : Int), SC.int true .i64 (0 : Int)] 82), (141, SO.cells (ds6_1 k hk p hp q hq) 77), (142, SO.cells [SC.int true .i64 (0 : Int), SC.int true .i64 (0 : Int)] 82), (168, SO.cells
 [SC.int false .u64 a, SC.raw (Value.pointer none)] 199), (176, SO.cells [SC.int false .u64 a, SC.raw (Value.pointer none)] 199), (224, SO.cells [SC.int false .u64 a, SC.raw
 (Value.pointer none)] 199), (232, SO.cells [SC.int false .u64 a, SC.raw (Value.pointer none)] 199), (252, SO.cells [SC.int true .u64 (0 : Int), SC.raw (Value.pointer none)] 199),
 (255, SO.cells [SC.int false .u64 a, SC.raw (Value.pointer none)] 199), (256, SO.cells [SC.int true .u64 (0 : Int), SC.raw (Value.pointer none)] 199), (271, SO.cells (ds6_5) 87)]
 327) Scr.nil)) ∧ True) ∧ True) ∧ True) ∧ True) ∧ True) ∧ (∀ (K : KO XN), (fun X0 : Prop => (ds6_8 a c f b d e g X0) ∧ True → ds6_6 a c f b d e g X0) (K (ds6_3 a k) (Mem.mk [(1,
 SO.cells (ds6_2 a b c d e f g) 75), (2, SO.cells (ds6_1 k hk p hp q hq) 77), (45, SO.cells (ds6_2 a b c d e f g) 75), (51, SO.cells (ds6_2 a b c d e f g) 75), (83, SO.cells [SC.int
 false .u64 a, SC.raw (Value.pointer none)] 199), (87, SO.cells [SC.int false .u64 c, SC.raw (Value.pointer none)] 199), (91, SO.cells [SC.int false .u64 f, SC.raw (Value.pointer
 none)] 199), (93, SO.mp true []), (95, SO.cells (ds6_9 a b c d e f g) 204), (109, SO.cells (ds6_1 k hk p hp q hq) 77), (110, SO.cells [SC.int true .i64 (0 : Int), SC.int true .i64
 (0 : Int)] 82), (128, SO.cells [SC.int true .i64 (0 : Int), SC.int true .i64 (0 : Int)] 82), (141, SO.cells (ds6_1 k hk p hp q hq) 77), (142, SO.cells [SC.int true .i64 (0 : Int),
 SC.int true .i64 (0 : Int)] 82), (168, SO.cells [SC.int false .u64 a, SC.raw (Value.pointer none)] 199), (176, SO.cells [SC.int false .u64 a, SC.raw (Value.pointer none)] 199),
 (224, SO.cells [SC.int false .u64 a, SC.raw (Value.pointer none)] 199), (232, SO.cells [SC.int false .u64 a, SC.raw (Value.pointer none)] 199), (255, SO.cells [SC.int false .u64 a,
 SC.raw (Value.pointer none)] 199), (256, SO.cells [SC.int true .u64 (0 : Int), SC.raw (Value.pointer none)] 199), (271, SO.cells (ds6_5) 87)] 261) Scr.nil)) ∧ True) ∧ (∀ (K : KO
 XN), (fun X0 : Prop => (ds6_10 a c f b d e g X0) ∧ (ds6_16 a c f b d e g k hk p hp q hq) ∧ True → ds6_11 a c f b d e g X0 k hk p hp q hq) (K (ds6_14 a k hk) (Mem.mk [(1, SO.cells
 (ds6_2 a b c d e f g) 75), (2, SO.cells (ds6_1 k hk p hp q hq) 77), (45, SO.cells (ds6_2 a b c d e f g) 75), (51, SO.cells (ds6_2 a b c d e f g) 75), (83, SO.cells [SC.int false
 .u64 a, SC.raw (Value.pointer none)] 199), (87, SO.cells [SC.int false .u64 c, SC.raw (Value.pointer none)] 199), (91, SO.cells [SC.int false .u64 f, SC.raw (Value.pointer none)]
 199), (93, SO.mp true []), (95, SO.cells (ds6_17 a b c d e f g) 204), (109, SO.cells (ds6_1 k hk p hp q hq) 77), (110, SO.cells [SC.int true .i64 (0 : Int), SC.int true .i64 (0 :
 Int)] 82), (128, SO.cells [SC.int true .i64 (0 : Int), SC.int true .i64 (0 : Int)] 82), (141, SO.cells (ds6_1 k hk p hp q hq) 77), (142, SO.cells [SC.int true .i64 (0 : Int), SC.int
 true .i64 (0 : Int)] 82), (168, SO.cells [SC.int false .u64 a, SC.raw (Value.pointer none)] 199), (176, SO.cells [SC.int false .u64 a, SC.raw (Value.pointer none)] 199), (224,
 SO.cells [SC.int false .u64 a, SC.raw (Value.pointer none)] 199), (232, SO.cells [SC.int false .u64 a, SC.raw (Value.pointer none)] 199), (252, SO.cells [SC.int true .u64 (0 : Int),
 SC.raw (Value.pointer none)] 199), (255, SO.cells [SC.int false .u64 a, SC.raw (Value.pointer none)] 199), (256, SO.cells [SC.int true .u64 (0 : Int), SC.raw (Value.pointer none)]
 199), (271, SO.cells (ds6_5) 87)] 285) Scr.nil)) ∧ True) ∧ True) ∧ (∀ (K : KO XN), (fun X0 : Prop => True ∧ (∀ (z : Un), True → a = a ∧ Value.pointer none = Value.pointer none ∧ c =
 c ∧ Value.pointer none = Value.pointer none ∧ f = f ∧ Value.pointer none = Value.pointer none ∧ ([] : List (Int × Value)) = [] ∧ a = a ∧ b = b ∧ c = c ∧ d = d ∧ e = e ∧ f = f ∧ g =
 g ∧ a = a ∧ Value.pointer none = Value.pointer none ∧ ((ds6_10 a c f b d e g X0) ∧ (ds6_16 a c f b d e g k hk p hp q hq) ∧ True) ∧ (∀ (K : KO XN), (fun X1 : Prop => (ds6_10 a c f b
 d e g X1) ∧ (∀ (K : KO XN), (fun X2 : Prop => (ds6_8 a c f b d e g X2) ∧ True → ds6_6 a c f b d e g X2) (K (ds6_3 a k) (Mem.mk [(1, SO.cells (ds6_2 a b c d e f g) 75), (2, SO.cells
 (ds6_1 k hk p hp q hq) 77), (45, SO.cells (ds6_2 a b c d e f g) 75), (51, SO.cells (ds6_2 a b c d e f g) 75), (83, SO.cells [SC.int false .u64 a, SC.raw (Value.pointer none)] 199),
 (87, SO.cells [SC.int false .u64 c, SC.raw (Value.pointer none)] 199), (91, SO.cells [SC.int false .u64 f, SC.raw (Value.pointer none)] 199), (93, SO.mp true []), (95, SO.cells
 (ds6_9 a b c d e f g) 204), (109, SO.cells (ds6_1 k hk p hp q hq) 77), (110, SO.cells [SC.int true .i64 (0 : Int), SC.int true .i64 (0 : Int)] 82), (128, SO.cells [SC.int true .i64
 (0 : Int), SC.int true .i64 (0 : Int)] 82), (141, SO.cells (ds6_1 k hk p hp q hq) 77), (142, SO.cells [SC.int true .i64 (0 : Int), SC.int true .i64 (0 : Int)] 82), (168, SO.cells
 [SC.int false .u64 a, SC.raw (Value.pointer none)] 199), (176, SO.cells [SC.int false .u64 a, SC.raw (Value.pointer none)] 199), (224, SO.cells [SC.int false .u64 a, SC.raw
 (Value.pointer none)] 199), (232, SO.cells [SC.int false .u64 a, SC.raw (Value.pointer none)] 199), (255, SO.cells [SC.int false .u64 a, SC.raw (Value.pointer none)] 199), (256,
 SO.cells [SC.int true .u64 (0 : Int), SC.raw (Value.pointer none)] 199), (271, SO.cells (ds6_5) 87)] 261) Scr.nil)) ∧ True → a = a ∧ Value.pointer none = Value.pointer none ∧ c = c
 ∧ Value.pointer none = Value.pointer none ∧ f = f ∧ Value.pointer none = Value.pointer none ∧ ([] : List (Int × Value)) = [] ∧ a = a ∧ b = b ∧ c = c ∧ d = d ∧ e = e ∧ f = f ∧ g = g
 ∧ a = a ∧ Value.pointer none = Value.pointer none ∧ (((ds6_6 a c f b d e g X1) ∧ True) ∧ (∀ (K : KO XN), (fun X2 : Prop => (ds6_8 a c f b d e g X2) ∧ True → ds6_6 a c f b d e g X2)
 (K (ds6_3 a k) (Mem.mk [(1, SO.cells (ds6_2 a b c d e f g) 75), (2, SO.cells (ds6_1 k hk p hp q hq) 77), (45, SO.cells (ds6_2 a b c d e f g) 75), (51, SO.cells (ds6_2 a b c d e f g)
 75), (83, SO.cells [SC.int false .u64 a, SC.raw (Value.pointer none)] 199), (87, SO.cells [SC.int false .u64 c, SC.raw (Value.pointer none)] 199), (91, SO.cells [SC.int false .u64
 f, SC.raw (Value.pointer none)] 199), (93, SO.mp true []), (95, SO.cells (ds6_9 a b c d e f g) 204), (109, SO.cells (ds6_1 k hk p hp q hq) 77), (110, SO.cells [SC.int true .i64 (0 :
 Int), SC.int true .i64 (0 : Int)] 82), (128, SO.cells [SC.int true .i64 (0 : Int), SC.int true .i64 (0 : Int)] 82), (141, SO.cells (ds6_1 k hk p hp q hq) 77), (142, SO.cells [SC.int
 true .i64 (0 : Int), SC.int true .i64 (0 : Int)] 82), (168, SO.cells [SC.int false .u64 a, SC.raw (Value.pointer none)] 199), (176, SO.cells [SC.int false .u64 a, SC.raw
 (Value.pointer none)] 199), (224, SO.cells [SC.int false .u64 a, SC.raw (Value.pointer none)] 199), (232, SO.cells [SC.int false .u64 a, SC.raw (Value.pointer none)] 199), (252,
 SO.cells [SC.int true .u64 (0 : Int), SC.raw (Value.pointer none)] 199), (255, SO.cells [SC.int false .u64 a, SC.raw (Value.pointer none)] 199), (256, SO.cells [SC.int true .u64 (0
 : Int), SC.raw (Value.pointer none)] 199), (271, SO.cells (ds6_5) 87)] 261) Scr.nil)) ∧ True) ∧ True) (K (ds6_14 a k hk) (Mem.mk [(1, SO.cells (ds6_2 a b c d e f g) 75), (2,
 SO.cells (ds6_1 k hk p hp q hq) 77), (45, SO.cells (ds6_2 a b c d e f g) 75), (51, SO.cells (ds6_2 a b c d e f g) 75), (83, SO.cells [SC.int false .u64 a, SC.raw (Value.pointer
 none)] 199), (87, SO.cells [SC.int false .u64 c, SC.raw (Value.pointer none)] 199), (91, SO.cells [SC.int false .u64 f, SC.raw (Value.pointer none)] 199), (93, SO.mp true []), (95,
 SO.cells (ds6_17 a b c d e f g) 204), (109, SO.cells (ds6_1 k hk p hp q hq) 77), (110, SO.cells [SC.int true .i64 (0 : Int), SC.int true .i64 (0 : Int)] 82), (128, SO.cells [SC.int
 true .i64 (0 : Int), SC.int true .i64 (0 : Int)] 82), (141, SO.cells (ds6_1 k hk p hp q hq) 77), (142, SO.cells [SC.int true .i64 (0 : Int), SC.int true .i64 (0 : Int)] 82), (168,
 SO.cells [SC.int false .u64 a, SC.raw (Value.pointer none)] 199), (176, SO.cells [SC.int false .u64 a, SC.raw (Value.pointer none)] 199), (224, SO.cells [SC.int false .u64 a, SC.raw
 (Value.pointer none)] 199), (232, SO.cells [SC.int false .u64 a, SC.raw (Value.pointer none)] 199), (252, SO.cells [SC.int true .u64 (0 : Int), SC.raw (Value.pointer none)] 199),
 (255, SO.cells [SC.int false .u64 a, SC.raw (Value.pointer none)] 199), (256, SO.cells [SC.int true .u64 (0 : Int), SC.raw (Value.pointer none)] 199), (271, SO.cells (ds6_5) 87)]
 285) Scr.nil)) ∧ True) ∧ True → a = a ∧ Value.pointer none = Value.pointer none ∧ c = c ∧ Value.pointer none = Value.pointer none ∧ f = f ∧ Value.pointer none = Value.pointer none ∧
 ([] : List (Int × Value)) = [] ∧ a = a ∧ b = b ∧ c = c ∧ d = d ∧ e = e ∧ f = f ∧ g = g ∧ a = a ∧ Value.pointer none = Value.pointer none ∧ (True ∧ (∀ (z : Un), True → ds6_11 a c f b
 d e g X0 k hk p hp q hq) ∧ True) ∧ True) (K (ds6_14 a k hk) (Mem.mk [(1, SO.cells (ds6_2 a b c d e f g) 75), (2, SO.cells (ds6_1 k hk p hp q hq) 77), (45, SO.cells (ds6_2 a b c d e
 f g) 75), (51, SO.cells (ds6_2 a b c d e f g) 75), (83, SO.cells [SC.int false .u64 a, SC.raw (Value.pointer none)] 199), (87, SO.cells [SC.int false .u64 c, SC.raw (Value.pointer
 none)] 199), (91, SO.cells [SC.int false .u64 f, SC.raw (Value.pointer none)] 199), (93, SO.mp true []), (95, SO.cells (ds6_17 a b c d e f g) 204), (109, SO.cells (ds6_1 k hk p hp q
 hq) 77), (110, SO.cells [SC.int true .i64 (0 : Int), SC.int true .i64 (0 : Int)] 82), (128, SO.cells [SC.int true .i64 (0 : Int), SC.int true .i64 (0 : Int)] 82), (141, SO.cells
 (ds6_1 k hk p hp q hq) 77), (142, SO.cells [SC.int true .i64 (0 : Int), SC.int true .i64 (0 : Int)] 82), (168, SO.cells [SC.int false .u64 a, SC.raw (Value.pointer none)] 199),
 (176, SO.cells [SC.int false .u64 a, SC.raw (Value.pointer none)] 199), (224, SO.cells [SC.int false .u64 a, SC.raw (Value.pointer none)] 199), (232, SO.cells [SC.int false .u64 a,
 SC.raw (Value.pointer none)] 199), (252, SO.cells [SC.int true .u64 (0 : Int), SC.raw (Value.pointer none)] 199), (255, SO.cells [SC.int false .u64 a, SC.raw (Value.pointer none)]
 199), (256, SO.cells [SC.int true .u64 (0 : Int), SC.raw (Value.pointer none)] 199), (271, SO.cells (ds6_5) 87)] 285) Scr.nil)) ∧ True)) ∧ ((a == (0 : Int)) = false → (True ∧ (∀ (z
 : Un), True → a = a ∧ Value.pointer none = Value.pointer none ∧ c = c ∧ Value.pointer none = Value.pointer none ∧ f = f ∧ Value.pointer none = Value.pointer none ∧ ([] : List (Int ×
 Value)) = [] ∧ a = a ∧ b = b ∧ c = c ∧ d = d ∧ e = e ∧ f = f ∧ g = g ∧ a = a ∧ Value.pointer none = Value.pointer none ∧ (((a = a ∧ Value.pointer none = Value.pointer none ∧ c = c ∧
 Value.pointer none = Value.pointer none ∧ f = f ∧ Value.pointer none = Value.pointer none ∧ ([] : List (Int × Value)) = [] ∧ a = a ∧ b = b ∧ c = c ∧ d = d ∧ e = e ∧ f = f ∧ g = g ∧
 a = a ∧ Value.pointer none = Value.pointer none ∧ (((((a != (0 : Int)) = true → (a = a ∧ Value.pointer none = Value.pointer none ∧ c = c ∧ Value.pointer none = Value.pointer none ∧
 f = f ∧ Value.pointer none = Value.pointer none ∧ ([] : List (Int × Value)) = [] ∧ a = a ∧ b = b ∧ c = c ∧ d = d ∧ e = e ∧ f = f ∧ g = g ∧ a = a ∧ ((a != (0 : Int)) = true → ((true
 == (a == a && (b == b && (c == c && (d == d && (e == e && (f == f && (g == g && true)))))))) = true → true = true) ∧ ((true == (a == a && (b == b && (c == c && (d == d && (e == e &&
 (f == f && (g == g && true)))))))) = false → false = true)) ∧ ((a != (0 : Int)) = false → ds6_12 c e d f g)) ∧ True) ∧ ((a != (0 : Int)) = false → ds6_12 c e d f g)) ∧ True) ∧ True)
 ∧ True) ∧ True) ∧ (∀ (K : KO XN), (fun X0 : Prop => (ds6_8 a c f b d e g X0) ∧ True → ds6_6 a c f b d e g X0) (K (ds6_4 a k) (Mem.mk [(1, SO.cells (ds6_2 a b c d e f g) 75), (2,
 SO.cells (ds6_1 k hk p hp q hq) 77), (45, SO.cells (ds6_2 a b c d e f g) 75), (51, SO.cells (ds6_2 a b c d e f g) 75), (83, SO.cells [SC.int false .u64 a, SC.raw (Value.pointer
 none)] 199), (87, SO.cells [SC.int false .u64 c, SC.raw (Value.pointer none)] 199), (91, SO.cells [SC.int false .u64 f, SC.raw (Value.pointer none)] 199), (93, SO.mp true []), (95,
 SO.cells (ds6_9 a b c d e f g) 204), (109, SO.cells (ds6_1 k hk p hp q hq) 77), (110, SO.cells [SC.int true .i64 (0 : Int), SC.int true .i64 (0 : Int)] 82), (128, SO.cells [SC.int
 true .i64 (0 : Int), SC.int true .i64 (0 : Int)] 82), (141, SO.cells (ds6_1 k hk p hp q hq) 77), (142, SO.cells [SC.int true .i64 (0 : Int), SC.int true .i64 (0 : Int)] 82), (168,
 SO.cells [SC.int false .u64 a, SC.raw (Value.pointer none)] 199), (176, SO.cells [SC.int false .u64 a, SC.raw (Value.pointer none)] 199), (199, SO.cells [SC.int false .u64 a, SC.raw
 (Value.pointer none)] 199), (200, SO.cells [SC.int true .u64 (0 : Int), SC.raw (Value.pointer none)] 199), (215, SO.cells (ds6_5) 87)] 205) Scr.nil)) ∧ True) ∧ (∀ (K : KO XN), (fun
 X0 : Prop => (ds6_10 a c f b d e g X0) ∧ (ds6_18 a c f b d e g k hk p hp q hq) ∧ True → ds6_13 a c f b d e g X0 k hk p hp q hq) (K (ds6_15 a k hk) (Mem.mk [(1, SO.cells (ds6_2 a b c
 d e f g) 75), (2, SO.cells (ds6_1 k hk p hp q hq) 77), (45, SO.cells (ds6_2 a b c d e f g) 75), (51, SO.cells (ds6_2 a b c d e f g) 75), (83, SO.cells [SC.int false .u64 a, SC.raw
 (Value.pointer none)] 199), (87, SO.cells [SC.int false .u64 c, SC.raw (Value.pointer none)] 199), (91, SO.cells [SC.int false .u64 f, SC.raw (Value.pointer none)] 199), (93, SO.mp
 true []), (95, SO.cells (ds6_17 a b c d e f g) 204), (109, SO.cells (ds6_1 k hk p hp q hq) 77), (110, SO.cells [SC.int true .i64 (0 : Int), SC.int true .i64 (0 : Int)] 82), (128,
 SO.cells [SC.int true .i64 (0 : Int), SC.int true .i64 (0 : Int)] 82), (141, SO.cells (ds6_1 k hk p hp q hq) 77), (142, SO.cells [SC.int true .i64 (0 : Int), SC.int true .i64 (0 :
 Int)] 82), (168, SO.cells [SC.int false .u64 a, SC.raw (Value.pointer none)] 199), (176, SO.cells [SC.int false .u64 a, SC.raw (Value.pointer none)] 199), (196, SO.cells [SC.int
 true .u64 (0 : Int), SC.raw (Value.pointer none)] 199), (199, SO.cells [SC.int false .u64 a, SC.raw (Value.pointer none)] 199), (200, SO.cells [SC.int true .u64 (0 : Int), SC.raw
 (Value.pointer none)] 199), (215, SO.cells (ds6_5) 87)] 229) Scr.nil)) ∧ True) ∧ True) ∧ (∀ (K : KO XN), (fun X0 : Prop => True ∧ (∀ (z : Un), True → a = a ∧ Value.pointer none =
 Value.pointer none ∧ c = c ∧ Value.pointer none = Value.pointer none ∧ f = f ∧ Value.pointer none = Value.pointer none ∧ ([] : List (Int × Value)) = [] ∧ a = a ∧ b = b ∧ c = c ∧ d =
 d ∧ e = e ∧ f = f ∧ g = g ∧ a = a ∧ Value.pointer none = Value.pointer none ∧ ((ds6_10 a c f b d e g X0) ∧ (ds6_18 a c f b d e g k hk p hp q hq) ∧ True) ∧ (∀ (K : KO XN), (fun X1 :
 Prop => (ds6_10 a c f b d e g X1) ∧ (∀ (K : KO XN), (fun X2 : Prop => (ds6_8 a c f b d e g X2) ∧ True → ds6_6 a c f b d e g X2) (K (ds6_4 a k) (Mem.mk [(1, SO.cells (ds6_2 a b c d e
 f g) 75), (2, SO.cells (ds6_1 k hk p hp q hq) 77), (45, SO.cells (ds6_2 a b c d e f g) 75), (51, SO.cells (ds6_2 a b c d e f g) 75), (83, SO.cells [SC.int false .u64 a, SC.raw
 (Value.pointer none)] 199), (87, SO.cells [SC.int false .u64 c, SC.raw (Value.pointer none)] 199), (91, SO.cells [SC.int false .u64 f, SC.raw (Value.pointer none)] 199), (93, SO.mp
 true []), (95, SO.cells (ds6_9 a b c d e f g) 204), (109, SO.cells (ds6_1 k hk p hp q hq) 77), (110, SO.cells [SC.int true .i64 (0 : Int), SC.int true .i64 (0 : Int)] 82), (128,
 SO.cells [SC.int true .i64 (0 : Int), SC.int true .i64 (0 : Int)] 82), (141, SO.cells (ds6_1 k hk p hp q hq) 77), (142, SO.cells [SC.int true .i64 (0 : Int), SC.int true .i64 (0 :
 Int)] 82), (168, SO.cells [SC.int false .u64 a, SC.raw (Value.pointer none)] 199), (176, SO.cells [SC.int false .u64 a, SC.raw (Value.pointer none)] 199), (199, SO.cells [SC.int
 false .u64 a, SC.raw (Value.pointer none)] 199), (200, SO.cells [SC.int true .u64 (0 : Int), SC.raw (Value.pointer none)] 199), (215, SO.cells (ds6_5) 87)] 205) Scr.nil)) ∧ True → a
 = a ∧ Value.pointer none = Value.pointer none ∧ c = c ∧ Value.pointer none = Value.pointer none ∧ f = f ∧ Value.pointer none = Value.pointer none ∧ ([] : List (Int × Value)) = [] ∧
 a = a ∧ b = b ∧ c = c ∧ d = d ∧ e = e ∧ f = f ∧ g = g ∧ a = a ∧ Value.pointer none = Value.pointer none ∧ (((ds6_6 a c f b d e g X1) ∧ True) ∧ (∀ (K : KO XN), (fun X2 : Prop =>
 (ds6_8 a c f b d e g X2) ∧ True → ds6_6 a c f b d e g X2) (K (ds6_4 a k) (Mem.mk [(1, SO.cells (ds6_2 a b c d e f g) 75), (2, SO.cells (ds6_1 k hk p hp q hq) 77), (45, SO.cells
 (ds6_2 a b c d e f g) 75), (51, SO.cells (ds6_2 a b c d e f g) 75), (83, SO.cells [SC.int false .u64 a, SC.raw (Value.pointer none)] 199), (87, SO.cells [SC.int false .u64 c, SC.raw
 (Value.pointer none)] 199), (91, SO.cells [SC.int false .u64 f, SC.raw (Value.pointer none)] 199), (93, SO.mp true []), (95, SO.cells (ds6_9 a b c d e f g) 204), (109, SO.cells
 (ds6_1 k hk p hp q hq) 77), (110, SO.cells [SC.int true .i64 (0 : Int), SC.int true .i64 (0 : Int)] 82), (128, SO.cells [SC.int true .i64 (0 : Int), SC.int true .i64 (0 : Int)] 82),
 (141, SO.cells (ds6_1 k hk p hp q hq) 77), (142, SO.cells [SC.int true .i64 (0 : Int), SC.int true .i64 (0 : Int)] 82), (168, SO.cells [SC.int false .u64 a, SC.raw (Value.pointer
 none)] 199), (176, SO.cells [SC.int false .u64 a, SC.raw (Value.pointer none)] 199), (196, SO.cells [SC.int true .u64 (0 : Int), SC.raw (Value.pointer none)] 199), (199, SO.cells
 [SC.int false .u64 a, SC.raw (Value.pointer none)] 199), (200, SO.cells [SC.int true .u64 (0 : Int), SC.raw (Value.pointer none)] 199), (215, SO.cells (ds6_5) 87)] 205) Scr.nil)) ∧
 True) ∧ True) (K (ds6_15 a k hk) (Mem.mk [(1, SO.cells (ds6_2 a b c d e f g) 75), (2, SO.cells (ds6_1 k hk p hp q hq) 77), (45, SO.cells (ds6_2 a b c d e f g) 75), (51, SO.cells
 (ds6_2 a b c d e f g) 75), (83, SO.cells [SC.int false .u64 a, SC.raw (Value.pointer none)] 199), (87, SO.cells [SC.int false .u64 c, SC.raw (Value.pointer none)] 199), (91,
 SO.cells [SC.int false .u64 f, SC.raw (Value.pointer none)] 199), (93, SO.mp true []), (95, SO.cells (ds6_17 a b c d e f g) 204), (109, SO.cells (ds6_1 k hk p hp q hq) 77), (110,
 SO.cells [SC.int true .i64 (0 : Int), SC.int true .i64 (0 : Int)] 82), (128, SO.cells [SC.int true .i64 (0 : Int), SC.int true .i64 (0 : Int)] 82), (141, SO.cells (ds6_1 k hk p hp q
 hq) 77), (142, SO.cells [SC.int true .i64 (0 : Int), SC.int true .i64 (0 : Int)] 82), (168, SO.cells [SC.int false .u64 a, SC.raw (Value.pointer none)] 199), (176, SO.cells [SC.int
 false .u64 a, SC.raw (Value.pointer none)] 199), (196, SO.cells [SC.int true .u64 (0 : Int), SC.raw (Value.pointer none)] 199), (199, SO.cells [SC.int false .u64 a, SC.raw
 (Value.pointer none)] 199), (200, SO.cells [SC.int true .u64 (0 : Int), SC.raw (Value.pointer none)] 199), (215, SO.cells (ds6_5) 87)] 229) Scr.nil)) ∧ True) ∧ True → a = a ∧
 Value.pointer none = Value.pointer none ∧ c = c ∧ Value.pointer none = Value.pointer none ∧ f = f ∧ Value.pointer none = Value.pointer none ∧ ([] : List (Int × Value)) = [] ∧ a = a
 ∧ b = b ∧ c = c ∧ d = d ∧ e = e ∧ f = f ∧ g = g ∧ a = a ∧ Value.pointer none = Value.pointer none ∧ (True ∧ (∀ (z : Un), True → ds6_13 a c f b d e g X0 k hk p hp q hq) ∧ True) ∧
 True) (K (ds6_15 a k hk) (Mem.mk [(1, SO.cells (ds6_2 a b c d e f g) 75), (2, SO.cells (ds6_1 k hk p hp q hq) 77), (45, SO.cells (ds6_2 a b c d e f g) 75), (51, SO.cells (ds6_2 a b
 c d e f g) 75), (83, SO.cells [SC.int false .u64 a, SC.raw (Value.pointer none)] 199), (87, SO.cells [SC.int false .u64 c, SC.raw (Value.pointer none)] 199), (91, SO.cells [SC.int
 false .u64 f, SC.raw (Value.pointer none)] 199), (93, SO.mp true []), (95, SO.cells (ds6_17 a b c d e f g) 204), (109, SO.cells (ds6_1 k hk p hp q hq) 77), (110, SO.cells [SC.int
 true .i64 (0 : Int), SC.int true .i64 (0 : Int)] 82), (128, SO.cells [SC.int true .i64 (0 : Int), SC.int true .i64 (0 : Int)] 82), (141, SO.cells (ds6_1 k hk p hp q hq) 77), (142,
 SO.cells [SC.int true .i64 (0 : Int), SC.int true .i64 (0 : Int)] 82), (168, SO.cells [SC.int false .u64 a, SC.raw (Value.pointer none)] 199), (176, SO.cells [SC.int false .u64 a,
 SC.raw (Value.pointer none)] 199), (196, SO.cells [SC.int true .u64 (0 : Int), SC.raw (Value.pointer none)] 199), (199, SO.cells [SC.int false .u64 a, SC.raw (Value.pointer none)]
 199), (200, SO.cells [SC.int true .u64 (0 : Int), SC.raw (Value.pointer none)] 199), (215, SO.cells (ds6_5) 87)] 229) Scr.nil)) ∧ True))) ∧ True)) ∧ (decide (max (max b e) g ≤ (256
 : Int)) = false → true = true)) ∧ (decide (min (min (min b e) g) d ≥ (0 : Int)) = false → true = true)) := by
  kernel_rfl
theorem ds6_run (a b c d e f g : Int) (k p q : Int) (hk : 0 ≤ k ∧ k ≤ 255) (hp : 0 ≤ p ∧ p ≤ 1023) (hq : 0 ≤ q ∧ q ≤ 1023) (hc : DsOk a b c d e f g) : Run (callN Try.prog (tblDS : List (Smry Try.prog XN)) (fun _ _ => false) 100 20 4 [.agg [.int false .u64 a, .int false .i64 b, .int false .u64 c, .int false .i64 d, .int false .i64 e, .int false .u64 f, .int false .i64 g], .agg [.int true .i64 6, .int false .i64 k (.w 0 255 hk), .int false .i64 p (.w 0 1023 hp), .int false .i64 q (.w 0 1023 hq)]] ⟨[], 1⟩ (.cut 4 (liveL [2, 3, 4, 5, 6, 8, 9, 11, 13, 131]) [] Unit (fun _ _ => ([], [])) .nil fun _ => .nil) (fun v _ _ => retTrue v)) := by
  constructor
  rw [ds6_vc]
  delta ds6_1 ds6_2 ds6_20 ds6_24 ds6_23 ds6_27 ds6_3 ds6_4 ds6_5 ds6_6 ds6_7 ds6_8 ds6_9 ds6_10 ds6_11 ds6_12 ds6_13 ds6_14 ds6_15 ds6_16 ds6_17 ds6_18 ds6_19 ds6_21 ds6_22 ds6_25 ds6_26 ds6_28
  obtain ⟨⟨⟨ha0, ha1⟩, ⟨hb0, hb1⟩, hc0, hc1⟩, ⟨hd0, hd1⟩, ⟨he0, he1⟩, ⟨hf0, hf1⟩, hg0, hg1⟩ := hc
  repeat' first
    | (refine fun (K : KO XN) => ?_; simp only [eq_self, true_and, and_true, imp_self, implies_true]; first | done | exact id; done)
    | with_reducible apply And.intro
    | with_reducible exact trivial
    | with_reducible exact Eq.refl _
    | (with_reducible refine Exists.intro () ?_)
    | (intro h; simp only [bne_self_eq_false, Bool.false_eq_true] at h; done)
    | intro _
  all_goals first
    | omega
    | with_reducible assumption
    | (simp only [Bool.not_eq_false', Bool.not_eq_true', decide_eq_true_eq, decide_eq_false_iff_not] at *; omega)
    | (simp_all; done)
end Go.Proofs.Ytnkikhhiaecebaa
