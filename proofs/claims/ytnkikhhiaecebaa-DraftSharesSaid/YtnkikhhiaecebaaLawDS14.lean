/- DraftShares, code 14. -/
import Derived.Test.YtnkikhhiaecebaaDsT
import Derived.Test.YtnkikhhiaecebaaBaseC
set_option linter.all false
namespace Go.Proofs.Ytnkikhhiaecebaa
open Go Go.RowKit
set_option maxRecDepth 1000000
set_option maxHeartbeats 0
def ds14_1 (k : Int) (hk : 0 ≤ k ∧ k ≤ 255) (p : Int) (hp : 0 ≤ p ∧ p ≤ 1023) (q : Int) (hq : 0 ≤ q ∧ q ≤ 1023) : List SC := [SC.int true .i64 (14 : Int), SC.int false .i64 k (Bd.w
 (0 : Int) (255 : Int) hk), SC.int false .i64 p (Bd.w (0 : Int) (1023 : Int) hp), SC.int false .i64 q (Bd.w (0 : Int) (1023 : Int) hq)]
def ds14_2 (a b c d e f g : Int) : List SC := [SC.int false .u64 a, SC.int false .i64 b, SC.int false .u64 c, SC.int false .i64 d, SC.int false .i64 e, SC.int false .u64 f, SC.int
 false .i64 g]
def ds14_20  : List SC := [SC.int true .u64 (0 : Int), SC.int true .u64 (0 : Int), SC.int true .u64 (0 : Int), SC.int true .u64 (0 : Int)]
def ds14_24  : ST := nu (nv (SV.c (tb false)) (nu (np 95 10 tn tn) nu0) (nu nu0 tn)) (nv (SV.c (SC.raw (Value.pointer none))) (nu (nv (SV.tup [(true, (ds14_20)), (false, [tb
 false])]) tn tn) tn) (nu nu0 tn))
def ds14_23 (k : Int) : SV := SV.c (SC.int false .i64 (dkF k (0 : Int)) (Bd.w (0 : Int) (3 : Int) (dkF_bd k (Int.ofNat 0))))
def ds14_26  : ST := nv (SV.c (tb false)) (nu (nv (SV.agg (ds14_20)) tn tn) tn) (nv (SV.tup [(true, (ds14_20)), (false, [tb false])]) nu0 tn)
def ds14_3 (f k : Int) : SF := SF.mk 50 (np 95 0 (nv (SV.agg [SC.int false .u64 f, SC.raw (Value.pointer none)]) (ds14_24) (nu (nv (SV.c (tb false)) (nu (np 250 0 tn tn) nu0) (nu
 nu0 tn)) (nu (nu (nv (SV.c (tb false)) tn tn) tn) (np 95 0 nu0 tn)))) (nv (ds14_23 k) (np 250 0 (np 266 0 (nu (nv (SV.c (SC.map 93)) tn tn) nu0) (nu nu0 tn)) (ds14_26)) (np 251 0
 (np 250 1 (nu (nv (SV.c (SC.int false .u64 f)) tn tn) tn) (nu nu0 tn)) (nu (nu nu0 tn) (np 95 0 nu0 tn))))) []
def ds14_4 (f k : Int) : SF := SF.mk 50 (np 95 0 (nv (SV.agg [SC.int false .u64 f, SC.raw (Value.pointer none)]) (ds14_24) (nu (nv (SV.c (tb false)) (nu (np 193 0 tn tn) nu0) (nu
 nu0 tn)) (nu (nu (nv (SV.c (tb false)) tn tn) tn) (np 95 0 nu0 tn)))) (nv (ds14_23 k) (np 193 0 (np 209 0 (nu (nv (SV.c (SC.map 93)) tn tn) nu0) (nu nu0 tn)) (ds14_26)) (np 194 0
 (np 193 1 (nu (nv (SV.c (SC.int false .u64 f)) tn tn) tn) (nu nu0 tn)) (nu (nu nu0 tn) (np 95 0 nu0 tn))))) []
def ds14_5  : List SC := [SC.int true .u64 (0 : Int), SC.int true .u64 (0 : Int), SC.int true .u64 (0 : Int), SC.int true .u64 (0 : Int)]
def ds14_6 (a c f b d e g : Int) (X0 : Prop) : Prop := a = a ∧ Value.pointer none = Value.pointer none ∧ c = c ∧ Value.pointer none = Value.pointer none ∧ f = f ∧ Value.pointer none
 = Value.pointer none ∧ ([] : List (Int × Value)) = [] ∧ a = a ∧ b = b ∧ c = c ∧ d = d ∧ e = e ∧ f = f ∧ g = g ∧ f = f ∧ Value.pointer none = Value.pointer none ∧ (X0 ∧ True) ∧ True
def ds14_7 (f : Int) : ST := nv (SV.c (SC.int true .i64 (2 : Int))) (nu (nv (SV.c (tb false)) (np 95 7 (nv (SV.tup [(true, [SC.int true .u64 (0 : Int), SC.raw (Value.pointer
 none)]), (false, [tb false])]) tn tn) tn) (nv (SV.agg [SC.int false .u64 f, SC.raw (Value.pointer none)]) nu0 tn)) (nv (SV.c (tb false)) (nv (SV.agg [SC.int false .u64 f, SC.raw
 (Value.pointer none)]) nu0 tn) (nv (SV.agg [SC.int false .u64 f, SC.raw (Value.pointer none)]) tn tn))) (nu (nv (SV.c (SC.int true .i64 (0 : Int))) (np 91 0 (nv (SV.c (tb false)) tn
 tn) tn) (nv (SV.tup [(true, [SC.int true .u64 (0 : Int), SC.raw (Value.pointer none)]), (false, [tb false])]) tn tn)) (nv (SV.c (SC.int true .i64 (2 : Int))) (nv (SV.c (tb true))
 nu0 tn) (nv (SV.c (SC.int true .i64 (0 : Int))) tn tn)))
def ds14_8 (a c f b d e g : Int) (X0 : Prop) : Prop := a = a ∧ Value.pointer none = Value.pointer none ∧ c = c ∧ Value.pointer none = Value.pointer none ∧ f = f ∧ Value.pointer none
 = Value.pointer none ∧ ([] : List (Int × Value)) = [] ∧ a = a ∧ b = b ∧ c = c ∧ d = d ∧ e = e ∧ f = f ∧ g = g ∧ f = f ∧ Value.pointer none = Value.pointer none ∧ X0 ∧ True
def ds14_9 (a b c d e f g : Int) : List SC := [SC.int false .u64 a, SC.int false .i64 b, SC.int false .u64 c, SC.int false .i64 d, SC.int false .i64 e, SC.int false .u64 f, SC.int
 false .i64 g, sp 83 0, sp 87 0, sp 91 0, SC.map 93, SC.nls, SC.nls, SC.nls, SC.int true .u64 (0 : Int)]
def ds14_10 (a c f b d e g : Int) (X0 : Prop) : Prop := (a = a ∧ Value.pointer none = Value.pointer none ∧ c = c ∧ Value.pointer none = Value.pointer none ∧ f = f ∧ Value.pointer
 none = Value.pointer none ∧ ([] : List (Int × Value)) = [] ∧ a = a ∧ b = b ∧ c = c ∧ d = d ∧ e = e ∧ f = f ∧ g = g ∧ f = f ∧ Value.pointer none = Value.pointer none ∧ ((X0 ∧ True) ∧
 True) ∧ True) ∧ True
def ds14_11 (a c f b d e g : Int) (X0 : Prop) (k : Int) (hk : 0 ≤ k ∧ k ≤ 255) (p : Int) (hp : 0 ≤ p ∧ p ≤ 1023) (q : Int) (hq : 0 ≤ q ∧ q ≤ 1023) : Prop := a = a ∧ Value.pointer
 none = Value.pointer none ∧ c = c ∧ Value.pointer none = Value.pointer none ∧ f = f ∧ Value.pointer none = Value.pointer none ∧ ([] : List (Int × Value)) = [] ∧ a = a ∧ b = b ∧ c =
 c ∧ d = d ∧ e = e ∧ f = f ∧ g = g ∧ f = f ∧ Value.pointer none = Value.pointer none ∧ (((ds14_6 a c f b d e g X0) ∧ True) ∧ (∀ (K : KO XN), (fun X1 : Prop => (ds14_8 a c f b d e g
 X1) ∧ True → ds14_6 a c f b d e g X1) (K (ds14_3 f k) (Mem.mk [(1, SO.cells (ds14_2 a b c d e f g) 75), (2, SO.cells (ds14_1 k hk p hp q hq) 77), (45, SO.cells (ds14_2 a b c d e f
 g) 75), (51, SO.cells (ds14_2 a b c d e f g) 75), (83, SO.cells [SC.int false .u64 a, SC.raw (Value.pointer none)] 199), (87, SO.cells [SC.int false .u64 c, SC.raw (Value.pointer
 none)] 199), (91, SO.cells [SC.int false .u64 f, SC.raw (Value.pointer none)] 199), (93, SO.mp true []), (95, SO.cells (ds14_9 a b c d e f g) 204), (109, SO.cells (ds14_1 k hk p hp
 q hq) 77), (110, SO.cells [SC.int true .i64 (0 : Int), SC.int true .i64 (0 : Int)] 82), (128, SO.cells [SC.int true .i64 (0 : Int), SC.int true .i64 (0 : Int)] 82), (141, SO.cells
 (ds14_1 k hk p hp q hq) 77), (142, SO.cells [SC.int true .i64 (0 : Int), SC.int true .i64 (0 : Int)] 82), (162, SO.cells [SC.int false .u64 f, SC.raw (Value.pointer none)] 199),
 (170, SO.cells [SC.int false .u64 f, SC.raw (Value.pointer none)] 199), (219, SO.cells [SC.int false .u64 f, SC.raw (Value.pointer none)] 199), (227, SO.cells [SC.int false .u64 f,
 SC.raw (Value.pointer none)] 199), (247, SO.cells [SC.int true .u64 (0 : Int), SC.raw (Value.pointer none)] 199), (250, SO.cells [SC.int false .u64 f, SC.raw (Value.pointer none)]
 199), (251, SO.cells [SC.int true .u64 (0 : Int), SC.raw (Value.pointer none)] 199), (266, SO.cells (ds14_5) 87)] 256) Scr.nil)) ∧ True) ∧ True
def ds14_12 (a b c e d : Int) : Prop := ((a != a) = true → false = true) ∧ ((a != a) = false → ((b != b) = true → false = true) ∧ ((b != b) = false → ((c != c) = true → false =
 true) ∧ ((c != c) = false → ((e != e) = true → false = true) ∧ ((e != e) = false → ((d != d) = true → false = true) ∧ ((d != d) = false → true = true)))))
def ds14_13 (a c f b d e g : Int) (X0 : Prop) (k : Int) (hk : 0 ≤ k ∧ k ≤ 255) (p : Int) (hp : 0 ≤ p ∧ p ≤ 1023) (q : Int) (hq : 0 ≤ q ∧ q ≤ 1023) : Prop := a = a ∧ Value.pointer
 none = Value.pointer none ∧ c = c ∧ Value.pointer none = Value.pointer none ∧ f = f ∧ Value.pointer none = Value.pointer none ∧ ([] : List (Int × Value)) = [] ∧ a = a ∧ b = b ∧ c =
 c ∧ d = d ∧ e = e ∧ f = f ∧ g = g ∧ f = f ∧ Value.pointer none = Value.pointer none ∧ (((ds14_6 a c f b d e g X0) ∧ True) ∧ (∀ (K : KO XN), (fun X1 : Prop => (ds14_8 a c f b d e g
 X1) ∧ True → ds14_6 a c f b d e g X1) (K (ds14_4 f k) (Mem.mk [(1, SO.cells (ds14_2 a b c d e f g) 75), (2, SO.cells (ds14_1 k hk p hp q hq) 77), (45, SO.cells (ds14_2 a b c d e f
 g) 75), (51, SO.cells (ds14_2 a b c d e f g) 75), (83, SO.cells [SC.int false .u64 a, SC.raw (Value.pointer none)] 199), (87, SO.cells [SC.int false .u64 c, SC.raw (Value.pointer
 none)] 199), (91, SO.cells [SC.int false .u64 f, SC.raw (Value.pointer none)] 199), (93, SO.mp true []), (95, SO.cells (ds14_9 a b c d e f g) 204), (109, SO.cells (ds14_1 k hk p hp
 q hq) 77), (110, SO.cells [SC.int true .i64 (0 : Int), SC.int true .i64 (0 : Int)] 82), (128, SO.cells [SC.int true .i64 (0 : Int), SC.int true .i64 (0 : Int)] 82), (141, SO.cells
 (ds14_1 k hk p hp q hq) 77), (142, SO.cells [SC.int true .i64 (0 : Int), SC.int true .i64 (0 : Int)] 82), (162, SO.cells [SC.int false .u64 f, SC.raw (Value.pointer none)] 199),
 (170, SO.cells [SC.int false .u64 f, SC.raw (Value.pointer none)] 199), (190, SO.cells [SC.int true .u64 (0 : Int), SC.raw (Value.pointer none)] 199), (193, SO.cells [SC.int false
 .u64 f, SC.raw (Value.pointer none)] 199), (194, SO.cells [SC.int true .u64 (0 : Int), SC.raw (Value.pointer none)] 199), (209, SO.cells (ds14_5) 87)] 199) Scr.nil)) ∧ True) ∧ True
def ds14_14 (f k : Int) (hk : 0 ≤ k ∧ k ≤ 255) : SF := SF.mk 40 (np 95 0 (ds14_7 f) (nv (SV.c (SC.int false .i64 k (Bd.w (0 : Int) (255 : Int) hk))) (nu (np 219 0 (np 95 9 (nv
 (SV.agg [SC.int true .u64 (0 : Int), SC.raw (Value.pointer none)]) tn tn) tn) (nv (SV.c (tb false)) tn tn)) (np 95 0 (nv (SV.c (SC.int true .i64 (0 : Int))) nu0 tn) (nv (SV.c
 (SC.int false .i64 k (Bd.w (0 : Int) (255 : Int) hk))) tn tn))) (nv (SV.c (SC.int true .u64 (0 : Int))) (np 247 0 (np 91 0 nu0 tn) (np 95 0 tn tn)) (np 95 0 (nv (SV.c (SC.int true
 .i64 (0 : Int))) nu0 tn) (nv (ds14_23 k) tn tn))))) []
def ds14_15 (f k : Int) (hk : 0 ≤ k ∧ k ≤ 255) : SF := SF.mk 40 (np 95 0 (ds14_7 f) (nv (SV.c (SC.int false .i64 k (Bd.w (0 : Int) (255 : Int) hk))) (nu (np 162 0 (np 95 9 (nv
 (SV.agg [SC.int true .u64 (0 : Int), SC.raw (Value.pointer none)]) tn tn) tn) (nv (SV.c (tb false)) tn tn)) (np 95 0 (nv (SV.c (SC.int true .i64 (0 : Int))) nu0 tn) (nv (SV.c
 (SC.int false .i64 k (Bd.w (0 : Int) (255 : Int) hk))) tn tn))) (nv (SV.c (SC.int true .u64 (0 : Int))) (np 190 0 (np 91 0 nu0 tn) (np 95 0 tn tn)) (np 95 0 (nv (SV.c (SC.int true
 .i64 (0 : Int))) nu0 tn) (nv (ds14_23 k) tn tn))))) []
def ds14_16 (a c f b d e g k : Int) (hk : 0 ≤ k ∧ k ≤ 255) (p : Int) (hp : 0 ≤ p ∧ p ≤ 1023) (q : Int) (hq : 0 ≤ q ∧ q ≤ 1023) : Prop := ∀ (K : KO XN), (fun X1 : Prop => (ds14_8 a c
 f b d e g X1) ∧ True → ds14_6 a c f b d e g X1) (K (ds14_3 f k) (Mem.mk [(1, SO.cells (ds14_2 a b c d e f g) 75), (2, SO.cells (ds14_1 k hk p hp q hq) 77), (45, SO.cells (ds14_2 a b
 c d e f g) 75), (51, SO.cells (ds14_2 a b c d e f g) 75), (83, SO.cells [SC.int false .u64 a, SC.raw (Value.pointer none)] 199), (87, SO.cells [SC.int false .u64 c, SC.raw
 (Value.pointer none)] 199), (91, SO.cells [SC.int false .u64 f, SC.raw (Value.pointer none)] 199), (93, SO.mp true []), (95, SO.cells (ds14_9 a b c d e f g) 204), (109, SO.cells
 (ds14_1 k hk p hp q hq) 77), (110, SO.cells [SC.int true .i64 (0 : Int), SC.int true .i64 (0 : Int)] 82), (128, SO.cells [SC.int true .i64 (0 : Int), SC.int true .i64 (0 : Int)]
 82), (141, SO.cells (ds14_1 k hk p hp q hq) 77), (142, SO.cells [SC.int true .i64 (0 : Int), SC.int true .i64 (0 : Int)] 82), (162, SO.cells [SC.int false .u64 f, SC.raw
 (Value.pointer none)] 199), (170, SO.cells [SC.int false .u64 f, SC.raw (Value.pointer none)] 199), (219, SO.cells [SC.int false .u64 f, SC.raw (Value.pointer none)] 199), (227,
 SO.cells [SC.int false .u64 f, SC.raw (Value.pointer none)] 199), (250, SO.cells [SC.int false .u64 f, SC.raw (Value.pointer none)] 199), (251, SO.cells [SC.int true .u64 (0 : Int),
 SC.raw (Value.pointer none)] 199), (266, SO.cells (ds14_5) 87)] 256) Scr.nil)
def ds14_17 (a b c d e f g : Int) : List SC := [SC.int false .u64 a, SC.int false .i64 b, SC.int false .u64 c, SC.int false .i64 d, SC.int false .i64 e, SC.int false .u64 f, SC.int
 false .i64 g, sp 83 0, sp 87 0, sp 91 0, SC.map 93, SC.nls, SC.nls, SC.nls, SC.int false .u64 f]
def ds14_18 (a c f b d e g k : Int) (hk : 0 ≤ k ∧ k ≤ 255) (p : Int) (hp : 0 ≤ p ∧ p ≤ 1023) (q : Int) (hq : 0 ≤ q ∧ q ≤ 1023) : Prop := ∀ (K : KO XN), (fun X1 : Prop => (ds14_8 a c
 f b d e g X1) ∧ True → ds14_6 a c f b d e g X1) (K (ds14_4 f k) (Mem.mk [(1, SO.cells (ds14_2 a b c d e f g) 75), (2, SO.cells (ds14_1 k hk p hp q hq) 77), (45, SO.cells (ds14_2 a b
 c d e f g) 75), (51, SO.cells (ds14_2 a b c d e f g) 75), (83, SO.cells [SC.int false .u64 a, SC.raw (Value.pointer none)] 199), (87, SO.cells [SC.int false .u64 c, SC.raw
 (Value.pointer none)] 199), (91, SO.cells [SC.int false .u64 f, SC.raw (Value.pointer none)] 199), (93, SO.mp true []), (95, SO.cells (ds14_9 a b c d e f g) 204), (109, SO.cells
 (ds14_1 k hk p hp q hq) 77), (110, SO.cells [SC.int true .i64 (0 : Int), SC.int true .i64 (0 : Int)] 82), (128, SO.cells [SC.int true .i64 (0 : Int), SC.int true .i64 (0 : Int)]
 82), (141, SO.cells (ds14_1 k hk p hp q hq) 77), (142, SO.cells [SC.int true .i64 (0 : Int), SC.int true .i64 (0 : Int)] 82), (162, SO.cells [SC.int false .u64 f, SC.raw
 (Value.pointer none)] 199), (170, SO.cells [SC.int false .u64 f, SC.raw (Value.pointer none)] 199), (193, SO.cells [SC.int false .u64 f, SC.raw (Value.pointer none)] 199), (194,
 SO.cells [SC.int true .u64 (0 : Int), SC.raw (Value.pointer none)] 199), (209, SO.cells (ds14_5) 87)] 199) Scr.nil)
def ds14_19 (k : Int) (hk : 0 ≤ k ∧ k ≤ 255) (p : Int) (hp : 0 ≤ p ∧ p ≤ 1023) (q : Int) (hq : 0 ≤ q ∧ q ≤ 1023) (g : Int) : ST := nv (SV.agg (ds14_1 k hk p hp q hq)) (np 141 0 (nv
 (SV.tup [(false, [SC.int true .u64 (0 : Int)]), (false, [tb true])]) (nv (SV.c (tb true)) (nu nu0 tn) (np 95 0 nu0 tn)) (nu (nu nu0 tn) (nv (SV.c (SC.int false .i64 g)) nu0 tn)))
 (nv (SV.tup [(false, [SC.int true .u64 (0 : Int)]), (false, [tb true])]) (np 141 0 (nu nu0 tn) (np 95 0 nu0 tn)) (nu (nv (SV.c (tb true)) nu0 tn) (np 95 0 nu0 tn)))) (nv (SV.c
 (SC.int true .u64 (0 : Int))) (np 141 1 (nu (nu nu0 tn) (nv (SV.c (SC.int false .i64 k (Bd.w (0 : Int) (255 : Int) hk))) nu0 tn)) (nu (nu nu0 tn) (nv (SV.c (SC.int true .i64 (0 :
 Int))) nu0 tn))) (nv (SV.c (tb true)) (nv (SV.c (tb false)) (nu nu0 tn) (np 95 0 nu0 tn)) (nu (nv (SV.c (SC.int true .i64 (14 : Int))) nu0 tn) (np 95 6 tn tn))))
def ds14_21 (g : Int) : Prop := (-9223372036854775808 : Int) ≤ g + (0 : Int) ∧ g + (0 : Int) ≤ (9223372036854775807 : Int)
def ds14_22  : ST := np 142 0 (np 95 0 (nv (SV.c (tb false)) (nu nu0 tn) (np 141 1 nu0 tn)) (nu (nu nu0 tn) (nv (SV.c (SC.int true .u64 (0 : Int))) nu0 tn))) (nv (SV.c (SC.int true
 .u64 (0 : Int))) (nv (SV.c (SC.int true .i64 (14 : Int))) (nu nu0 tn) (np 95 0 nu0 tn)) (nu (np 141 0 nu0 tn) (np 95 0 tn tn)))
def ds14_25 (c f g : Int) (X0 : Prop) : Prop := Value.pointer none = Value.pointer none ∧ c = c ∧ Value.pointer none = Value.pointer none ∧ f = f ∧ Value.pointer none =
 Value.pointer none ∧ ([] : List (Int × Value)) = [] ∧ ((ds14_21 g) ∧ X0 ∧ True) ∧ True
def ds14_27 (c f g : Int) (X0 : Prop) : Prop := Value.pointer none = Value.pointer none ∧ c = c ∧ Value.pointer none = Value.pointer none ∧ f = f ∧ Value.pointer none =
 Value.pointer none ∧ ([] : List (Int × Value)) = [] ∧ (ds14_21 g) ∧ X0 ∧ True
/-- What the executor leaves to be shown of roundelay/roundelaylaw08.DraftShares, written out. -/
theorem ds14_vc (a b c d e f g : Int) (k p q : Int) (hk : 0 ≤ k ∧ k ≤ 255) (hp : 0 ≤ p ∧ p ≤ 1023) (hq : 0 ≤ q ∧ q ≤ 1023) : (callN Try.prog (tblDS : List (Smry Try.prog XN)) (fun _ _ => false) 100 20 4 [.agg [.int false .u64 a, .int false .i64 b, .int false .u64 c, .int false .i64 d, .int false .i64 e, .int false .u64 f, .int false .i64 g], .agg [.int true .i64 14, .int false .i64 k (.w 0 255 hk), .int false .i64 p (.w 0 1023 hp), .int false .i64 q (.w 0 1023 hq)]] ⟨[], 1⟩ (.cut 4 (liveL [2, 3, 4, 5, 6, 8, 9, 11, 13, 131]) [] Unit (fun _ _ => ([], [])) .nil fun _ => .nil) (fun v _ _ => retTrue v)) = (
 (((c == (0 : Int)) = true → (decide (e > (0 : Int)) = true → ∃ (y : Unit), a = a ∧ b = b ∧ c = c ∧ d = d ∧ e = e ∧ f = f ∧ g = g ∧ k = k ∧ p = p ∧ q = q ∧ True) ∧ (decide (e > (0 :
 Int)) = false → ∃ (y : Unit), a = a ∧ b = b ∧ c = c ∧ d = d ∧ e = e ∧ f = f ∧ g = g ∧ k = k ∧ p = p ∧ q = q ∧ True)) ∧ ((c == (0 : Int)) = false → ∃ (y : Unit), a = a ∧ b = b ∧ c =
 c ∧ d = d ∧ e = e ∧ f = f ∧ g = g ∧ k = k ∧ p = p ∧ q = q ∧ True)) ∧ ∀ (y : Unit) (ρ : Nat → Value), (decide (min (min (min b e) g) d ≥ (0 : Int)) = true → (decide (max (max b e) g
 ≤ (256 : Int)) = true → ((!decide (d < (256 : Int))) = true → true = true) ∧ ((!decide (d < (256 : Int))) = false → True ∧ (∀ (z : Un), True → ((!decide (RightO (14 : Int) k p q)) =
 true → ds14_12 a b c e d) ∧ ((!decide (RightO (14 : Int) k p q)) = false → ((f == (0 : Int)) = true → ((f == (0 : Int)) = true → ((a = a ∧ Value.pointer none = Value.pointer none ∧
 c = c ∧ Value.pointer none = Value.pointer none ∧ f = f ∧ Value.pointer none = Value.pointer none ∧ ([] : List (Int × Value)) = [] ∧ (ds14_21 g) ∧ (ds14_12 a b c e d) ∧ True) ∧
 True) ∧ (∀ (K : KO XN), (fun X0 : Prop => (a = a ∧ ds14_27 c f g X0) ∧ True → a = a ∧ ds14_25 c f g X0) (K (SF.mk 92 (np 95 0 (ds14_19 k hk p hp q hq g) (nu (ds14_22) (nv (SV.c (tb
 true)) (nv (SV.c (SC.int false .i64 k (Bd.w (0 : Int) (255 : Int) hk))) (nv (SV.c (tb false)) (nu nu0 tn) (nv (SV.tup [(false, [SC.int true .u64 (0 : Int)]), (false, [tb true])])
 nu0 tn)) (nu (nu nu0 tn) (nv (SV.c (si .i64 (g + (0 : Int)))) nu0 tn))) (nv (SV.c (tb false)) (nu (nu nu0 tn) (np 95 6 nu0 tn)) (nu (nv (SV.c (tb true)) nu0 tn) nu0))))) []) (Mem.mk
 [(1, SO.cells (ds14_2 a b c d e f g) 75), (2, SO.cells (ds14_1 k hk p hp q hq) 77), (45, SO.cells (ds14_2 a b c d e f g) 75), (51, SO.cells (ds14_2 a b c d e f g) 75), (83, SO.cells
 [SC.int false .u64 a, SC.raw (Value.pointer none)] 199), (87, SO.cells [SC.int false .u64 c, SC.raw (Value.pointer none)] 199), (91, SO.cells [SC.int false .u64 f, SC.raw
 (Value.pointer none)] 199), (93, SO.mp true []), (95, SO.cells [SC.int false .u64 a, SC.int false .i64 b, SC.int false .u64 c, SC.int false .i64 d, SC.int false .i64 e, SC.int false
 .u64 f, si .i64 (g + (0 : Int)), sp 83 0, sp 87 0, sp 91 0, SC.map 93, SC.nls, SC.nls, SC.nls, SC.int true .u64 (0 : Int)] 204), (109, SO.cells (ds14_1 k hk p hp q hq) 77), (110,
 SO.cells [SC.int true .i64 (0 : Int), SC.int true .i64 (0 : Int)] 82), (128, SO.cells [SC.int true .i64 (0 : Int), SC.int true .i64 (0 : Int)] 82), (141, SO.cells (ds14_1 k hk p hp
 q hq) 77), (142, SO.cells [SC.int true .i64 (0 : Int), SC.int true .i64 (0 : Int)] 82), (162, SO.cells [SC.int false .u64 f, SC.raw (Value.pointer none)] 199), (170, SO.cells
 [SC.int false .u64 f, SC.raw (Value.pointer none)] 199), (219, SO.cells [SC.int false .u64 f, SC.raw (Value.pointer none)] 199), (227, SO.cells [SC.int false .u64 f, SC.raw
 (Value.pointer none)] 199)] 278) Scr.nil)) ∧ True) ∧ ((f == (0 : Int)) = false → (True ∧ (∀ (z : Un), True → a = a ∧ Value.pointer none = Value.pointer none ∧ c = c ∧ Value.pointer
 none = Value.pointer none ∧ f = f ∧ Value.pointer none = Value.pointer none ∧ ([] : List (Int × Value)) = [] ∧ a = a ∧ b = b ∧ c = c ∧ d = d ∧ e = e ∧ f = f ∧ g = g ∧ f = f ∧
 Value.pointer none = Value.pointer none ∧ (((a = a ∧ Value.pointer none = Value.pointer none ∧ c = c ∧ Value.pointer none = Value.pointer none ∧ f = f ∧ Value.pointer none =
 Value.pointer none ∧ ([] : List (Int × Value)) = [] ∧ a = a ∧ b = b ∧ c = c ∧ d = d ∧ e = e ∧ f = f ∧ g = g ∧ f = f ∧ Value.pointer none = Value.pointer none ∧ (((((a = a ∧
 Value.pointer none = Value.pointer none ∧ c = c ∧ Value.pointer none = Value.pointer none ∧ f = f ∧ Value.pointer none = Value.pointer none ∧ ([] : List (Int × Value)) = [] ∧
 (ds14_21 g) ∧ (((f != (0 : Int)) = true → (a = a ∧ Value.pointer none = Value.pointer none ∧ c = c ∧ Value.pointer none = Value.pointer none ∧ f = f ∧ Value.pointer none =
 Value.pointer none ∧ ([] : List (Int × Value)) = [] ∧ a = a ∧ b = b ∧ c = c ∧ d = d ∧ e = e ∧ f = f ∧ g + (0 : Int) = g + (0 : Int) ∧ f = f ∧ ((f != (0 : Int)) = true → ((true == (a
 == a && (b == b && (c == c && (d == d && (e == e && (f == f && (g + (0 : Int) == g && true)))))))) = true → true = true) ∧ ((true == (a == a && (b == b && (c == c && (d == d && (e
 == e && (f == f && (g + (0 : Int) == g && true)))))))) = false → false = true)) ∧ ((f != (0 : Int)) = false → ds14_12 a b c e d)) ∧ True) ∧ ((f != (0 : Int)) = false → ds14_12 a b c
 e d)) ∧ True) ∧ True) ∧ (∀ (K : KO XN), (fun X0 : Prop => (a = a ∧ ds14_27 c f g X0) ∧ True → a = a ∧ ds14_25 c f g X0) (K (SF.mk 92 (np 95 0 (ds14_19 k hk p hp q hq g) (nu
 (ds14_22) (nv (SV.c (tb true)) (nv (SV.c (SC.int false .i64 k (Bd.w (0 : Int) (255 : Int) hk))) (nv (SV.c (tb false)) (nu nu0 tn) (nv (SV.tup [(false, [SC.int true .u64 (0 : Int)]),
 (false, [tb false])]) nu0 tn)) (nu (nu nu0 tn) (nv (SV.c (si .i64 (g + (0 : Int)))) nu0 tn))) (nv (SV.c (tb false)) (nu (nu nu0 tn) (np 95 6 nu0 tn)) (nu (nv (SV.c (tb true)) nu0
 tn) nu0))))) []) (Mem.mk [(1, SO.cells (ds14_2 a b c d e f g) 75), (2, SO.cells (ds14_1 k hk p hp q hq) 77), (45, SO.cells (ds14_2 a b c d e f g) 75), (51, SO.cells (ds14_2 a b c d
 e f g) 75), (83, SO.cells [SC.int false .u64 a, SC.raw (Value.pointer none)] 199), (87, SO.cells [SC.int false .u64 c, SC.raw (Value.pointer none)] 199), (91, SO.cells [SC.int false
 .u64 f, SC.raw (Value.pointer none)] 199), (93, SO.mp true []), (95, SO.cells [SC.int false .u64 a, SC.int false .i64 b, SC.int false .u64 c, SC.int false .i64 d, SC.int false .i64
 e, SC.int false .u64 f, si .i64 (g + (0 : Int)), sp 83 0, sp 87 0, sp 91 0, SC.map 93, SC.nls, SC.nls, SC.nls, SC.int false .u64 f] 204), (109, SO.cells (ds14_1 k hk p hp q hq) 77),
 (110, SO.cells [SC.int true .i64 (0 : Int), SC.int true .i64 (0 : Int)] 82), (128, SO.cells [SC.int true .i64 (0 : Int), SC.int true .i64 (0 : Int)] 82), (141, SO.cells (ds14_1 k hk
 p hp q hq) 77), (142, SO.cells [SC.int true .i64 (0 : Int), SC.int true .i64 (0 : Int)] 82), (162, SO.cells [SC.int false .u64 f, SC.raw (Value.pointer none)] 199), (170, SO.cells
 [SC.int false .u64 f, SC.raw (Value.pointer none)] 199), (219, SO.cells [SC.int false .u64 f, SC.raw (Value.pointer none)] 199), (227, SO.cells [SC.int false .u64 f, SC.raw
 (Value.pointer none)] 199), (247, SO.cells [SC.int true .u64 (0 : Int), SC.raw (Value.pointer none)] 199), (250, SO.cells [SC.int false .u64 f, SC.raw (Value.pointer none)] 199),
 (251, SO.cells [SC.int true .u64 (0 : Int), SC.raw (Value.pointer none)] 199), (266, SO.cells (ds14_5) 87)] 322) Scr.nil)) ∧ True) ∧ True) ∧ True) ∧ True) ∧ True) ∧ (∀ (K : KO XN),
 (fun X0 : Prop => (ds14_8 a c f b d e g X0) ∧ True → ds14_6 a c f b d e g X0) (K (ds14_3 f k) (Mem.mk [(1, SO.cells (ds14_2 a b c d e f g) 75), (2, SO.cells (ds14_1 k hk p hp q hq)
 77), (45, SO.cells (ds14_2 a b c d e f g) 75), (51, SO.cells (ds14_2 a b c d e f g) 75), (83, SO.cells [SC.int false .u64 a, SC.raw (Value.pointer none)] 199), (87, SO.cells [SC.int
 false .u64 c, SC.raw (Value.pointer none)] 199), (91, SO.cells [SC.int false .u64 f, SC.raw (Value.pointer none)] 199), (93, SO.mp true []), (95, SO.cells (ds14_9 a b c d e f g)
 204), (109, SO.cells (ds14_1 k hk p hp q hq) 77), (110, SO.cells [SC.int true .i64 (0 : Int), SC.int true .i64 (0 : Int)] 82), (128, SO.cells [SC.int true .i64 (0 : Int), SC.int
 true .i64 (0 : Int)] 82), (141, SO.cells (ds14_1 k hk p hp q hq) 77), (142, SO.cells [SC.int true .i64 (0 : Int), SC.int true .i64 (0 : Int)] 82), (162, SO.cells [SC.int false .u64
 f, SC.raw (Value.pointer none)] 199), (170, SO.cells [SC.int false .u64 f, SC.raw (Value.pointer none)] 199), (219, SO.cells [SC.int false .u64 f, SC.raw (Value.pointer none)] 199),
 (227, SO.cells [SC.int false .u64 f, SC.raw (Value.pointer none)] 199), (250, SO.cells [SC.int false .u64 f, SC.raw (Value.pointer none)] 199), (251, SO.cells [SC.int true .u64 (0 :
 Int), SC.raw (Value.pointer none)] 199), (266, SO.cells (ds14_5) 87)] 256) Scr.nil)) ∧ True) ∧ (∀ (K : KO XN), (fun X0 : Prop => (ds14_10 a c f b d e g X0) ∧ (ds14_16 a c f b d e g
 k hk p hp q hq) ∧ True → ds14_11 a c f b d e g X0 k hk p hp q hq) (K (ds14_14 f k hk) (Mem.mk [(1, SO.cells (ds14_2 a b c d e f g) 75), (2, SO.cells (ds14_1 k hk p hp q hq) 77),
 (45, SO.cells (ds14_2 a b c d e f g) 75), (51, SO.cells (ds14_2 a b c d e f g) 75), (83, SO.cells [SC.int false .u64 a, SC.raw (Value.pointer none)] 199), (87, SO.cells [SC.int
 false .u64 c, SC.raw (Value.pointer none)] 199), (91, SO.cells [SC.int false .u64 f, SC.raw (Value.pointer none)] 199), (93, SO.mp true []), (95, SO.cells (ds14_17 a b c d e f g)
 204), (109, SO.cells (ds14_1 k hk p hp q hq) 77), (110, SO.cells [SC.int true .i64 (0 : Int), SC.int true .i64 (0 : Int)] 82), (128, SO.cells [SC.int true .i64 (0 : Int), SC.int
 true .i64 (0 : Int)] 82), (141, SO.cells (ds14_1 k hk p hp q hq) 77), (142, SO.cells [SC.int true .i64 (0 : Int), SC.int true .i64 (0 : Int)] 82), (162, SO.cells [SC.int false .u64
 f, SC.raw (Value.pointer none)] 199), (170, SO.cells [SC.int false .u64 f, SC.raw (Value.pointer none)] 199), (219, SO.cells [SC.int false .u64 f, SC.raw (Value.pointer none)] 199),
 (227, SO.cells [SC.int false .u64 f, SC.raw (Value.pointer none)] 199), (247, SO.cells [SC.int true .u64 (0 : Int), SC.raw (Value.pointer none)] 199), (250, SO.cells [SC.int false
 .u64 f, SC.raw (Value.pointer none)] 199), (251, SO.cells [SC.int true .u64 (0 : Int), SC.raw (Value.pointer none)] 199), (266, SO.cells (ds14_5) 87)] 280) Scr.nil)) ∧ True) ∧ True)
 ∧ (∀ (K : KO XN), (fun X0 : Prop => True ∧ (∀ (z : Un), True → a = a ∧ Value.pointer none = Value.pointer none ∧ c = c ∧ Value.pointer none = Value.pointer none ∧ f = f ∧
 Value.pointer none = Value.pointer none ∧ ([] : List (Int × Value)) = [] ∧ a = a ∧ b = b ∧ c = c ∧ d = d ∧ e = e ∧ f = f ∧ g = g ∧ f = f ∧ Value.pointer none = Value.pointer none ∧
 ((ds14_10 a c f b d e g X0) ∧ (ds14_16 a c f b d e g k hk p hp q hq) ∧ True) ∧ (∀ (K : KO XN), (fun X1 : Prop => (ds14_10 a c f b d e g X1) ∧ (∀ (K : KO XN), (fun X2 : Prop =>
 (ds14_8 a c f b d e g X2) ∧ True → ds14_6 a c f b d e g X2) (K (ds14_3 f k) (Mem.mk [(1, SO.cells (ds14_2 a b c d e f g) 75), (2, SO.cells (ds14_1 k hk p hp q hq) 77), (45, SO.cells
 (ds14_2 a b c d e f g) 75), (51, SO.cells (ds14_2 a b c d e f g) 75), (83, SO.cells [SC.int false .u64 a, SC.raw (Value.pointer none)] 199), (87, SO.cells [SC.int false .u64 c,
 SC.raw (Value.pointer none)] 199), (91, SO.cells [SC.int false .u64 f, SC.raw (Value.pointer none)] 199), (93, SO.mp true []), (95, SO.cells (ds14_9 a b c d e f g) 204), (109,
 SO.cells (ds14_1 k hk p hp q hq) 77), (110, SO.cells [SC.int true .i64 (0 : Int), SC.int true .i64 (0 : Int)] 82), (128, SO.cells [SC.int true .i64 (0 : Int), SC.int true .i64 (0 :
 Int)] 82), (141, SO.cells (ds14_1 k hk p hp q hq) 77), (142, SO.cells [SC.int true .i64 (0 : Int), SC.int true .i64 (0 : Int)] 82), (162, SO.cells [SC.int false .u64 f, SC.raw
 (Value.pointer none)] 199), (170, SO.cells [SC.int false .u64 f, SC.raw (Value.pointer none)] 199), (219, SO.cells [SC.int false .u64 f, SC.raw (Value.pointer none)] 199), (227,
 SO.cells [SC.int false .u64 f, SC.raw (Value.pointer none)] 199), (250, SO.cells [SC.int false .u64 f, SC.raw (Value.pointer none)] 199), (251, SO.cells [SC.int true .u64 (0 : Int),
 SC.raw (Value.pointer none)] 199), (266, SO.cells (ds14_5) 87)] 256) Scr.nil)) ∧ True → a = a ∧ Value.pointer none = Value.pointer none ∧ c = c ∧ Value.pointer none = Value.pointer
 none ∧ f = f ∧ Value.pointer none = Value.pointer none ∧ ([] : List (Int × Value)) = [] ∧ a = a ∧ b = b ∧ c = c ∧ d = d ∧ e = e ∧ f = f ∧ g = g ∧ f = f ∧ Value.pointer none =
 Value.pointer none ∧ (((ds14_6 a c f b d e g X1) ∧ True) ∧ (∀ (K : KO XN), (fun X2 : Prop => (ds14_8 a c f b d e g X2) ∧ True → ds14_6 a c f b d e g X2) (K (ds14_3 f k) (Mem.mk [(1,
 SO.cells (ds14_2 a b c d e f g) 75), (2, SO.cells (ds14_1 k hk p hp q hq) 77), (45, SO.cells (ds14_2 a b c d e f g) 75), (51, SO.cells (ds14_2 a b c d e f g) 75), (83, SO.cells
 [SC.int false .u64 a, SC.raw (Value.pointer none)] 199), (87, SO.cells [SC.int false .u64 c, SC.raw (Value.pointer none)] 199), (91, SO.cells [SC.int false .u64 f, SC.raw
 (Value.pointer none)] 199), (93, SO.mp true []), (95, SO.cells (ds14_9 a b c d e f g) 204), (109, SO.cells (ds14_1 k hk p hp q hq) 77), (110, SO.cells [SC.int true .i64 (0 : Int),
 SC.int true .i64 (0 : Int)] 82), (128, SO.cells [SC.int true .i64 (0 : Int), SC.int true .i64 (0 : Int)] 82), (141, SO.cells (ds14_1 k hk p hp q hq) 77), (142, SO.cells [SC.int true
 .i64 (0 : Int), SC.int true .i64 (0 : Int)] 82), (162, SO.cells [SC.int false .u64 f, SC.raw (Value.pointer none)] 199), (170, SO.cells [SC.int false .u64 f, SC.raw (Value.pointer
 none)] 199), (219, SO.cells [SC.int false .u64 f, SC.raw (Value.pointer none)] 199), (227, SO.cells [SC.int false .u64 f, SC.raw (Value.pointer none)] 199), (247, SO.cells [SC.int
 true .u64 (0 : Int), SC.raw (Value.pointer none)] 199), (250, SO.cells [SC.int false .u64 f, SC.raw (Value.pointer none)] 199), (251, SO.cells [SC.int true .u64 (0 : Int), SC.raw
 (Value.pointer none)] 199), (266, SO.cells (ds14_5) 87)] 256) Scr.nil)) ∧ True) ∧ True) (K (ds14_14 f k hk) (Mem.mk [(1, SO.cells (ds14_2 a b c d e f g) 75), (2, SO.cells (ds14_1 k
 hk p hp q hq) 77), (45, SO.cells (ds14_2 a b c d e f g) 75), (51, SO.cells (ds14_2 a b c d e f g) 75), (83, SO.cells [SC.int false .u64 a, SC.raw (Value.pointer none)] 199), (87,
 SO.cells [SC.int false .u64 c, SC.raw (Value.pointer none)] 199), (91, SO.cells [SC.int false .u64 f, SC.raw (Value.pointer none)] 199), (93, SO.mp true []), (95, SO.cells (ds14_17
 a b c d e f g) 204), (109, SO.cells (ds14_1 k hk p hp q hq) 77), (110, SO.cells [SC.int true .i64 (0 : Int), SC.int true .i64 (0 : Int)] 82), (128, SO.cells [SC.int true .i64 (0 :
 Int), SC.int true .i64 (0 : Int)] 82), (141, SO.cells (ds14_1 k hk p hp q hq) 77), (142, SO.cells [SC.int true .i64 (0 : Int), SC.int true .i64 (0 : Int)] 82), (162, SO.cells
 [SC.int false .u64 f, SC.raw (Value.pointer none)] 199), (170, SO.cells [SC.int false .u64 f, SC.raw (Value.pointer none)] 199), (219, SO.cells [SC.int false .u64 f, SC.raw
 (Value.pointer none)] 199), (227, SO.cells [SC.int false .u64 f, SC.raw (Value.pointer none)] 199), (247, SO.cells [SC.int true .u64 (0 : Int), SC.raw (Value.pointer none)] 199),
 (250, SO.cells [SC.int false .u64 f, SC.raw (Value.pointer none)] 199), (251, SO.cells [SC.int true .u64 (0 : Int), SC.raw (Value.pointer none)] 199), (266, SO.cells (ds14_5) 87)]
 280) Scr.nil)) ∧ True) ∧ True → a = a ∧ Value.pointer none = Value.pointer none ∧ c = c ∧ Value.pointer none = Value.pointer none ∧ f = f ∧ Value.pointer none = Value.pointer none ∧
 ([] : List (Int × Value)) = [] ∧ a = a ∧ b = b ∧ c = c ∧ d = d ∧ e = e ∧ f = f ∧ g = g ∧ f = f ∧ Value.pointer none = Value.pointer none ∧ (True ∧ (∀ (z : Un), True → ds14_11 a c f
 b d e g X0 k hk p hp q hq) ∧ True) ∧ True) (K (ds14_14 f k hk) (Mem.mk [(1, SO.cells (ds14_2 a b c d e f g) 75), (2, SO.cells (ds14_1 k hk p hp q hq) 77), (45, SO.cells (ds14_2 a b
 c d e f g) 75), (51, SO.cells (ds14_2 a b c d e f g) 75), (83, SO.cells [SC.int false .u64 a, SC.raw (Value.pointer none)] 199), (87, SO.cells [SC.int false .u64 c, SC.raw
 (Value.pointer none)] 199), (91, SO.cells [SC.int false .u64 f, SC.raw (Value.pointer none)] 199), (93, SO.mp true []), (95, SO.cells (ds14_17 a b c d e f g) 204), (109, SO.cells
 (ds14_1 k hk p hp q hq) 77), (110, SO.cells [SC.int true .i64 (0 : Int), SC.int true .i64 (0 : Int)] 82), (128, SO.cells [SC.int true .i64 (0 : Int), SC.int true .i64 (0 : Int)]
 82), (141, SO.cells (ds14_1 k hk p hp q hq) 77), (142, SO.cells [SC.int true .i64 (0 : Int), SC.int true .i64 (0 : Int)] 82), (162, SO.cells [SC.int false .u64 f, SC.raw
 (Value.pointer none)] 199), (170, SO.cells [SC.int false .u64 f, SC.raw (Value.pointer none)] 199), (219, SO.cells [SC.int false .u64 f, SC.raw (Value.pointer none)] 199), (227,
 SO.cells [SC.int false .u64 f, SC.raw (Value.pointer none)] 199), (247, SO.cells [SC.int true .u64 (0 : Int), SC.raw (Value.pointer none)] 199), (250, SO.cells [SC.int false .u64 f,
 SC.raw (Value.pointer none)] 199), (251, SO.cells [SC.int true .u64 (0 : Int), SC.raw (Value.pointer none)] 199), (266, SO.cells (ds14_5) 87)] 280) Scr.nil)) ∧ True)) ∧ ((f == (0 :
 Int)) = false → (True ∧ (∀ (z : Un), True → a = a ∧ Value.pointer none = Value.pointer none ∧ c = c ∧ Value.pointer none = Value.pointer none ∧ f = f ∧ Value.pointer none =
 Value.pointer none ∧ ([] : List (Int × Value)) = [] ∧ a = a ∧ b = b ∧ c = c ∧ d = d ∧ e = e ∧ f = f ∧ g = g ∧ f = f ∧ Value.pointer none = Value.pointer none ∧ (((a = a ∧
 Value.pointer none = Value.pointer none ∧ c = c ∧ Value.pointer none = Value.pointer none ∧ f = f ∧ Value.pointer none = Value.pointer none ∧ ([] : List (Int × Value)) = [] ∧ a = a
 ∧ b = b ∧ c = c ∧ d = d ∧ e = e ∧ f = f ∧ g = g ∧ f = f ∧ Value.pointer none = Value.pointer none ∧ (((((f != (0 : Int)) = true → (a = a ∧ Value.pointer none = Value.pointer none ∧
 c = c ∧ Value.pointer none = Value.pointer none ∧ f = f ∧ Value.pointer none = Value.pointer none ∧ ([] : List (Int × Value)) = [] ∧ a = a ∧ b = b ∧ c = c ∧ d = d ∧ e = e ∧ f = f ∧
 g = g ∧ f = f ∧ ((f != (0 : Int)) = true → ((true == (a == a && (b == b && (c == c && (d == d && (e == e && (f == f && (g == g && true)))))))) = true → true = true) ∧ ((true == (a
 == a && (b == b && (c == c && (d == d && (e == e && (f == f && (g == g && true)))))))) = false → false = true)) ∧ ((f != (0 : Int)) = false → ds14_12 a b c e d)) ∧ True) ∧ ((f != (0
 : Int)) = false → ds14_12 a b c e d)) ∧ True) ∧ True) ∧ True) ∧ True) ∧ (∀ (K : KO XN), (fun X0 : Prop => (ds14_8 a c f b d e g X0) ∧ True → ds14_6 a c f b d e g X0) (K (ds14_4 f k)
 (Mem.mk [(1, SO.cells (ds14_2 a b c d e f g) 75), (2, SO.cells (ds14_1 k hk p hp q hq) 77), (45, SO.cells (ds14_2 a b c d e f g) 75), (51, SO.cells (ds14_2 a b c d e f g) 75), (83,
 SO.cells [SC.int false .u64 a, SC.raw (Value.pointer none)] 199), (87, SO.cells [SC.int false .u64 c, SC.raw (Value.pointer none)] 199), (91, SO.cells [SC.int false .u64 f, SC.raw
 (Value.pointer none)] 199), (93, SO.mp true []), (95, SO.cells (ds14_9 a b c d e f g) 204), (109, SO.cells (ds14_1 k hk p hp q hq) 77), (110, SO.cells [SC.int true .i64 (0 : Int),
 SC.int true .i64 (0 : Int)] 82), (128, SO.cells [SC.int true .i64 (0 : Int), SC.int true .i64 (0 : Int)] 82), (141, SO.cells (ds14_1 k hk p hp q hq) 77), (142, SO.cells [SC.int true
 .i64 (0 : Int), SC.int true .i64 (0 : Int)] 82), (162, SO.cells [SC.int false .u64 f, SC.raw (Value.pointer none)] 199), (170, SO.cells [SC.int false .u64 f, SC.raw (Value.pointer
 none)] 199), (193, SO.cells [SC.int false .u64 f, SC.raw (Value.pointer none)] 199), (194, SO.cells [SC.int true .u64 (0 : Int), SC.raw (Value.pointer none)] 199), (209, SO.cells
 (ds14_5) 87)] 199) Scr.nil)) ∧ True) ∧ (∀ (K : KO XN), (fun X0 : Prop => (ds14_10 a c f b d e g X0) ∧ (ds14_18 a c f b d e g k hk p hp q hq) ∧ True → ds14_13 a c f b d e g X0 k hk p
 hp q hq) (K (ds14_15 f k hk) (Mem.mk [(1, SO.cells (ds14_2 a b c d e f g) 75), (2, SO.cells (ds14_1 k hk p hp q hq) 77), (45, SO.cells (ds14_2 a b c d e f g) 75), (51, SO.cells
 (ds14_2 a b c d e f g) 75), (83, SO.cells [SC.int false .u64 a, SC.raw (Value.pointer none)] 199), (87, SO.cells [SC.int false .u64 c, SC.raw (Value.pointer none)] 199), (91,
 SO.cells [SC.int false .u64 f, SC.raw (Value.pointer none)] 199), (93, SO.mp true []), (95, SO.cells (ds14_17 a b c d e f g) 204), (109, SO.cells (ds14_1 k hk p hp q hq) 77), (110,
 SO.cells [SC.int true .i64 (0 : Int), SC.int true .i64 (0 : Int)] 82), (128, SO.cells [SC.int true .i64 (0 : Int), SC.int true .i64 (0 : Int)] 82), (141, SO.cells (ds14_1 k hk p hp
 q hq) 77), (142, SO.cells [SC.int true .i64 (0 : Int), SC.int true .i64 (0 : Int)] 82), (162, SO.cells [SC.int false .u64 f, SC.raw (Value.pointer none)] 199), (170, SO.cells
 [SC.int false .u64 f, SC.raw (Value.pointer none)] 199), (190, SO.cells [SC.int true .u64 (0 : Int), SC.raw (Value.pointer none)] 199), (193, SO.cells [SC.int false .u64 f, SC.raw
 (Value.pointer none)] 199), (194, SO.cells [SC.int true .u64 (0 : Int), SC.raw (Value.pointer none)] 199), (209, SO.cells (ds14_5) 87)] 223) Scr.nil)) ∧ True) ∧ True) ∧ (∀ (K : KO
 XN), (fun X0 : Prop => True ∧ (∀ (z : Un), True → a = a ∧ Value.pointer none = Value.pointer none ∧ c = c ∧ Value.pointer none = Value.pointer none ∧ f = f ∧ Value.pointer none =
 Value.pointer none ∧ ([] : List (Int × Value)) = [] ∧ a = a ∧ b = b ∧ c = c ∧ d = d ∧ e = e ∧ f = f ∧ g = g ∧ f = f ∧ Value.pointer none = Value.pointer none ∧ ((ds14_10 a c f b d e
 g X0) ∧ (ds14_18 a c f b d e g k hk p hp q hq) ∧ True) ∧ (∀ (K : KO XN), (fun X1 : Prop => (ds14_10 a c f b d e g X1) ∧ (∀ (K : KO XN), (fun X2 : Prop => (ds14_8 a c f b d e g X2) ∧
 True → ds14_6 a c f b d e g X2) (K (ds14_4 f k) (Mem.mk [(1, SO.cells (ds14_2 a b c d e f g) 75), (2, SO.cells (ds14_1 k hk p hp q hq) 77), (45, SO.cells (ds14_2 a b c d e f g) 75),
 (51, SO.cells (ds14_2 a b c d e f g) 75), (83, SO.cells [SC.int false .u64 a, SC.raw (Value.pointer none)] 199), (87, SO.cells [SC.int false .u64 c, SC.raw (Value.pointer none)]
 199), (91, SO.cells [SC.int false .u64 f, SC.raw (Value.pointer none)] 199), (93, SO.mp true []), (95, SO.cells (ds14_9 a b c d e f g) 204), (109, SO.cells (ds14_1 k hk p hp q hq)
 77), (110, SO.cells [SC.int true .i64 (0 : Int), SC.int true .i64 (0 : Int)] 82), (128, SO.cells [SC.int true .i64 (0 : Int), SC.int true .i64 (0 : Int)] 82), (141, SO.cells (ds14_1
 k hk p hp q hq) 77), (142, SO.cells [SC.int true .i64 (0 : Int), SC.int true .i64 (0 : Int)] 82), (162, SO.cells [SC.int false .u64 f, SC.raw (Value.pointer none)] 199), (170,
 SO.cells [SC.int false .u64 f, SC.raw (Value.pointer none)] 199), (193, SO.cells [SC.int false .u64 f, SC.raw (Value.pointer none)] 199), (194, SO.cells [SC.int true .u64 (0 : Int),
 SC.raw (Value.pointer none)] 199), (209, SO.cells (ds14_5) 87)] 199) Scr.nil)) ∧ True → a = a ∧ Value.pointer none = Value.pointer none ∧ c = c ∧ Value.pointer none = Value.pointer
 none ∧ f = f ∧ Value.pointer none = Value.pointer none ∧ ([] : List (Int × Value)) = [] ∧ a = a ∧ b = b ∧ c = c ∧ d = d ∧ e = e ∧ f = f ∧ g = g ∧ f = f ∧ Value.pointer none =
 Value.pointer none ∧ (((ds14_6 a c f b d e g X1) ∧ True) ∧ (∀ (K : KO XN), (fun X2 : Prop => (ds14_8 a c f b d e g X2) ∧ True → ds14_6 a c f b d e g X2) (K (ds14_4 f k) (Mem.mk [(1,
 SO.cells (ds14_2 a b c d e f g) 75), (2, SO.cells (ds14_1 k hk p hp q hq) 77), (45, SO.cells (ds14_2 a b c d e f g) 75), (51, SO.cells (ds14_2 a b c d e f g) 75), (83, SO.cells
 [SC.int false .u64 a, SC.raw (Value.pointer none)] 199), (87, SO.cells [SC.int false .u64 c, SC.raw (Value.pointer none)] 199), (91, SO.cells [SC.int false .u64 f, SC.raw
 (Value.pointer none)] 199), (93, SO.mp true []), (95, SO.cells (ds14_9 a b c d e f g) 204), (109, SO.cells (ds14_1 k hk p hp q hq) 77), (110, SO.cells [SC.int true .i64 (0 : Int),
 SC.int true .i64 (0 : Int)] 82), (128, SO.cells [SC.int true .i64 (0 : Int), SC.int true .i64 (0 : Int)] 82), (141, SO.cells (ds14_1 k hk p hp q hq) 77), (142, SO.cells [SC.int true
 .i64 (0 : Int), SC.int true .i64 (0 : Int)] 82), (162, SO.cells [SC.int false .u64 f, SC.raw (Value.pointer none)] 199), (170, SO.cells [SC.int false .u64 f, SC.raw (Value.pointer
 none)] 199), (190, SO.cells [SC.int true .u64 (0 : Int), SC.raw (Value.pointer none)] 199), (193, SO.cells [SC.int false .u64 f, SC.raw (Value.pointer none)] 199), (194, SO.cells
 [SC.int true .u64 (0 : Int), SC.raw (Value.pointer none)] 199), (209, SO.cells (ds14_5) 87)] 199) Scr.nil)) ∧ True) ∧ True) (K (ds14_15 f k hk) (Mem.mk [(1, SO.cells (ds14_2 a b c d
 e f g) 75), (2, SO.cells (ds14_1 k hk p hp q hq) 77), (45, SO.cells (ds14_2 a b c d e f g) 75), (51, SO.cells (ds14_2 a b c d e f g) 75), (83, SO.cells [SC.int false .u64 a, SC.raw
 (Value.pointer none)] 199), (87, SO.cells [SC.int false .u64 c, SC.raw (Value.pointer none)] 199), (91, SO.cells [SC.int false .u64 f, SC.raw (Value.pointer none)] 199), (93, SO.mp
 true []), (95, SO.cells (ds14_17 a b c d e f g) 204), (109, SO.cells (ds14_1 k hk p hp q hq) 77), (110, SO.cells [SC.int true .i64 (0 : Int), SC.int true .i64 (0 : Int)] 82), (128,
 SO.cells [SC.int true .i64 (0 : Int), SC.int true .i64 (0 : Int)] 82), (141, SO.cells (ds14_1 k hk p hp q hq) 77), (142, SO.cells [SC.int true .i64 (0 : Int), SC.int true .i64 (0 :
 Int)] 82), (162, SO.cells [SC.int false .u64 f, SC.raw (Value.pointer none)] 199), (170, SO.cells [SC.int false .u64 f, SC.raw (Value.pointer none)] 199), (190, SO.cells [SC.int
 true .u64 (0 : Int), SC.raw (Value.pointer none)] 199), (193, SO.cells [SC.int false .u64 f, SC.raw (Value.pointer none)] 199), (194, SO.cells [SC.int true .u64 (0 : Int), SC.raw
 (Value.pointer none)] 199), (209, SO.cells (ds14_5) 87)] 223) Scr.nil)) ∧ True) ∧ True → a = a ∧ Value.pointer none = Value.pointer none ∧ c = c ∧ Value.pointer none = Value.pointer
 none ∧ f = f ∧ Value.pointer none = Value.pointer none ∧ ([] : List (Int × Value)) = [] ∧ a = a ∧ b = b ∧ c = c ∧ d = d ∧ e = e ∧ f = f ∧ g = g ∧ f = f ∧ Value.pointer none =
 Value.pointer none ∧ (True ∧ (∀ (z : Un), True → ds14_13 a c f b d e g X0 k hk p hp q hq) ∧ True) ∧ True) (K (ds14_15 f k hk) (Mem.mk [(1, SO.cells (ds14_2 a b c d e f g) 75), (2,
 SO.cells (ds14_1 k hk p hp q hq) 77), (45, SO.cells (ds14_2 a b c d e f g) 75), (51, SO.cells (ds14_2 a b c d e f g) 75), (83, SO.cells [SC.int false .u64 a, SC.raw (Value.pointer
 none)] 199), (87, SO.cells [SC.int false .u64 c, SC.raw (Value.pointer none)] 199), (91, SO.cells [SC.int false .u64 f, SC.raw (Value.pointer none)] 199), (93, SO.mp true []), (95,
 SO.cells (ds14_17 a b c d e f g) 204), (109, SO.cells (ds14_1 k hk p hp q hq) 77), (110, SO.cells [SC.int true .i64 (0 : Int), SC.int true .i64 (0 : Int)] 82), (128, SO.cells
 [SC.int true .i64 (0 : Int), SC.int true .i64 (0 : Int)] 82), (141, SO.cells (ds14_1 k hk p hp q hq) 77), (142, SO.cells [SC.int true .i64 (0 : Int), SC.int true .i64 (0 : Int)]
 82), (162, SO.cells [SC.int false .u64 f, SC.raw (Value.pointer none)] 199), (170, SO.cells [SC.int false .u64 f, SC.raw (Value.pointer none)] 199), (190, SO.cells [SC.int true .u64
 (0 : Int), SC.raw (Value.pointer none)] 199), (193, SO.cells [SC.int false .u64 f, SC.raw (Value.pointer none)] 199), (194, SO.cells [SC.int true .u64 (0 : Int), SC.raw
 (Value.pointer none)] 199), (209, SO.cells (ds14_5) 87)] 223) Scr.nil)) ∧ True))) ∧ True)) ∧ (decide (max (max b e) g ≤ (256 : Int)) = false → true = true)) ∧ (decide (min (min (min
 b e) g) d ≥ (0 : Int)) = false → true = true)) := by
  kernel_rfl
theorem ds14_run (a b c d e f g : Int) (k p q : Int) (hk : 0 ≤ k ∧ k ≤ 255) (hp : 0 ≤ p ∧ p ≤ 1023) (hq : 0 ≤ q ∧ q ≤ 1023) (hc : DsOk a b c d e f g) : Run (callN Try.prog (tblDS : List (Smry Try.prog XN)) (fun _ _ => false) 100 20 4 [.agg [.int false .u64 a, .int false .i64 b, .int false .u64 c, .int false .i64 d, .int false .i64 e, .int false .u64 f, .int false .i64 g], .agg [.int true .i64 14, .int false .i64 k (.w 0 255 hk), .int false .i64 p (.w 0 1023 hp), .int false .i64 q (.w 0 1023 hq)]] ⟨[], 1⟩ (.cut 4 (liveL [2, 3, 4, 5, 6, 8, 9, 11, 13, 131]) [] Unit (fun _ _ => ([], [])) .nil fun _ => .nil) (fun v _ _ => retTrue v)) := by
  constructor
  rw [ds14_vc]
  delta ds14_1 ds14_2 ds14_20 ds14_24 ds14_23 ds14_26 ds14_3 ds14_4 ds14_5 ds14_6 ds14_7 ds14_8 ds14_9 ds14_10 ds14_11 ds14_12 ds14_13 ds14_14 ds14_15 ds14_16 ds14_17 ds14_18 ds14_19 ds14_21 ds14_22 ds14_25 ds14_27
  obtain ⟨⟨⟨ha0, ha1⟩, ⟨hb0, hb1⟩, hc0, hc1⟩, ⟨hd0, hd1⟩, ⟨he0, he1⟩, ⟨hf0, hf1⟩, hg0, hg1⟩ := hc
  repeat' first
    | (refine fun (K : KO XN) => ?_; simp only [eq_self, true_and, and_true, imp_self, implies_true]; first | done | exact id; done)
    | with_reducible apply And.intro
    | with_reducible exact trivial
    | with_reducible exact Eq.refl _
    | (with_reducible refine Exists.intro () ?_)
    | (intro h; simp only [bne_self_eq_false, Bool.false_eq_true] at h; done)
    | intro _
  all_goals first
    | omega
    | with_reducible assumption
    | (simp only [Bool.not_eq_false', Bool.not_eq_true', decide_eq_true_eq, decide_eq_false_iff_not] at *; omega)
    | (simp_all; done)
end Go.Proofs.Ytnkikhhiaecebaa
