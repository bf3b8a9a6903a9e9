/- DraftShares, code 11. -/
import Derived.Test.YtnkikhhiaecebaaDsT
import Derived.Test.YtnkikhhiaecebaaBaseC
set_option linter.all false
namespace Go.Proofs.Ytnkikhhiaecebaa
open Go Go.RowKit
set_option maxRecDepth 1000000
set_option maxHeartbeats 0
def ds11_14  : List SC := [SC.int true .u64 (0 : Int), SC.int true .u64 (0 : Int), SC.int true .u64 (0 : Int), SC.int true .u64 (0 : Int)]
def ds11_1 (f k : Int) : SF := SF.mk 50 (np 95 0 (nv (SV.agg [SC.int false .u64 f, SC.raw (Value.pointer none)]) (nu (nv (SV.c (tb false)) (nu (np 95 10 tn tn) nu0) (nu nu0 tn)) (nv
 (SV.c (SC.raw (Value.pointer none))) (nu (nv (SV.tup [(true, (ds11_14)), (false, [tb false])]) tn tn) tn) (nu nu0 tn))) (nu (nv (SV.c (tb false)) (nu (np 193 0 tn tn) nu0) (nu nu0
 tn)) (nu (nu (nv (SV.c (tb false)) tn tn) tn) (np 95 0 nu0 tn)))) (nv (SV.c (SC.int false .i64 (dkF k (0 : Int)) (Bd.w (0 : Int) (3 : Int) (dkF_bd k (Int.ofNat 0))))) (np 193 0 (np
 209 0 (nu (nv (SV.c (SC.map 93)) tn tn) nu0) (nu nu0 tn)) (nv (SV.c (tb false)) (nu (nv (SV.agg (ds11_14)) tn tn) tn) (nv (SV.tup [(true, (ds11_14)), (false, [tb false])]) nu0 tn)))
 (np 194 0 (np 193 1 (nu (nv (SV.c (SC.int false .u64 f)) tn tn) tn) (nu nu0 tn)) (nu (nu nu0 tn) (np 95 0 nu0 tn))))) []
def ds11_2 (k : Int) (hk : 0 ≤ k ∧ k ≤ 255) (p : Int) (hp : 0 ≤ p ∧ p ≤ 1023) (q : Int) (hq : 0 ≤ q ∧ q ≤ 1023) : List SC := [SC.int true .i64 (11 : Int), SC.int false .i64 k (Bd.w
 (0 : Int) (255 : Int) hk), SC.int false .i64 p (Bd.w (0 : Int) (1023 : Int) hp), SC.int false .i64 q (Bd.w (0 : Int) (1023 : Int) hq)]
def ds11_3 (a b c d e f g : Int) : List SC := [SC.int false .u64 a, SC.int false .i64 b, SC.int false .u64 c, SC.int false .i64 d, SC.int false .i64 e, SC.int false .u64 f, SC.int
 false .i64 g]
def ds11_4  : List SC := [SC.int true .u64 (0 : Int), SC.int true .u64 (0 : Int), SC.int true .u64 (0 : Int), SC.int true .u64 (0 : Int)]
def ds11_5 (f k : Int) (hk : 0 ≤ k ∧ k ≤ 255) : SF := SF.mk 40 (np 95 0 (nv (SV.c (SC.int true .i64 (2 : Int))) (nu (nv (SV.c (tb false)) (np 95 7 (nv (SV.tup [(true, [SC.int true
 .u64 (0 : Int), SC.raw (Value.pointer none)]), (false, [tb false])]) tn tn) tn) (nv (SV.agg [SC.int false .u64 f, SC.raw (Value.pointer none)]) nu0 tn)) (nv (SV.c (tb false)) (nv
 (SV.agg [SC.int false .u64 f, SC.raw (Value.pointer none)]) nu0 tn) (nv (SV.agg [SC.int false .u64 f, SC.raw (Value.pointer none)]) tn tn))) (nu (nv (SV.c (SC.int true .i64 (0 :
 Int))) (np 91 0 (nv (SV.c (tb false)) tn tn) tn) (nv (SV.tup [(true, [SC.int true .u64 (0 : Int), SC.raw (Value.pointer none)]), (false, [tb false])]) tn tn)) (nv (SV.c (SC.int true
 .i64 (2 : Int))) (nv (SV.c (tb true)) nu0 tn) (nv (SV.c (SC.int true .i64 (0 : Int))) tn tn)))) (nv (SV.c (SC.int false .i64 k (Bd.w (0 : Int) (255 : Int) hk))) (nu (np 162 0 (np 95
 9 (nv (SV.agg [SC.int true .u64 (0 : Int), SC.raw (Value.pointer none)]) tn tn) tn) (nv (SV.c (tb false)) tn tn)) (np 95 0 (nv (SV.c (SC.int true .i64 (0 : Int))) nu0 tn) (nv (SV.c
 (SC.int false .i64 k (Bd.w (0 : Int) (255 : Int) hk))) tn tn))) (nv (SV.c (SC.int true .u64 (0 : Int))) (np 190 0 (np 91 0 nu0 tn) (np 95 0 tn tn)) (np 95 0 (nv (SV.c (SC.int true
 .i64 (0 : Int))) nu0 tn) (nv (SV.c (SC.int false .i64 (dkF k (0 : Int)) (Bd.w (0 : Int) (3 : Int) (dkF_bd k (Int.ofNat 0))))) tn tn))))) []
def ds11_6 (a c f b d e g : Int) (X0 : Prop) : Prop := a = a ∧ Value.pointer none = Value.pointer none ∧ c = c ∧ Value.pointer none = Value.pointer none ∧ f = f ∧ Value.pointer none
 = Value.pointer none ∧ ([] : List (Int × Value)) = [] ∧ a = a ∧ b = b ∧ c = c ∧ d = d ∧ e = e ∧ f = f ∧ g = g ∧ f = f ∧ Value.pointer none = Value.pointer none ∧ (X0 ∧ True) ∧ True
def ds11_15 (c f a b d e g : Int) (X1 : Prop) : Prop := Value.pointer none = Value.pointer none ∧ c = c ∧ Value.pointer none = Value.pointer none ∧ f = f ∧ Value.pointer none =
 Value.pointer none ∧ ([] : List (Int × Value)) = [] ∧ a = a ∧ b = b ∧ c = c ∧ d = d ∧ e = e ∧ f = f ∧ g = g ∧ f = f ∧ Value.pointer none = Value.pointer none ∧ X1 ∧ True
def ds11_7 (a c f b d e g : Int) (X0 : Prop) (k : Int) (hk : 0 ≤ k ∧ k ≤ 255) (p : Int) (hp : 0 ≤ p ∧ p ≤ 1023) (q : Int) (hq : 0 ≤ q ∧ q ≤ 1023) : Prop := a = a ∧ Value.pointer
 none = Value.pointer none ∧ c = c ∧ Value.pointer none = Value.pointer none ∧ f = f ∧ Value.pointer none = Value.pointer none ∧ ([] : List (Int × Value)) = [] ∧ a = a ∧ b = b ∧ c =
 c ∧ d = d ∧ e = e ∧ f = f ∧ g = g ∧ f = f ∧ Value.pointer none = Value.pointer none ∧ (((ds11_6 a c f b d e g X0) ∧ True) ∧ (∀ (K : KO XN), (fun X1 : Prop => (a = a ∧ ds11_15 c f a
 b d e g X1) ∧ True → ds11_6 a c f b d e g X1) (K (ds11_1 f k) (Mem.mk [(1, SO.cells (ds11_3 a b c d e f g) 75), (2, SO.cells (ds11_2 k hk p hp q hq) 77), (45, SO.cells (ds11_3 a b c
 d e f g) 75), (51, SO.cells (ds11_3 a b c d e f g) 75), (83, SO.cells [SC.int false .u64 a, SC.raw (Value.pointer none)] 199), (87, SO.cells [SC.int false .u64 c, SC.raw
 (Value.pointer none)] 199), (91, SO.cells [SC.int false .u64 f, SC.raw (Value.pointer none)] 199), (93, SO.mp true []), (95, SO.cells [SC.int false .u64 a, SC.int false .i64 b,
 SC.int false .u64 c, SC.int false .i64 d, SC.int false .i64 e, SC.int false .u64 f, SC.int false .i64 g, sp 83 0, sp 87 0, sp 91 0, SC.map 93, SC.nls, SC.nls, SC.nls, SC.int true
 .u64 (0 : Int)] 204), (109, SO.cells (ds11_2 k hk p hp q hq) 77), (110, SO.cells [SC.int true .i64 (0 : Int), SC.int true .i64 (0 : Int)] 82), (128, SO.cells [SC.int true .i64 (0 :
 Int), SC.int true .i64 (0 : Int)] 82), (141, SO.cells (ds11_2 k hk p hp q hq) 77), (142, SO.cells [SC.int true .i64 (0 : Int), SC.int true .i64 (0 : Int)] 82), (162, SO.cells
 [SC.int false .u64 f, SC.raw (Value.pointer none)] 199), (170, SO.cells [SC.int false .u64 f, SC.raw (Value.pointer none)] 199), (190, SO.cells [SC.int true .u64 (0 : Int), SC.raw
 (Value.pointer none)] 199), (193, SO.cells [SC.int false .u64 f, SC.raw (Value.pointer none)] 199), (194, SO.cells [SC.int true .u64 (0 : Int), SC.raw (Value.pointer none)] 199),
 (209, SO.cells (ds11_4) 87)] 199) Scr.nil)) ∧ True) ∧ True
def ds11_8 (a c f b d e g : Int) (X0 : Prop) : Prop := a = a ∧ ds11_15 c f a b d e g X0
def ds11_9 (a b c d e f g : Int) : List SC := [SC.int false .u64 a, SC.int false .i64 b, SC.int false .u64 c, SC.int false .i64 d, SC.int false .i64 e, SC.int false .u64 f, SC.int
 false .i64 g, sp 83 0, sp 87 0, sp 91 0, SC.map 93, SC.nls, SC.nls, SC.nls, SC.int true .u64 (0 : Int)]
def ds11_10 (a b c e d : Int) : Prop := ((a != a) = true → false = true) ∧ ((a != a) = false → ((b != b) = true → false = true) ∧ ((b != b) = false → ((c != c) = true → false =
 true) ∧ ((c != c) = false → ((e != e) = true → false = true) ∧ ((e != e) = false → ((d != d) = true → false = true) ∧ ((d != d) = false → true = true)))))
def ds11_11 (a c f b d e g k : Int) (hk : 0 ≤ k ∧ k ≤ 255) (p : Int) (hp : 0 ≤ p ∧ p ≤ 1023) (q : Int) (hq : 0 ≤ q ∧ q ≤ 1023) : Prop := ∀ (K : KO XN), (fun X1 : Prop => (ds11_8 a c
 f b d e g X1) ∧ True → ds11_6 a c f b d e g X1) (K (ds11_1 f k) (Mem.mk [(1, SO.cells (ds11_3 a b c d e f g) 75), (2, SO.cells (ds11_2 k hk p hp q hq) 77), (45, SO.cells (ds11_3 a b
 c d e f g) 75), (51, SO.cells (ds11_3 a b c d e f g) 75), (83, SO.cells [SC.int false .u64 a, SC.raw (Value.pointer none)] 199), (87, SO.cells [SC.int false .u64 c, SC.raw
 (Value.pointer none)] 199), (91, SO.cells [SC.int false .u64 f, SC.raw (Value.pointer none)] 199), (93, SO.mp true []), (95, SO.cells (ds11_9 a b c d e f g) 204), (109, SO.cells
 (ds11_2 k hk p hp q hq) 77), (110, SO.cells [SC.int true .i64 (0 : Int), SC.int true .i64 (0 : Int)] 82), (128, SO.cells [SC.int true .i64 (0 : Int), SC.int true .i64 (0 : Int)]
 82), (141, SO.cells (ds11_2 k hk p hp q hq) 77), (142, SO.cells [SC.int true .i64 (0 : Int), SC.int true .i64 (0 : Int)] 82), (162, SO.cells [SC.int false .u64 f, SC.raw
 (Value.pointer none)] 199), (170, SO.cells [SC.int false .u64 f, SC.raw (Value.pointer none)] 199), (193, SO.cells [SC.int false .u64 f, SC.raw (Value.pointer none)] 199), (194,
 SO.cells [SC.int true .u64 (0 : Int), SC.raw (Value.pointer none)] 199), (209, SO.cells (ds11_4) 87)] 199) Scr.nil)
def ds11_12 (a c f b d e g : Int) (X0 : Prop) : Prop := (a = a ∧ Value.pointer none = Value.pointer none ∧ c = c ∧ Value.pointer none = Value.pointer none ∧ f = f ∧ Value.pointer
 none = Value.pointer none ∧ ([] : List (Int × Value)) = [] ∧ a = a ∧ b = b ∧ c = c ∧ d = d ∧ e = e ∧ f = f ∧ g = g ∧ f = f ∧ Value.pointer none = Value.pointer none ∧ ((X0 ∧ True) ∧
 True) ∧ True) ∧ True
def ds11_13 (a b c d e f g : Int) : List SC := [SC.int false .u64 a, SC.int false .i64 b, SC.int false .u64 c, SC.int false .i64 d, SC.int false .i64 e, SC.int false .u64 f, SC.int
 false .i64 g, sp 83 0, sp 87 0, sp 91 0, SC.map 93, SC.nls, SC.nls, SC.nls, SC.int false .u64 f]
/-- What the executor leaves to be shown of roundelay/roundelaylaw08.DraftShares, written out. -/
theorem ds11_vc (a b c d e f g : Int) (k p q : Int) (hk : 0 ≤ k ∧ k ≤ 255) (hp : 0 ≤ p ∧ p ≤ 1023) (hq : 0 ≤ q ∧ q ≤ 1023) : (callN Try.prog (tblDS : List (Smry Try.prog XN)) (fun _ _ => false) 100 20 4 [.agg [.int false .u64 a, .int false .i64 b, .int false .u64 c, .int false .i64 d, .int false .i64 e, .int false .u64 f, .int false .i64 g], .agg [.int true .i64 11, .int false .i64 k (.w 0 255 hk), .int false .i64 p (.w 0 1023 hp), .int false .i64 q (.w 0 1023 hq)]] ⟨[], 1⟩ (.cut 4 (liveL [2, 3, 4, 5, 6, 8, 9, 11, 13, 131]) [] Unit (fun _ _ => ([], [])) .nil fun _ => .nil) (fun v _ _ => retTrue v)) = (
 (((c == (0 : Int)) = true → (decide (e > (0 : Int)) = true → ∃ (y : Unit), a = a ∧ b = b ∧ c = c ∧ d = d ∧ e = e ∧ f = f ∧ g = g ∧ k = k ∧ p = p ∧ q = q ∧ True) ∧ (decide (e > (0 :
 Int)) = false → ∃ (y : Unit), a = a ∧ b = b ∧ c = c ∧ d = d ∧ e = e ∧ f = f ∧ g = g ∧ k = k ∧ p = p ∧ q = q ∧ True)) ∧ ((c == (0 : Int)) = false → ∃ (y : Unit), a = a ∧ b = b ∧ c =
 c ∧ d = d ∧ e = e ∧ f = f ∧ g = g ∧ k = k ∧ p = p ∧ q = q ∧ True)) ∧ ∀ (y : Unit) (ρ : Nat → Value), (decide (min (min (min b e) g) d ≥ (0 : Int)) = true → (decide (max (max b e) g
 ≤ (256 : Int)) = true → ((!decide (d < (256 : Int))) = true → true = true) ∧ ((!decide (d < (256 : Int))) = false → True ∧ (∀ (z : Un), True → ((!decide (RightO (11 : Int) k p q)) =
 true → ds11_10 a b c e d) ∧ ((!decide (RightO (11 : Int) k p q)) = false → ((f == (0 : Int)) = true → ds11_10 a b c e d) ∧ ((f == (0 : Int)) = false → (True ∧ (∀ (z : Un), True → a
 = a ∧ Value.pointer none = Value.pointer none ∧ c = c ∧ Value.pointer none = Value.pointer none ∧ f = f ∧ Value.pointer none = Value.pointer none ∧ ([] : List (Int × Value)) = [] ∧
 a = a ∧ b = b ∧ c = c ∧ d = d ∧ e = e ∧ f = f ∧ g = g ∧ f = f ∧ Value.pointer none = Value.pointer none ∧ (((a = a ∧ Value.pointer none = Value.pointer none ∧ c = c ∧ Value.pointer
 none = Value.pointer none ∧ f = f ∧ Value.pointer none = Value.pointer none ∧ ([] : List (Int × Value)) = [] ∧ a = a ∧ b = b ∧ c = c ∧ d = d ∧ e = e ∧ f = f ∧ g = g ∧ f = f ∧
 Value.pointer none = Value.pointer none ∧ (((((f != (0 : Int)) = true → (a = a ∧ Value.pointer none = Value.pointer none ∧ c = c ∧ Value.pointer none = Value.pointer none ∧ f = f ∧
 Value.pointer none = Value.pointer none ∧ ([] : List (Int × Value)) = [] ∧ a = a ∧ b = b ∧ c = c ∧ d = d ∧ e = e ∧ f = f ∧ g = g ∧ f = f ∧ ((f != (0 : Int)) = true → ((true == (a ==
 a && (b == b && (c == c && (d == d && (e == e && (f == f && (g == g && true)))))))) = true → true = true) ∧ ((true == (a == a && (b == b && (c == c && (d == d && (e == e && (f == f
 && (g == g && true)))))))) = false → false = true)) ∧ ((f != (0 : Int)) = false → ds11_10 a b c e d)) ∧ True) ∧ ((f != (0 : Int)) = false → ds11_10 a b c e d)) ∧ True) ∧ True) ∧
 True) ∧ True) ∧ (∀ (K : KO XN), (fun X0 : Prop => (ds11_8 a c f b d e g X0) ∧ True → ds11_6 a c f b d e g X0) (K (ds11_1 f k) (Mem.mk [(1, SO.cells (ds11_3 a b c d e f g) 75), (2,
 SO.cells (ds11_2 k hk p hp q hq) 77), (45, SO.cells (ds11_3 a b c d e f g) 75), (51, SO.cells (ds11_3 a b c d e f g) 75), (83, SO.cells [SC.int false .u64 a, SC.raw (Value.pointer
 none)] 199), (87, SO.cells [SC.int false .u64 c, SC.raw (Value.pointer none)] 199), (91, SO.cells [SC.int false .u64 f, SC.raw (Value.pointer none)] 199), (93, SO.mp true []), (95,
 SO.cells (ds11_9 a b c d e f g) 204), (109, SO.cells (ds11_2 k hk p hp q hq) 77), (110, SO.cells [SC.int true .i64 (0 : Int), SC.int true .i64 (0 : Int)] 82), (128, SO.cells [SC.int
 true .i64 (0 : Int), SC.int true .i64 (0 : Int)] 82), (141, SO.cells (ds11_2 k hk p hp q hq) 77), (142, SO.cells [SC.int true .i64 (0 : Int), SC.int true .i64 (0 : Int)] 82), (162,
 SO.cells [SC.int false .u64 f, SC.raw (Value.pointer none)] 199), (170, SO.cells [SC.int false .u64 f, SC.raw (Value.pointer none)] 199), (193, SO.cells [SC.int false .u64 f, SC.raw
 (Value.pointer none)] 199), (194, SO.cells [SC.int true .u64 (0 : Int), SC.raw (Value.pointer none)] 199), (209, SO.cells (ds11_4) 87)] 199) Scr.nil)) ∧ True) ∧ (∀ (K : KO XN), (fun
 X0 : Prop => (ds11_12 a c f b d e g X0) ∧ (ds11_11 a c f b d e g k hk p hp q hq) ∧ True → ds11_7 a c f b d e g X0 k hk p hp q hq) (K (ds11_5 f k hk) (Mem.mk [(1, SO.cells (ds11_3 a
 b c d e f g) 75), (2, SO.cells (ds11_2 k hk p hp q hq) 77), (45, SO.cells (ds11_3 a b c d e f g) 75), (51, SO.cells (ds11_3 a b c d e f g) 75), (83, SO.cells [SC.int false .u64 a,
 SC.raw (Value.pointer none)] 199), (87, SO.cells [SC.int false .u64 c, SC.raw (Value.pointer none)] 199), (91, SO.cells [SC.int false .u64 f, SC.raw (Value.pointer none)] 199), (93,
 SO.mp true []), (95, SO.cells (ds11_13 a b c d e f g) 204), (109, SO.cells (ds11_2 k hk p hp q hq) 77), (110, SO.cells [SC.int true .i64 (0 : Int), SC.int true .i64 (0 : Int)] 82),
 (128, SO.cells [SC.int true .i64 (0 : Int), SC.int true .i64 (0 : Int)] 82), (141, SO.cells (ds11_2 k hk p hp q hq) 77), (142, SO.cells [SC.int true .i64 (0 : Int), SC.int true .i64
 (0 : Int)] 82), (162, SO.cells [SC.int false .u64 f, SC.raw (Value.pointer none)] 199), (170, SO.cells [SC.int false .u64 f, SC.raw (Value.pointer none)] 199), (190, SO.cells
 [SC.int true .u64 (0 : Int), SC.raw (Value.pointer none)] 199), (193, SO.cells [SC.int false .u64 f, SC.raw (Value.pointer none)] 199), (194, SO.cells [SC.int true .u64 (0 : Int),
 SC.raw (Value.pointer none)] 199), (209, SO.cells (ds11_4) 87)] 223) Scr.nil)) ∧ True) ∧ True) ∧ (∀ (K : KO XN), (fun X0 : Prop => True ∧ (∀ (z : Un), True → a = a ∧ Value.pointer
 none = Value.pointer none ∧ c = c ∧ Value.pointer none = Value.pointer none ∧ f = f ∧ Value.pointer none = Value.pointer none ∧ ([] : List (Int × Value)) = [] ∧ a = a ∧ b = b ∧ c =
 c ∧ d = d ∧ e = e ∧ f = f ∧ g = g ∧ f = f ∧ Value.pointer none = Value.pointer none ∧ ((ds11_12 a c f b d e g X0) ∧ (ds11_11 a c f b d e g k hk p hp q hq) ∧ True) ∧ (∀ (K : KO XN),
 (fun X1 : Prop => (ds11_12 a c f b d e g X1) ∧ (∀ (K : KO XN), (fun X2 : Prop => (ds11_8 a c f b d e g X2) ∧ True → ds11_6 a c f b d e g X2) (K (ds11_1 f k) (Mem.mk [(1, SO.cells
 (ds11_3 a b c d e f g) 75), (2, SO.cells (ds11_2 k hk p hp q hq) 77), (45, SO.cells (ds11_3 a b c d e f g) 75), (51, SO.cells (ds11_3 a b c d e f g) 75), (83, SO.cells [SC.int false
 .u64 a, SC.raw (Value.pointer none)] 199), (87, SO.cells [SC.int false .u64 c, SC.raw (Value.pointer none)] 199), (91, SO.cells [SC.int false .u64 f, SC.raw (Value.pointer none)]
 199), (93, SO.mp true []), (95, SO.cells (ds11_9 a b c d e f g) 204), (109, SO.cells (ds11_2 k hk p hp q hq) 77), (110, SO.cells [SC.int true .i64 (0 : Int), SC.int true .i64 (0 :
 Int)] 82), (128, SO.cells [SC.int true .i64 (0 : Int), SC.int true .i64 (0 : Int)] 82), (141, SO.cells (ds11_2 k hk p hp q hq) 77), (142, SO.cells [SC.int true .i64 (0 : Int),
 SC.int true .i64 (0 : Int)] 82), (162, SO.cells [SC.int false .u64 f, SC.raw (Value.pointer none)] 199), (170, SO.cells [SC.int false .u64 f, SC.raw (Value.pointer none)] 199),
 (193, SO.cells [SC.int false .u64 f, SC.raw (Value.pointer none)] 199), (194, SO.cells [SC.int true .u64 (0 : Int), SC.raw (Value.pointer none)] 199), (209, SO.cells (ds11_4) 87)]
 199) Scr.nil)) ∧ True → a = a ∧ Value.pointer none = Value.pointer none ∧ c = c ∧ Value.pointer none = Value.pointer none ∧ f = f ∧ Value.pointer none = Value.pointer none ∧ ([] :
 List (Int × Value)) = [] ∧ a = a ∧ b = b ∧ c = c ∧ d = d ∧ e = e ∧ f = f ∧ g = g ∧ f = f ∧ Value.pointer none = Value.pointer none ∧ (((ds11_6 a c f b d e g X1) ∧ True) ∧ (∀ (K : KO
 XN), (fun X2 : Prop => (ds11_8 a c f b d e g X2) ∧ True → ds11_6 a c f b d e g X2) (K (ds11_1 f k) (Mem.mk [(1, SO.cells (ds11_3 a b c d e f g) 75), (2, SO.cells (ds11_2 k hk p hp q
 hq) 77), (45, SO.cells (ds11_3 a b c d e f g) 75), (51, SO.cells (ds11_3 a b c d e f g) 75), (83, SO.cells [SC.int false .u64 a, SC.raw (Value.pointer none)] 199), (87, SO.cells
 [SC.int false .u64 c, SC.raw (Value.pointer none)] 199), (91, SO.cells [SC.int false .u64 f, SC.raw (Value.pointer none)] 199), (93, SO.mp true []), (95, SO.cells (ds11_9 a b c d e
 f g) 204), (109, SO.cells (ds11_2 k hk p hp q hq) 77), (110, SO.cells [SC.int true .i64 (0 : Int), SC.int true .i64 (0 : Int)] 82), (128, SO.cells [SC.int true .i64 (0 : Int),
 SC.int true .i64 (0 : Int)] 82), (141, SO.cells (ds11_2 k hk p hp q hq) 77), (142, SO.cells [SC.int true .i64 (0 : Int), SC.int true .i64 (0 : Int)] 82), (162, SO.cells [SC.int
 false .u64 f, SC.raw (Value.pointer none)] 199), (170, SO.cells [SC.int false .u64 f, SC.raw (Value.pointer none)] 199), (190, SO.cells [SC.int true .u64 (0 : Int), SC.raw
 (Value.pointer none)] 199), (193, SO.cells [SC.int false .u64 f, SC.raw (Value.pointer none)] 199), (194, SO.cells [SC.int true .u64 (0 : Int), SC.raw (Value.pointer none)] 199),
 (209, SO.cells (ds11_4) 87)] 199) Scr.nil)) ∧ True) ∧ True) (K (ds11_5 f k hk) (Mem.mk [(1, SO.cells (ds11_3 a b c d e f g) 75), (2, SO.cells (ds11_2 k hk p hp q hq) 77), (45,
 SO.cells (ds11_3 a b c d e f g) 75), (51, SO.cells (ds11_3 a b c d e f g) 75), (83, SO.cells [SC.int false .u64 a, SC.raw (Value.pointer none)] 199), (87, SO.cells [SC.int false
 .u64 c, SC.raw (Value.pointer none)] 199), (91, SO.cells [SC.int false .u64 f, SC.raw (Value.pointer none)] 199), (93, SO.mp true []), (95, SO.cells (ds11_13 a b c d e f g) 204),
 (109, SO.cells (ds11_2 k hk p hp q hq) 77), (110, SO.cells [SC.int true .i64 (0 : Int), SC.int true .i64 (0 : Int)] 82), (128, SO.cells [SC.int true .i64 (0 : Int), SC.int true .i64
 (0 : Int)] 82), (141, SO.cells (ds11_2 k hk p hp q hq) 77), (142, SO.cells [SC.int true .i64 (0 : Int), SC.int true .i64 (0 : Int)] 82), (162, SO.cells [SC.int false .u64 f, SC.raw
 (Value.pointer none)] 199), (170, SO.cells [SC.int false .u64 f, SC.raw (Value.pointer none)] 199), (190, SO.cells [SC.int true .u64 (0 : Int), SC.raw (Value.pointer none)] 199),
 (193, SO.cells [SC.int false .u64 f, SC.raw (Value.pointer none)] 199), (194, SO.cells [SC.int true .u64 (0 : Int), SC.raw (Value.pointer none)] 199), (209, SO.cells (ds11_4) 87)]
 223) Scr.nil)) ∧ True) ∧ True → a = a ∧ Value.pointer none = Value.pointer none ∧ c = c ∧ Value.pointer none = Value.pointer none ∧ f = f ∧ Value.pointer none = Value.pointer none ∧
 ([] : List (Int × Value)) = [] ∧ a = a ∧ b = b ∧ c = c ∧ d = d ∧ e = e ∧ f = f ∧ g = g ∧ f = f ∧ Value.pointer none = Value.pointer none ∧ (True ∧ (∀ (z : Un), True → ds11_7 a c f b
 d e g X0 k hk p hp q hq) ∧ True) ∧ True) (K (ds11_5 f k hk) (Mem.mk [(1, SO.cells (ds11_3 a b c d e f g) 75), (2, SO.cells (ds11_2 k hk p hp q hq) 77), (45, SO.cells (ds11_3 a b c d
 e f g) 75), (51, SO.cells (ds11_3 a b c d e f g) 75), (83, SO.cells [SC.int false .u64 a, SC.raw (Value.pointer none)] 199), (87, SO.cells [SC.int false .u64 c, SC.raw
 (Value.pointer none)] 199), (91, SO.cells [SC.int false .u64 f, SC.raw (Value.pointer none)] 199), (93, SO.mp true []), (95, SO.cells (ds11_13 a b c d e f g) 204), (109, SO.cells
 (ds11_2 k hk p hp q hq) 77), (110, SO.cells [SC.int true .i64 (0 : Int), SC.int true .i64 (0 : Int)] 82), (128, SO.cells [SC.int true .i64 (0 : Int), SC.int true .i64 (0 : Int)]
 82), (141, SO.cells (ds11_2 k hk p hp q hq) 77), (142, SO.cells [SC.int true .i64 (0 : Int), SC.int true .i64 (0 : Int)] 82), (162, SO.cells [SC.int false .u64 f, SC.raw
 (Value.pointer none)] 199), (170, SO.cells [SC.int false .u64 f, SC.raw (Value.pointer none)] 199), (190, SO.cells [SC.int true .u64 (0 : Int), SC.raw (Value.pointer none)] 199),
 (193, SO.cells [SC.int false .u64 f, SC.raw (Value.pointer none)] 199), (194, SO.cells [SC.int true .u64 (0 : Int), SC.raw (Value.pointer none)] 199), (209, SO.cells (ds11_4) 87)]
 223) Scr.nil)) ∧ True))) ∧ True)) ∧ (decide (max (max b e) g ≤ (256 : Int)) = false → true = true)) ∧ (decide (min (min (min b e) g) d ≥ (0 : Int)) = false → true = true)) := by
  kernel_rfl
theorem ds11_run (a b c d e f g : Int) (k p q : Int) (hk : 0 ≤ k ∧ k ≤ 255) (hp : 0 ≤ p ∧ p ≤ 1023) (hq : 0 ≤ q ∧ q ≤ 1023) (hc : DsOk a b c d e f g) : Run (callN Try.prog (tblDS : List (Smry Try.prog XN)) (fun _ _ => false) 100 20 4 [.agg [.int false .u64 a, .int false .i64 b, .int false .u64 c, .int false .i64 d, .int false .i64 e, .int false .u64 f, .int false .i64 g], .agg [.int true .i64 11, .int false .i64 k (.w 0 255 hk), .int false .i64 p (.w 0 1023 hp), .int false .i64 q (.w 0 1023 hq)]] ⟨[], 1⟩ (.cut 4 (liveL [2, 3, 4, 5, 6, 8, 9, 11, 13, 131]) [] Unit (fun _ _ => ([], [])) .nil fun _ => .nil) (fun v _ _ => retTrue v)) := by
  constructor
  rw [ds11_vc]
  delta ds11_14 ds11_1 ds11_2 ds11_3 ds11_4 ds11_5 ds11_6 ds11_15 ds11_7 ds11_8 ds11_9 ds11_10 ds11_11 ds11_12 ds11_13
  obtain ⟨⟨⟨ha0, ha1⟩, ⟨hb0, hb1⟩, hc0, hc1⟩, ⟨hd0, hd1⟩, ⟨he0, he1⟩, ⟨hf0, hf1⟩, hg0, hg1⟩ := hc
  repeat' first
    | (refine fun (K : KO XN) => ?_; simp only [eq_self, true_and, and_true, imp_self, implies_true]; first | done | exact id; done)
    | with_reducible apply And.intro
    | with_reducible exact trivial
    | with_reducible exact Eq.refl _
    | (with_reducible refine Exists.intro () ?_)
    | (intro h; simp only [bne_self_eq_false, Bool.false_eq_true] at h; done)
    | intro _
  all_goals first
    | omega
    | with_reducible assumption
    | (simp only [Bool.not_eq_false', Bool.not_eq_true', decide_eq_true_eq, decide_eq_false_iff_not] at *; omega)
    | (simp_all; done)
end Go.Proofs.Ytnkikhhiaecebaa

/- DraftShares, code 12. -/
namespace Go.Proofs.Ytnkikhhiaecebaa
open Go Go.RowKit
set_option maxRecDepth 1000000
set_option maxHeartbeats 0
def ds12_14  : List SC := [SC.int true .u64 (0 : Int), SC.int true .u64 (0 : Int), SC.int true .u64 (0 : Int), SC.int true .u64 (0 : Int)]
def ds12_1 (f k : Int) : SF := SF.mk 50 (np 95 0 (nv (SV.agg [SC.int false .u64 f, SC.raw (Value.pointer none)]) (nu (nv (SV.c (tb false)) (nu (np 95 10 tn tn) nu0) (nu nu0 tn)) (nv
 (SV.c (SC.raw (Value.pointer none))) (nu (nv (SV.tup [(true, (ds12_14)), (false, [tb false])]) tn tn) tn) (nu nu0 tn))) (nu (nv (SV.c (tb false)) (nu (np 193 0 tn tn) nu0) (nu nu0
 tn)) (nu (nu (nv (SV.c (tb false)) tn tn) tn) (np 95 0 nu0 tn)))) (nv (SV.c (SC.int false .i64 (dkF k (0 : Int)) (Bd.w (0 : Int) (3 : Int) (dkF_bd k (Int.ofNat 0))))) (np 193 0 (np
 209 0 (nu (nv (SV.c (SC.map 93)) tn tn) nu0) (nu nu0 tn)) (nv (SV.c (tb false)) (nu (nv (SV.agg (ds12_14)) tn tn) tn) (nv (SV.tup [(true, (ds12_14)), (false, [tb false])]) nu0 tn)))
 (np 194 0 (np 193 1 (nu (nv (SV.c (SC.int false .u64 f)) tn tn) tn) (nu nu0 tn)) (nu (nu nu0 tn) (np 95 0 nu0 tn))))) []
def ds12_2 (k : Int) (hk : 0 ≤ k ∧ k ≤ 255) (p : Int) (hp : 0 ≤ p ∧ p ≤ 1023) (q : Int) (hq : 0 ≤ q ∧ q ≤ 1023) : List SC := [SC.int true .i64 (12 : Int), SC.int false .i64 k (Bd.w
 (0 : Int) (255 : Int) hk), SC.int false .i64 p (Bd.w (0 : Int) (1023 : Int) hp), SC.int false .i64 q (Bd.w (0 : Int) (1023 : Int) hq)]
def ds12_3 (a b c d e f g : Int) : List SC := [SC.int false .u64 a, SC.int false .i64 b, SC.int false .u64 c, SC.int false .i64 d, SC.int false .i64 e, SC.int false .u64 f, SC.int
 false .i64 g]
def ds12_4  : List SC := [SC.int true .u64 (0 : Int), SC.int true .u64 (0 : Int), SC.int true .u64 (0 : Int), SC.int true .u64 (0 : Int)]
def ds12_5 (f k : Int) (hk : 0 ≤ k ∧ k ≤ 255) : SF := SF.mk 40 (np 95 0 (nv (SV.c (SC.int true .i64 (2 : Int))) (nu (nv (SV.c (tb false)) (np 95 7 (nv (SV.tup [(true, [SC.int true
 .u64 (0 : Int), SC.raw (Value.pointer none)]), (false, [tb false])]) tn tn) tn) (nv (SV.agg [SC.int false .u64 f, SC.raw (Value.pointer none)]) nu0 tn)) (nv (SV.c (tb false)) (nv
 (SV.agg [SC.int false .u64 f, SC.raw (Value.pointer none)]) nu0 tn) (nv (SV.agg [SC.int false .u64 f, SC.raw (Value.pointer none)]) tn tn))) (nu (nv (SV.c (SC.int true .i64 (0 :
 Int))) (np 91 0 (nv (SV.c (tb false)) tn tn) tn) (nv (SV.tup [(true, [SC.int true .u64 (0 : Int), SC.raw (Value.pointer none)]), (false, [tb false])]) tn tn)) (nv (SV.c (SC.int true
 .i64 (2 : Int))) (nv (SV.c (tb true)) nu0 tn) (nv (SV.c (SC.int true .i64 (0 : Int))) tn tn)))) (nv (SV.c (SC.int false .i64 k (Bd.w (0 : Int) (255 : Int) hk))) (nu (np 162 0 (np 95
 9 (nv (SV.agg [SC.int true .u64 (0 : Int), SC.raw (Value.pointer none)]) tn tn) tn) (nv (SV.c (tb false)) tn tn)) (np 95 0 (nv (SV.c (SC.int true .i64 (0 : Int))) nu0 tn) (nv (SV.c
 (SC.int false .i64 k (Bd.w (0 : Int) (255 : Int) hk))) tn tn))) (nv (SV.c (SC.int true .u64 (0 : Int))) (np 190 0 (np 91 0 nu0 tn) (np 95 0 tn tn)) (np 95 0 (nv (SV.c (SC.int true
 .i64 (0 : Int))) nu0 tn) (nv (SV.c (SC.int false .i64 (dkF k (0 : Int)) (Bd.w (0 : Int) (3 : Int) (dkF_bd k (Int.ofNat 0))))) tn tn))))) []
def ds12_6 (a c f b d e g : Int) (X0 : Prop) : Prop := a = a ∧ Value.pointer none = Value.pointer none ∧ c = c ∧ Value.pointer none = Value.pointer none ∧ f = f ∧ Value.pointer none
 = Value.pointer none ∧ ([] : List (Int × Value)) = [] ∧ a = a ∧ b = b ∧ c = c ∧ d = d ∧ e = e ∧ f = f ∧ g = g ∧ f = f ∧ Value.pointer none = Value.pointer none ∧ (X0 ∧ True) ∧ True
def ds12_15 (c f a b d e g : Int) (X1 : Prop) : Prop := Value.pointer none = Value.pointer none ∧ c = c ∧ Value.pointer none = Value.pointer none ∧ f = f ∧ Value.pointer none =
 Value.pointer none ∧ ([] : List (Int × Value)) = [] ∧ a = a ∧ b = b ∧ c = c ∧ d = d ∧ e = e ∧ f = f ∧ g = g ∧ f = f ∧ Value.pointer none = Value.pointer none ∧ X1 ∧ True
def ds12_7 (a c f b d e g : Int) (X0 : Prop) (k : Int) (hk : 0 ≤ k ∧ k ≤ 255) (p : Int) (hp : 0 ≤ p ∧ p ≤ 1023) (q : Int) (hq : 0 ≤ q ∧ q ≤ 1023) : Prop := a = a ∧ Value.pointer
 none = Value.pointer none ∧ c = c ∧ Value.pointer none = Value.pointer none ∧ f = f ∧ Value.pointer none = Value.pointer none ∧ ([] : List (Int × Value)) = [] ∧ a = a ∧ b = b ∧ c =
 c ∧ d = d ∧ e = e ∧ f = f ∧ g = g ∧ f = f ∧ Value.pointer none = Value.pointer none ∧ (((ds12_6 a c f b d e g X0) ∧ True) ∧ (∀ (K : KO XN), (fun X1 : Prop => (a = a ∧ ds12_15 c f a
 b d e g X1) ∧ True → ds12_6 a c f b d e g X1) (K (ds12_1 f k) (Mem.mk [(1, SO.cells (ds12_3 a b c d e f g) 75), (2, SO.cells (ds12_2 k hk p hp q hq) 77), (45, SO.cells (ds12_3 a b c
 d e f g) 75), (51, SO.cells (ds12_3 a b c d e f g) 75), (83, SO.cells [SC.int false .u64 a, SC.raw (Value.pointer none)] 199), (87, SO.cells [SC.int false .u64 c, SC.raw
 (Value.pointer none)] 199), (91, SO.cells [SC.int false .u64 f, SC.raw (Value.pointer none)] 199), (93, SO.mp true []), (95, SO.cells [SC.int false .u64 a, SC.int false .i64 b,
 SC.int false .u64 c, SC.int false .i64 d, SC.int false .i64 e, SC.int false .u64 f, SC.int false .i64 g, sp 83 0, sp 87 0, sp 91 0, SC.map 93, SC.nls, SC.nls, SC.nls, SC.int true
 .u64 (0 : Int)] 204), (109, SO.cells (ds12_2 k hk p hp q hq) 77), (110, SO.cells [SC.int true .i64 (0 : Int), SC.int true .i64 (0 : Int)] 82), (128, SO.cells [SC.int true .i64 (0 :
 Int), SC.int true .i64 (0 : Int)] 82), (141, SO.cells (ds12_2 k hk p hp q hq) 77), (142, SO.cells [SC.int true .i64 (0 : Int), SC.int true .i64 (0 : Int)] 82), (162, SO.cells
 [SC.int false .u64 f, SC.raw (Value.pointer none)] 199), (170, SO.cells [SC.int false .u64 f, SC.raw (Value.pointer none)] 199), (190, SO.cells [SC.int true .u64 (0 : Int), SC.raw
 (Value.pointer none)] 199), (193, SO.cells [SC.int false .u64 f, SC.raw (Value.pointer none)] 199), (194, SO.cells [SC.int true .u64 (0 : Int), SC.raw (Value.pointer none)] 199),
 (209, SO.cells (ds12_4) 87)] 199) Scr.nil)) ∧ True) ∧ True
def ds12_8 (a c f b d e g : Int) (X0 : Prop) : Prop := a = a ∧ ds12_15 c f a b d e g X0
def ds12_9 (a b c d e f g : Int) : List SC := [SC.int false .u64 a, SC.int false .i64 b, SC.int false .u64 c, SC.int false .i64 d, SC.int false .i64 e, SC.int false .u64 f, SC.int
 false .i64 g, sp 83 0, sp 87 0, sp 91 0, SC.map 93, SC.nls, SC.nls, SC.nls, SC.int true .u64 (0 : Int)]
def ds12_10 (a b c e d : Int) : Prop := ((a != a) = true → false = true) ∧ ((a != a) = false → ((b != b) = true → false = true) ∧ ((b != b) = false → ((c != c) = true → false =
 true) ∧ ((c != c) = false → ((e != e) = true → false = true) ∧ ((e != e) = false → ((d != d) = true → false = true) ∧ ((d != d) = false → true = true)))))
def ds12_11 (a c f b d e g k : Int) (hk : 0 ≤ k ∧ k ≤ 255) (p : Int) (hp : 0 ≤ p ∧ p ≤ 1023) (q : Int) (hq : 0 ≤ q ∧ q ≤ 1023) : Prop := ∀ (K : KO XN), (fun X1 : Prop => (ds12_8 a c
 f b d e g X1) ∧ True → ds12_6 a c f b d e g X1) (K (ds12_1 f k) (Mem.mk [(1, SO.cells (ds12_3 a b c d e f g) 75), (2, SO.cells (ds12_2 k hk p hp q hq) 77), (45, SO.cells (ds12_3 a b
 c d e f g) 75), (51, SO.cells (ds12_3 a b c d e f g) 75), (83, SO.cells [SC.int false .u64 a, SC.raw (Value.pointer none)] 199), (87, SO.cells [SC.int false .u64 c, SC.raw
 (Value.pointer none)] 199), (91, SO.cells [SC.int false .u64 f, SC.raw (Value.pointer none)] 199), (93, SO.mp true []), (95, SO.cells (ds12_9 a b c d e f g) 204), (109, SO.cells
 (ds12_2 k hk p hp q hq) 77), (110, SO.cells [SC.int true .i64 (0 : Int), SC.int true .i64 (0 : Int)] 82), (128, SO.cells [SC.int true .i64 (0 : Int), SC.int true .i64 (0 : Int)]
 82), (141, SO.cells (ds12_2 k hk p hp q hq) 77), (142, SO.cells [SC.int true .i64 (0 : Int), SC.int true .i64 (0 : Int)] 82), (162, SO.cells [SC.int false .u64 f, SC.raw
 (Value.pointer none)] 199), (170, SO.cells [SC.int false .u64 f, SC.raw (Value.pointer none)] 199), (193, SO.cells [SC.int false .u64 f, SC.raw (Value.pointer none)] 199), (194,
 SO.cells [SC.int true .u64 (0 : Int), SC.raw (Value.pointer none)] 199), (209, SO.cells (ds12_4) 87)] 199) Scr.nil)
def ds12_12 (a c f b d e g : Int) (X0 : Prop) : Prop := (a = a ∧ Value.pointer none = Value.pointer none ∧ c = c ∧ Value.pointer none = Value.pointer none ∧ f = f ∧ Value.pointer
 none = Value.pointer none ∧ ([] : List (Int × Value)) = [] ∧ a = a ∧ b = b ∧ c = c ∧ d = d ∧ e = e ∧ f = f ∧ g = g ∧ f = f ∧ Value.pointer none = Value.pointer none ∧ ((X0 ∧ True) ∧
 True) ∧ True) ∧ True
def ds12_13 (a b c d e f g : Int) : List SC := [SC.int false .u64 a, SC.int false .i64 b, SC.int false .u64 c, SC.int false .i64 d, SC.int false .i64 e, SC.int false .u64 f, SC.int
 false .i64 g, sp 83 0, sp 87 0, sp 91 0, SC.map 93, SC.nls, SC.nls, SC.nls, SC.int false .u64 f]
/-- What the executor leaves to be shown of roundelay/roundelaylaw08.DraftShares, written out. -/
theorem ds12_vc (a b c d e f g : Int) (k p q : Int) (hk : 0 ≤ k ∧ k ≤ 255) (hp : 0 ≤ p ∧ p ≤ 1023) (hq : 0 ≤ q ∧ q ≤ 1023) : (callN Try.prog (tblDS : List (Smry Try.prog XN)) (fun _ _ => false) 100 20 4 [.agg [.int false .u64 a, .int false .i64 b, .int false .u64 c, .int false .i64 d, .int false .i64 e, .int false .u64 f, .int false .i64 g], .agg [.int true .i64 12, .int false .i64 k (.w 0 255 hk), .int false .i64 p (.w 0 1023 hp), .int false .i64 q (.w 0 1023 hq)]] ⟨[], 1⟩ (.cut 4 (liveL [2, 3, 4, 5, 6, 8, 9, 11, 13, 131]) [] Unit (fun _ _ => ([], [])) .nil fun _ => .nil) (fun v _ _ => retTrue v)) = (
 (((c == (0 : Int)) = true → (decide (e > (0 : Int)) = true → ∃ (y : Unit), a = a ∧ b = b ∧ c = c ∧ d = d ∧ e = e ∧ f = f ∧ g = g ∧ k = k ∧ p = p ∧ q = q ∧ True) ∧ (decide (e > (0 :
 Int)) = false → ∃ (y : Unit), a = a ∧ b = b ∧ c = c ∧ d = d ∧ e = e ∧ f = f ∧ g = g ∧ k = k ∧ p = p ∧ q = q ∧ True)) ∧ ((c == (0 : Int)) = false → ∃ (y : Unit), a = a ∧ b = b ∧ c =
 c ∧ d = d ∧ e = e ∧ f = f ∧ g = g ∧ k = k ∧ p = p ∧ q = q ∧ True)) ∧ ∀ (y : Unit) (ρ : Nat → Value), (decide (min (min (min b e) g) d ≥ (0 : Int)) = true → (decide (max (max b e) g
 ≤ (256 : Int)) = true → ((!decide (d < (256 : Int))) = true → true = true) ∧ ((!decide (d < (256 : Int))) = false → True ∧ (∀ (z : Un), True → ((!decide (RightO (12 : Int) k p q)) =
 true → ds12_10 a b c e d) ∧ ((!decide (RightO (12 : Int) k p q)) = false → ((f == (0 : Int)) = true → ds12_10 a b c e d) ∧ ((f == (0 : Int)) = false → (True ∧ (∀ (z : Un), True → a
 = a ∧ Value.pointer none = Value.pointer none ∧ c = c ∧ Value.pointer none = Value.pointer none ∧ f = f ∧ Value.pointer none = Value.pointer none ∧ ([] : List (Int × Value)) = [] ∧
 a = a ∧ b = b ∧ c = c ∧ d = d ∧ e = e ∧ f = f ∧ g = g ∧ f = f ∧ Value.pointer none = Value.pointer none ∧ (((a = a ∧ Value.pointer none = Value.pointer none ∧ c = c ∧ Value.pointer
 none = Value.pointer none ∧ f = f ∧ Value.pointer none = Value.pointer none ∧ ([] : List (Int × Value)) = [] ∧ a = a ∧ b = b ∧ c = c ∧ d = d ∧ e = e ∧ f = f ∧ g = g ∧ f = f ∧
 Value.pointer none = Value.pointer none ∧ (((((f != (0 : Int)) = true → (a = a ∧ Value.pointer none = Value.pointer none ∧ c = c ∧ Value.pointer none = Value.pointer none ∧ f = f ∧
 Value.pointer none = Value.pointer none ∧ ([] : List (Int × Value)) = [] ∧ a = a ∧ b = b ∧ c = c ∧ d = d ∧ e = e ∧ f = f ∧ g = g ∧ f = f ∧ ((f != (0 : Int)) = true → ((true == (a ==
 a && (b == b && (c == c && (d == d && (e == e && (f == f && (g == g && true)))))))) = true → true = true) ∧ ((true == (a == a && (b == b && (c == c && (d == d && (e == e && (f == f
 && (g == g && true)))))))) = false → false = true)) ∧ ((f != (0 : Int)) = false → ds12_10 a b c e d)) ∧ True) ∧ ((f != (0 : Int)) = false → ds12_10 a b c e d)) ∧ True) ∧ True) ∧
 True) ∧ True) ∧ (∀ (K : KO XN), (fun X0 : Prop => (ds12_8 a c f b d e g X0) ∧ True → ds12_6 a c f b d e g X0) (K (ds12_1 f k) (Mem.mk [(1, SO.cells (ds12_3 a b c d e f g) 75), (2,
 SO.cells (ds12_2 k hk p hp q hq) 77), (45, SO.cells (ds12_3 a b c d e f g) 75), (51, SO.cells (ds12_3 a b c d e f g) 75), (83, SO.cells [SC.int false .u64 a, SC.raw (Value.pointer
 none)] 199), (87, SO.cells [SC.int false .u64 c, SC.raw (Value.pointer none)] 199), (91, SO.cells [SC.int false .u64 f, SC.raw (Value.pointer none)] 199), (93, SO.mp true []), (95,
 SO.cells (ds12_9 a b c d e f g) 204), (109, SO.cells (ds12_2 k hk p hp q hq) 77), (110, SO.cells [SC.int true .i64 (0 : Int), SC.int true .i64 (0 : Int)] 82), (128, SO.cells [SC.int
 true .i64 (0 : Int), SC.int true .i64 (0 : Int)] 82), (141, SO.cells (ds12_2 k hk p hp q hq) 77), (142, SO.cells [SC.int true .i64 (0 : Int), SC.int true .i64 (0 : Int)] 82), (162,
 SO.cells [SC.int false .u64 f, SC.raw (Value.pointer none)] 199), (170, SO.cells [SC.int false .u64 f, SC.raw (Value.pointer none)] 199), (193, SO.cells [SC.int false .u64 f, SC.raw
 (Value.pointer none)] 199), (194, SO.cells [SC.int true .u64 (0 : Int), SC.raw (Value.pointer none)] 199), (209, SO.cells (ds12_4) 87)] 199) Scr.nil)) ∧ True) ∧ (∀ (K : KO XN), (fun
 X0 : Prop => (ds12_12 a c f b d e g X0) ∧ (ds12_11 a c f b d e g k hk p hp q hq) ∧ True → ds12_7 a c f b d e g X0 k hk p hp q hq) (K (ds12_5 f k hk) (Mem.mk [(1, SO.cells (ds12_3 a
 b c d e f g) 75), (2, SO.cells (ds12_2 k hk p hp q hq) 77), (45, SO.cells (ds12_3 a b c d e f g) 75), (51, SO.cells (ds12_3 a b c d e f g) 75), (83, SO.cells [SC.int false .u64 a,
 SC.raw (Value.pointer none)] 199), (87, SO.cells [SC.int false .u64 c, SC.raw (Value.pointer none)] 199), (91, SO.cells [SC.int false .u64 f, SC.raw (Value.pointer none)] 199), (93,
 SO.mp true []), (95, SO.cells (ds12_13 a b c d e f g) 204), (109, SO.cells (ds12_2 k hk p hp q hq) 77), (110, SO.cells [SC.int true .i64 (0 : Int), SC.int true .i64 (0 : Int)] 82),
 (128, SO.cells [SC.int true .i64 (0 : Int), SC.int true .i64 (0 : Int)] 82), (141, SO.cells (ds12_2 k hk p hp q hq) 77), (142, SO.cells [SC.int true .i64 (0 : Int), SC.int true .i64
 (0 : Int)] 82), (162, SO.cells [SC.int false .u64 f, SC.raw (Value.pointer none)] 199), (170, SO.cells [SC.int false .u64 f, SC.raw (Value.pointer none)] 199), (190, SO.cells
 [SC.int true .u64 (0 : Int), SC.raw (Value.pointer none)] 199), (193, SO.cells [SC.int false .u64 f, SC.raw (Value.pointer none)] 199), (194, SO.cells [SC.int true .u64 (0 : Int),
 SC.raw (Value.pointer none)] 199), (209, SO.cells (ds12_4) 87)] 223) Scr.nil)) ∧ True) ∧ True) ∧ (∀ (K : KO XN), (fun X0 : Prop => True ∧ (∀ (z : Un), True → a = a ∧ Value.pointer
 none = Value.pointer none ∧ c = c ∧ Value.pointer none = Value.pointer none ∧ f = f ∧ Value.pointer none = Value.pointer none ∧ ([] : List (Int × Value)) = [] ∧ a = a ∧ b = b ∧ c =
 c ∧ d = d ∧ e = e ∧ f = f ∧ g = g ∧ f = f ∧ Value.pointer none = Value.pointer none ∧ ((ds12_12 a c f b d e g X0) ∧ (ds12_11 a c f b d e g k hk p hp q hq) ∧ True) ∧ (∀ (K : KO XN),
 (fun X1 : Prop => (ds12_12 a c f b d e g X1) ∧ (∀ (K : KO XN), (fun X2 : Prop => (ds12_8 a c f b d e g X2) ∧ True → ds12_6 a c f b d e g X2) (K (ds12_1 f k) (Mem.mk [(1, SO.cells
 (ds12_3 a b c d e f g) 75), (2, SO.cells (ds12_2 k hk p hp q hq) 77), (45, SO.cells (ds12_3 a b c d e f g) 75), (51, SO.cells (ds12_3 a b c d e f g) 75), (83, SO.cells [SC.int false
 .u64 a, SC.raw (Value.pointer none)] 199), (87, SO.cells [SC.int false .u64 c, SC.raw (Value.pointer none)] 199), (91, SO.cells [SC.int false .u64 f, SC.raw (Value.pointer none)]
 199), (93, SO.mp true []), (95, SO.cells (ds12_9 a b c d e f g) 204), (109, SO.cells (ds12_2 k hk p hp q hq) 77), (110, SO.cells [SC.int true .i64 (0 : Int), SC.int true .i64 (0 :
 Int)] 82), (128, SO.cells [SC.int true .i64 (0 : Int), SC.int true .i64 (0 : Int)] 82), (141, SO.cells (ds12_2 k hk p hp q hq) 77), (142, SO.cells [SC.int true .i64 (0 : Int),
 SC.int true .i64 (0 : Int)] 82), (162, SO.cells [SC.int false .u64 f, SC.raw (Value.pointer none)] 199), (170, SO.cells [SC.int false .u64 f, SC.raw (Value.pointer none)] 199),
 (193, SO.cells [SC.int false .u64 f, SC.raw (Value.pointer none)] 199), (194, SO.cells [SC.int true .u64 (0 : Int), SC.raw (Value.pointer none)] 199), (209, SO.cells (ds12_4) 87)]
 199) Scr.nil)) ∧ True → a = a ∧ Value.pointer none = Value.pointer none ∧ c = c ∧ Value.pointer none = Value.pointer none ∧ f = f ∧ Value.pointer none = Value.pointer none ∧ ([] :
 List (Int × Value)) = [] ∧ a = a ∧ b = b ∧ c = c ∧ d = d ∧ e = e ∧ f = f ∧ g = g ∧ f = f ∧ Value.pointer none = Value.pointer none ∧ (((ds12_6 a c f b d e g X1) ∧ True) ∧ (∀ (K : KO
 XN), (fun X2 : Prop => (ds12_8 a c f b d e g X2) ∧ True → ds12_6 a c f b d e g X2) (K (ds12_1 f k) (Mem.mk [(1, SO.cells (ds12_3 a b c d e f g) 75), (2, SO.cells (ds12_2 k hk p hp q
 hq) 77), (45, SO.cells (ds12_3 a b c d e f g) 75), (51, SO.cells (ds12_3 a b c d e f g) 75), (83, SO.cells [SC.int false .u64 a, SC.raw (Value.pointer none)] 199), (87, SO.cells
 [SC.int false .u64 c, SC.raw (Value.pointer none)] 199), (91, SO.cells [SC.int false .u64 f, SC.raw (Value.pointer none)] 199), (93, SO.mp true []), (95, SO.cells (ds12_9 a b c d e
 f g) 204), (109, SO.cells (ds12_2 k hk p hp q hq) 77), (110, SO.cells [SC.int true .i64 (0 : Int), SC.int true .i64 (0 : Int)] 82), (128, SO.cells [SC.int true .i64 (0 : Int),
 SC.int true .i64 (0 : Int)] 82), (141, SO.cells (ds12_2 k hk p hp q hq) 77), (142, SO.cells [SC.int true .i64 (0 : Int), SC.int true .i64 (0 : Int)] 82), (162, SO.cells [SC.int
 false .u64 f, SC.raw (Value.pointer none)] 199), (170, SO.cells [SC.int false .u64 f, SC.raw (Value.pointer none)] 199), (190, SO.cells [SC.int true .u64 (0 : Int), SC.raw
 (Value.pointer none)] 199), (193, SO.cells [SC.int false .u64 f, SC.raw (Value.pointer none)] 199), (194, SO.cells [SC.int true .u64 (0 : Int), SC.raw (Value.pointer none)] 199),
 (209, SO.cells (ds12_4) 87)] 199) Scr.nil)) ∧ True) ∧ True) (K (ds12_5 f k hk) (Mem.mk [(1, SO.cells (ds12_3 a b c d e f g) 75), (2, SO.cells (ds12_2 k hk p hp q hq) 77), (45,
 SO.cells (ds12_3 a b c d e f g) 75), (51, SO.cells (ds12_3 a b c d e f g) 75), (83, SO.cells [SC.int false .u64 a, SC.raw (Value.pointer none)] 199), (87, SO.cells [SC.int false
 .u64 c, SC.raw (Value.pointer none)] 199), (91, SO.cells [SC.int false .u64 f, SC.raw (Value.pointer none)] 199), (93, SO.mp true []), (95, SO.cells (ds12_13 a b c d e f g) 204),
 (109, SO.cells (ds12_2 k hk p hp q hq) 77), (110, SO.cells [SC.int true .i64 (0 : Int), SC.int true .i64 (0 : Int)] 82), (128, SO.cells [SC.int true .i64 (0 : Int), SC.int true .i64
 (0 : Int)] 82), (141, SO.cells (ds12_2 k hk p hp q hq) 77), (142, SO.cells [SC.int true .i64 (0 : Int), SC.int true .i64 (0 : Int)] 82), (162, SO.cells [SC.int false .u64 f, SC.raw
 (Value.pointer none)] 199), (170, SO.cells [SC.int false .u64 f, SC.raw (Value.pointer none)] 199), (190, SO.cells [SC.int true .u64 (0 : Int), SC.raw (Value.pointer none)] 199),
 (193, SO.cells [SC.int false .u64 f, SC.raw (Value.pointer none)] 199), (194, SO.cells [SC.int true .u64 (0 : Int), SC.raw (Value.pointer none)] 199), (209, SO.cells (ds12_4) 87)]
 223) Scr.nil)) ∧ True) ∧ True → a = a ∧ Value.pointer none = Value.pointer none ∧ c = c ∧ Value.pointer none = Value.pointer none ∧ f = f ∧ Value.pointer none = Value.pointer none ∧
 ([] : List (Int × Value)) = [] ∧ a = a ∧ b = b ∧ c = c ∧ d = d ∧ e = e ∧ f = f ∧ g = g ∧ f = f ∧ Value.pointer none = Value.pointer none ∧ (True ∧ (∀ (z : Un), True → ds12_7 a c f b
 d e g X0 k hk p hp q hq) ∧ True) ∧ True) (K (ds12_5 f k hk) (Mem.mk [(1, SO.cells (ds12_3 a b c d e f g) 75), (2, SO.cells (ds12_2 k hk p hp q hq) 77), (45, SO.cells (ds12_3 a b c d
 e f g) 75), (51, SO.cells (ds12_3 a b c d e f g) 75), (83, SO.cells [SC.int false .u64 a, SC.raw (Value.pointer none)] 199), (87, SO.cells [SC.int false .u64 c, SC.raw
 (Value.pointer none)] 199), (91, SO.cells [SC.int false .u64 f, SC.raw (Value.pointer none)] 199), (93, SO.mp true []), (95, SO.cells (ds12_13 a b c d e f g) 204), (109, SO.cells
 (ds12_2 k hk p hp q hq) 77), (110, SO.cells [SC.int true .i64 (0 : Int), SC.int true .i64 (0 : Int)] 82), (128, SO.cells [SC.int true .i64 (0 : Int), SC.int true .i64 (0 : Int)]
 82), (141, SO.cells (ds12_2 k hk p hp q hq) 77), (142, SO.cells [SC.int true .i64 (0 : Int), SC.int true .i64 (0 : Int)] 82), (162, SO.cells [SC.int false .u64 f, SC.raw
 (Value.pointer none)] 199), (170, SO.cells [SC.int false .u64 f, SC.raw (Value.pointer none)] 199), (190, SO.cells [SC.int true .u64 (0 : Int), SC.raw (Value.pointer none)] 199),
 (193, SO.cells [SC.int false .u64 f, SC.raw (Value.pointer none)] 199), (194, SO.cells [SC.int true .u64 (0 : Int), SC.raw (Value.pointer none)] 199), (209, SO.cells (ds12_4) 87)]
 223) Scr.nil)) ∧ True))) ∧ True)) ∧ (decide (max (max b e) g ≤ (256 : Int)) = false → true = true)) ∧ (decide (min (min (min b e) g) d ≥ (0 : Int)) = false → true = true)) := by
  kernel_rfl
theorem ds12_run (a b c d e f g : Int) (k p q : Int) (hk : 0 ≤ k ∧ k ≤ 255) (hp : 0 ≤ p ∧ p ≤ 1023) (hq : 0 ≤ q ∧ q ≤ 1023) (hc : DsOk a b c d e f g) : Run (callN Try.prog (tblDS : List (Smry Try.prog XN)) (fun _ _ => false) 100 20 4 [.agg [.int false .u64 a, .int false .i64 b, .int false .u64 c, .int false .i64 d, .int false .i64 e, .int false .u64 f, .int false .i64 g], .agg [.int true .i64 12, .int false .i64 k (.w 0 255 hk), .int false .i64 p (.w 0 1023 hp), .int false .i64 q (.w 0 1023 hq)]] ⟨[], 1⟩ (.cut 4 (liveL [2, 3, 4, 5, 6, 8, 9, 11, 13, 131]) [] Unit (fun _ _ => ([], [])) .nil fun _ => .nil) (fun v _ _ => retTrue v)) := by
  constructor
  rw [ds12_vc]
  delta ds12_14 ds12_1 ds12_2 ds12_3 ds12_4 ds12_5 ds12_6 ds12_15 ds12_7 ds12_8 ds12_9 ds12_10 ds12_11 ds12_12 ds12_13
  obtain ⟨⟨⟨ha0, ha1⟩, ⟨hb0, hb1⟩, hc0, hc1⟩, ⟨hd0, hd1⟩, ⟨he0, he1⟩, ⟨hf0, hf1⟩, hg0, hg1⟩ := hc
  repeat' first
    | (refine fun (K : KO XN) => ?_; simp only [eq_self, true_and, and_true, imp_self, implies_true]; first | done | exact id; done)
    | with_reducible apply And.intro
    | with_reducible exact trivial
    | with_reducible exact Eq.refl _
    | (with_reducible refine Exists.intro () ?_)
    | (intro h; simp only [bne_self_eq_false, Bool.false_eq_true] at h; done)
    | intro _
  all_goals first
    | omega
    | with_reducible assumption
    | (simp only [Bool.not_eq_false', Bool.not_eq_true', decide_eq_true_eq, decide_eq_false_iff_not] at *; omega)
    | (simp_all; done)
end Go.Proofs.Ytnkikhhiaecebaa

/- DraftShares, code 13. -/
namespace Go.Proofs.Ytnkikhhiaecebaa
open Go Go.RowKit
set_option maxRecDepth 1000000
set_option maxHeartbeats 0
def ds13_14  : List SC := [SC.int true .u64 (0 : Int), SC.int true .u64 (0 : Int), SC.int true .u64 (0 : Int), SC.int true .u64 (0 : Int)]
def ds13_1 (f k : Int) : SF := SF.mk 50 (np 95 0 (nv (SV.agg [SC.int false .u64 f, SC.raw (Value.pointer none)]) (nu (nv (SV.c (tb false)) (nu (np 95 10 tn tn) nu0) (nu nu0 tn)) (nv
 (SV.c (SC.raw (Value.pointer none))) (nu (nv (SV.tup [(true, (ds13_14)), (false, [tb false])]) tn tn) tn) (nu nu0 tn))) (nu (nv (SV.c (tb false)) (nu (np 193 0 tn tn) nu0) (nu nu0
 tn)) (nu (nu (nv (SV.c (tb false)) tn tn) tn) (np 95 0 nu0 tn)))) (nv (SV.c (SC.int false .i64 (dkF k (0 : Int)) (Bd.w (0 : Int) (3 : Int) (dkF_bd k (Int.ofNat 0))))) (np 193 0 (np
 209 0 (nu (nv (SV.c (SC.map 93)) tn tn) nu0) (nu nu0 tn)) (nv (SV.c (tb false)) (nu (nv (SV.agg (ds13_14)) tn tn) tn) (nv (SV.tup [(true, (ds13_14)), (false, [tb false])]) nu0 tn)))
 (np 194 0 (np 193 1 (nu (nv (SV.c (SC.int false .u64 f)) tn tn) tn) (nu nu0 tn)) (nu (nu nu0 tn) (np 95 0 nu0 tn))))) []
def ds13_2 (k : Int) (hk : 0 ≤ k ∧ k ≤ 255) (p : Int) (hp : 0 ≤ p ∧ p ≤ 1023) (q : Int) (hq : 0 ≤ q ∧ q ≤ 1023) : List SC := [SC.int true .i64 (13 : Int), SC.int false .i64 k (Bd.w
 (0 : Int) (255 : Int) hk), SC.int false .i64 p (Bd.w (0 : Int) (1023 : Int) hp), SC.int false .i64 q (Bd.w (0 : Int) (1023 : Int) hq)]
def ds13_3 (a b c d e f g : Int) : List SC := [SC.int false .u64 a, SC.int false .i64 b, SC.int false .u64 c, SC.int false .i64 d, SC.int false .i64 e, SC.int false .u64 f, SC.int
 false .i64 g]
def ds13_4  : List SC := [SC.int true .u64 (0 : Int), SC.int true .u64 (0 : Int), SC.int true .u64 (0 : Int), SC.int true .u64 (0 : Int)]
def ds13_5 (f k : Int) (hk : 0 ≤ k ∧ k ≤ 255) : SF := SF.mk 40 (np 95 0 (nv (SV.c (SC.int true .i64 (2 : Int))) (nu (nv (SV.c (tb false)) (np 95 7 (nv (SV.tup [(true, [SC.int true
 .u64 (0 : Int), SC.raw (Value.pointer none)]), (false, [tb false])]) tn tn) tn) (nv (SV.agg [SC.int false .u64 f, SC.raw (Value.pointer none)]) nu0 tn)) (nv (SV.c (tb false)) (nv
 (SV.agg [SC.int false .u64 f, SC.raw (Value.pointer none)]) nu0 tn) (nv (SV.agg [SC.int false .u64 f, SC.raw (Value.pointer none)]) tn tn))) (nu (nv (SV.c (SC.int true .i64 (0 :
 Int))) (np 91 0 (nv (SV.c (tb false)) tn tn) tn) (nv (SV.tup [(true, [SC.int true .u64 (0 : Int), SC.raw (Value.pointer none)]), (false, [tb false])]) tn tn)) (nv (SV.c (SC.int true
 .i64 (2 : Int))) (nv (SV.c (tb true)) nu0 tn) (nv (SV.c (SC.int true .i64 (0 : Int))) tn tn)))) (nv (SV.c (SC.int false .i64 k (Bd.w (0 : Int) (255 : Int) hk))) (nu (np 162 0 (np 95
 9 (nv (SV.agg [SC.int true .u64 (0 : Int), SC.raw (Value.pointer none)]) tn tn) tn) (nv (SV.c (tb false)) tn tn)) (np 95 0 (nv (SV.c (SC.int true .i64 (0 : Int))) nu0 tn) (nv (SV.c
 (SC.int false .i64 k (Bd.w (0 : Int) (255 : Int) hk))) tn tn))) (nv (SV.c (SC.int true .u64 (0 : Int))) (np 190 0 (np 91 0 nu0 tn) (np 95 0 tn tn)) (np 95 0 (nv (SV.c (SC.int true
 .i64 (0 : Int))) nu0 tn) (nv (SV.c (SC.int false .i64 (dkF k (0 : Int)) (Bd.w (0 : Int) (3 : Int) (dkF_bd k (Int.ofNat 0))))) tn tn))))) []
def ds13_6 (a c f b d e g : Int) (X0 : Prop) : Prop := a = a ∧ Value.pointer none = Value.pointer none ∧ c = c ∧ Value.pointer none = Value.pointer none ∧ f = f ∧ Value.pointer none
 = Value.pointer none ∧ ([] : List (Int × Value)) = [] ∧ a = a ∧ b = b ∧ c = c ∧ d = d ∧ e = e ∧ f = f ∧ g = g ∧ f = f ∧ Value.pointer none = Value.pointer none ∧ (X0 ∧ True) ∧ True
def ds13_15 (c f a b d e g : Int) (X1 : Prop) : Prop := Value.pointer none = Value.pointer none ∧ c = c ∧ Value.pointer none = Value.pointer none ∧ f = f ∧ Value.pointer none =
 Value.pointer none ∧ ([] : List (Int × Value)) = [] ∧ a = a ∧ b = b ∧ c = c ∧ d = d ∧ e = e ∧ f = f ∧ g = g ∧ f = f ∧ Value.pointer none = Value.pointer none ∧ X1 ∧ True
def ds13_7 (a c f b d e g : Int) (X0 : Prop) (k : Int) (hk : 0 ≤ k ∧ k ≤ 255) (p : Int) (hp : 0 ≤ p ∧ p ≤ 1023) (q : Int) (hq : 0 ≤ q ∧ q ≤ 1023) : Prop := a = a ∧ Value.pointer
 none = Value.pointer none ∧ c = c ∧ Value.pointer none = Value.pointer none ∧ f = f ∧ Value.pointer none = Value.pointer none ∧ ([] : List (Int × Value)) = [] ∧ a = a ∧ b = b ∧ c =
 c ∧ d = d ∧ e = e ∧ f = f ∧ g = g ∧ f = f ∧ Value.pointer none = Value.pointer none ∧ (((ds13_6 a c f b d e g X0) ∧ True) ∧ (∀ (K : KO XN), (fun X1 : Prop => (a = a ∧ ds13_15 c f a
 b d e g X1) ∧ True → ds13_6 a c f b d e g X1) (K (ds13_1 f k) (Mem.mk [(1, SO.cells (ds13_3 a b c d e f g) 75), (2, SO.cells (ds13_2 k hk p hp q hq) 77), (45, SO.cells (ds13_3 a b c
 d e f g) 75), (51, SO.cells (ds13_3 a b c d e f g) 75), (83, SO.cells [SC.int false .u64 a, SC.raw (Value.pointer none)] 199), (87, SO.cells [SC.int false .u64 c, SC.raw
 (Value.pointer none)] 199), (91, SO.cells [SC.int false .u64 f, SC.raw (Value.pointer none)] 199), (93, SO.mp true []), (95, SO.cells [SC.int false .u64 a, SC.int false .i64 b,
 SC.int false .u64 c, SC.int false .i64 d, SC.int false .i64 e, SC.int false .u64 f, SC.int false .i64 g, sp 83 0, sp 87 0, sp 91 0, SC.map 93, SC.nls, SC.nls, SC.nls, SC.int true
 .u64 (0 : Int)] 204), (109, SO.cells (ds13_2 k hk p hp q hq) 77), (110, SO.cells [SC.int true .i64 (0 : Int), SC.int true .i64 (0 : Int)] 82), (128, SO.cells [SC.int true .i64 (0 :
 Int), SC.int true .i64 (0 : Int)] 82), (141, SO.cells (ds13_2 k hk p hp q hq) 77), (142, SO.cells [SC.int true .i64 (0 : Int), SC.int true .i64 (0 : Int)] 82), (162, SO.cells
 [SC.int false .u64 f, SC.raw (Value.pointer none)] 199), (170, SO.cells [SC.int false .u64 f, SC.raw (Value.pointer none)] 199), (190, SO.cells [SC.int true .u64 (0 : Int), SC.raw
 (Value.pointer none)] 199), (193, SO.cells [SC.int false .u64 f, SC.raw (Value.pointer none)] 199), (194, SO.cells [SC.int true .u64 (0 : Int), SC.raw (Value.pointer none)] 199),
 (209, SO.cells (ds13_4) 87)] 199) Scr.nil)) ∧ True) ∧ True
def ds13_8 (a c f b d e g : Int) (X0 : Prop) : Prop := a = a ∧ ds13_15 c f a b d e g X0
def ds13_9 (a b c e d f g : Int) : Prop := ((a != a) = true → false = true) ∧ ((a != a) = false → ((b != b) = true → false = true) ∧ ((b != b) = false → ((c != c) = true → false =
 true) ∧ ((c != c) = false → ((e != e) = true → false = true) ∧ ((e != e) = false → ((d != d) = true → false = true) ∧ ((d != d) = false → ((true == (a == a && (b == b && (c == c &&
 (d == d && (e == e && (f == f && (g == g && true)))))))) = true → true = true) ∧ ((true == (a == a && (b == b && (c == c && (d == d && (e == e && (f == f && (g == g && true))))))))
 = false → false = true))))))
def ds13_10 (a b c d e f g : Int) : List SC := [SC.int false .u64 a, SC.int false .i64 b, SC.int false .u64 c, SC.int false .i64 d, SC.int false .i64 e, SC.int false .u64 f, SC.int
 false .i64 g, sp 83 0, sp 87 0, sp 91 0, SC.map 93, SC.nls, SC.nls, SC.nls, SC.int true .u64 (0 : Int)]
def ds13_11 (a c f b d e g k : Int) (hk : 0 ≤ k ∧ k ≤ 255) (p : Int) (hp : 0 ≤ p ∧ p ≤ 1023) (q : Int) (hq : 0 ≤ q ∧ q ≤ 1023) : Prop := ∀ (K : KO XN), (fun X1 : Prop => (ds13_8 a c
 f b d e g X1) ∧ True → ds13_6 a c f b d e g X1) (K (ds13_1 f k) (Mem.mk [(1, SO.cells (ds13_3 a b c d e f g) 75), (2, SO.cells (ds13_2 k hk p hp q hq) 77), (45, SO.cells (ds13_3 a b
 c d e f g) 75), (51, SO.cells (ds13_3 a b c d e f g) 75), (83, SO.cells [SC.int false .u64 a, SC.raw (Value.pointer none)] 199), (87, SO.cells [SC.int false .u64 c, SC.raw
 (Value.pointer none)] 199), (91, SO.cells [SC.int false .u64 f, SC.raw (Value.pointer none)] 199), (93, SO.mp true []), (95, SO.cells (ds13_10 a b c d e f g) 204), (109, SO.cells
 (ds13_2 k hk p hp q hq) 77), (110, SO.cells [SC.int true .i64 (0 : Int), SC.int true .i64 (0 : Int)] 82), (128, SO.cells [SC.int true .i64 (0 : Int), SC.int true .i64 (0 : Int)]
 82), (141, SO.cells (ds13_2 k hk p hp q hq) 77), (142, SO.cells [SC.int true .i64 (0 : Int), SC.int true .i64 (0 : Int)] 82), (162, SO.cells [SC.int false .u64 f, SC.raw
 (Value.pointer none)] 199), (170, SO.cells [SC.int false .u64 f, SC.raw (Value.pointer none)] 199), (193, SO.cells [SC.int false .u64 f, SC.raw (Value.pointer none)] 199), (194,
 SO.cells [SC.int true .u64 (0 : Int), SC.raw (Value.pointer none)] 199), (209, SO.cells (ds13_4) 87)] 199) Scr.nil)
def ds13_12 (a c f b d e g : Int) (X0 : Prop) : Prop := (a = a ∧ Value.pointer none = Value.pointer none ∧ c = c ∧ Value.pointer none = Value.pointer none ∧ f = f ∧ Value.pointer
 none = Value.pointer none ∧ ([] : List (Int × Value)) = [] ∧ a = a ∧ b = b ∧ c = c ∧ d = d ∧ e = e ∧ f = f ∧ g = g ∧ f = f ∧ Value.pointer none = Value.pointer none ∧ ((X0 ∧ True) ∧
 True) ∧ True) ∧ True
def ds13_13 (a b c d e f g : Int) : List SC := [SC.int false .u64 a, SC.int false .i64 b, SC.int false .u64 c, SC.int false .i64 d, SC.int false .i64 e, SC.int false .u64 f, SC.int
 false .i64 g, sp 83 0, sp 87 0, sp 91 0, SC.map 93, SC.nls, SC.nls, SC.nls, SC.int false .u64 f]
/-- What the executor leaves to be shown of roundelay/roundelaylaw08.DraftShares, written out. -/
theorem ds13_vc (a b c d e f g : Int) (k p q : Int) (hk : 0 ≤ k ∧ k ≤ 255) (hp : 0 ≤ p ∧ p ≤ 1023) (hq : 0 ≤ q ∧ q ≤ 1023) : (callN Try.prog (tblDS : List (Smry Try.prog XN)) (fun _ _ => false) 100 20 4 [.agg [.int false .u64 a, .int false .i64 b, .int false .u64 c, .int false .i64 d, .int false .i64 e, .int false .u64 f, .int false .i64 g], .agg [.int true .i64 13, .int false .i64 k (.w 0 255 hk), .int false .i64 p (.w 0 1023 hp), .int false .i64 q (.w 0 1023 hq)]] ⟨[], 1⟩ (.cut 4 (liveL [2, 3, 4, 5, 6, 8, 9, 11, 13, 131]) [] Unit (fun _ _ => ([], [])) .nil fun _ => .nil) (fun v _ _ => retTrue v)) = (
 (((c == (0 : Int)) = true → (decide (e > (0 : Int)) = true → ∃ (y : Unit), a = a ∧ b = b ∧ c = c ∧ d = d ∧ e = e ∧ f = f ∧ g = g ∧ k = k ∧ p = p ∧ q = q ∧ True) ∧ (decide (e > (0 :
 Int)) = false → ∃ (y : Unit), a = a ∧ b = b ∧ c = c ∧ d = d ∧ e = e ∧ f = f ∧ g = g ∧ k = k ∧ p = p ∧ q = q ∧ True)) ∧ ((c == (0 : Int)) = false → ∃ (y : Unit), a = a ∧ b = b ∧ c =
 c ∧ d = d ∧ e = e ∧ f = f ∧ g = g ∧ k = k ∧ p = p ∧ q = q ∧ True)) ∧ ∀ (y : Unit) (ρ : Nat → Value), (decide (min (min (min b e) g) d ≥ (0 : Int)) = true → (decide (max (max b e) g
 ≤ (256 : Int)) = true → ((!decide (d < (256 : Int))) = true → true = true) ∧ ((!decide (d < (256 : Int))) = false → True ∧ (∀ (z : Un), True → ((!decide (RightO (13 : Int) k p q)) =
 true → ds13_9 a b c e d f g) ∧ ((!decide (RightO (13 : Int) k p q)) = false → ((f == (0 : Int)) = true → ds13_9 a b c e d f g) ∧ ((f == (0 : Int)) = false → (True ∧ (∀ (z : Un),
 True → a = a ∧ Value.pointer none = Value.pointer none ∧ c = c ∧ Value.pointer none = Value.pointer none ∧ f = f ∧ Value.pointer none = Value.pointer none ∧ ([] : List (Int ×
 Value)) = [] ∧ a = a ∧ b = b ∧ c = c ∧ d = d ∧ e = e ∧ f = f ∧ g = g ∧ f = f ∧ Value.pointer none = Value.pointer none ∧ (((a = a ∧ Value.pointer none = Value.pointer none ∧ c = c ∧
 Value.pointer none = Value.pointer none ∧ f = f ∧ Value.pointer none = Value.pointer none ∧ ([] : List (Int × Value)) = [] ∧ a = a ∧ b = b ∧ c = c ∧ d = d ∧ e = e ∧ f = f ∧ g = g ∧
 f = f ∧ Value.pointer none = Value.pointer none ∧ (((((f != (0 : Int)) = true → (a = a ∧ Value.pointer none = Value.pointer none ∧ c = c ∧ Value.pointer none = Value.pointer none ∧
 f = f ∧ Value.pointer none = Value.pointer none ∧ ([] : List (Int × Value)) = [] ∧ a = a ∧ b = b ∧ c = c ∧ d = d ∧ e = e ∧ f = f ∧ g = g ∧ f = f ∧ ((f != (0 : Int)) = true → ((true
 == (a == a && (b == b && (c == c && (d == d && (e == e && (f == f && (g == g && true)))))))) = true → true = true) ∧ ((true == (a == a && (b == b && (c == c && (d == d && (e == e &&
 (f == f && (g == g && true)))))))) = false → false = true)) ∧ ((f != (0 : Int)) = false → ds13_9 a b c e d f g)) ∧ True) ∧ ((f != (0 : Int)) = false → ds13_9 a b c e d f g)) ∧ True)
 ∧ True) ∧ True) ∧ True) ∧ (∀ (K : KO XN), (fun X0 : Prop => (ds13_8 a c f b d e g X0) ∧ True → ds13_6 a c f b d e g X0) (K (ds13_1 f k) (Mem.mk [(1, SO.cells (ds13_3 a b c d e f g)
 75), (2, SO.cells (ds13_2 k hk p hp q hq) 77), (45, SO.cells (ds13_3 a b c d e f g) 75), (51, SO.cells (ds13_3 a b c d e f g) 75), (83, SO.cells [SC.int false .u64 a, SC.raw
 (Value.pointer none)] 199), (87, SO.cells [SC.int false .u64 c, SC.raw (Value.pointer none)] 199), (91, SO.cells [SC.int false .u64 f, SC.raw (Value.pointer none)] 199), (93, SO.mp
 true []), (95, SO.cells (ds13_10 a b c d e f g) 204), (109, SO.cells (ds13_2 k hk p hp q hq) 77), (110, SO.cells [SC.int true .i64 (0 : Int), SC.int true .i64 (0 : Int)] 82), (128,
 SO.cells [SC.int true .i64 (0 : Int), SC.int true .i64 (0 : Int)] 82), (141, SO.cells (ds13_2 k hk p hp q hq) 77), (142, SO.cells [SC.int true .i64 (0 : Int), SC.int true .i64 (0 :
 Int)] 82), (162, SO.cells [SC.int false .u64 f, SC.raw (Value.pointer none)] 199), (170, SO.cells [SC.int false .u64 f, SC.raw (Value.pointer none)] 199), (193, SO.cells [SC.int
 false .u64 f, SC.raw (Value.pointer none)] 199), (194, SO.cells [SC.int true .u64 (0 : Int), SC.raw (Value.pointer none)] 199), (209, SO.cells (ds13_4) 87)] 199) Scr.nil)) ∧ True) ∧
 (∀ (K : KO XN), (fun X0 : Prop => (ds13_12 a c f b d e g X0) ∧ (ds13_11 a c f b d e g k hk p hp q hq) ∧ True → ds13_7 a c f b d e g X0 k hk p hp q hq) (K (ds13_5 f k hk) (Mem.mk
 [(1, SO.cells (ds13_3 a b c d e f g) 75), (2, SO.cells (ds13_2 k hk p hp q hq) 77), (45, SO.cells (ds13_3 a b c d e f g) 75), (51, SO.cells (ds13_3 a b c d e f g) 75), (83, SO.cells
 [SC.int false .u64 a, SC.raw (Value.pointer none)] 199), (87, SO.cells [SC.int false .u64 c, SC.raw (Value.pointer none)] 199), (91, SO.cells [SC.int false .u64 f, SC.raw
 (Value.pointer none)] 199), (93, SO.mp true []), (95, SO.cells (ds13_13 a b c d e f g) 204), (109, SO.cells (ds13_2 k hk p hp q hq) 77), (110, SO.cells [SC.int true .i64 (0 : Int),
 SC.int true .i64 (0 : Int)] 82), (128, SO.cells [SC.int true .i64 (0 : Int), SC.int true .i64 (0 : Int)] 82), (141, SO.cells (ds13_2 k hk p hp q hq) 77), (142, SO.cells [SC.int true
 .i64 (0 : Int), SC.int true .i64 (0 : Int)] 82), (162, SO.cells [SC.int false .u64 f, SC.raw (Value.pointer none)] 199), (170, SO.cells [SC.int false .u64 f, SC.raw (Value.pointer
 none)] 199), (190, SO.cells [SC.int true .u64 (0 : Int), SC.raw (Value.pointer none)] 199), (193, SO.cells [SC.int false .u64 f, SC.raw (Value.pointer none)] 199), (194, SO.cells
 [SC.int true .u64 (0 : Int), SC.raw (Value.pointer none)] 199), (209, SO.cells (ds13_4) 87)] 223) Scr.nil)) ∧ True) ∧ True) ∧ (∀ (K : KO XN), (fun X0 : Prop => True ∧ (∀ (z : Un),
 True → a = a ∧ Value.pointer none = Value.pointer none ∧ c = c ∧ Value.pointer none = Value.pointer none ∧ f = f ∧ Value.pointer none = Value.pointer none ∧ ([] : List (Int ×
 Value)) = [] ∧ a = a ∧ b = b ∧ c = c ∧ d = d ∧ e = e ∧ f = f ∧ g = g ∧ f = f ∧ Value.pointer none = Value.pointer none ∧ ((ds13_12 a c f b d e g X0) ∧ (ds13_11 a c f b d e g k hk p
 hp q hq) ∧ True) ∧ (∀ (K : KO XN), (fun X1 : Prop => (ds13_12 a c f b d e g X1) ∧ (∀ (K : KO XN), (fun X2 : Prop => (ds13_8 a c f b d e g X2) ∧ True → ds13_6 a c f b d e g X2) (K
 (ds13_1 f k) (Mem.mk [(1, SO.cells (ds13_3 a b c d e f g) 75), (2, SO.cells (ds13_2 k hk p hp q hq) 77), (45, SO.cells (ds13_3 a b c d e f g) 75), (51, SO.cells (ds13_3 a b c d e f
 g) 75), (83, SO.cells [SC.int false .u64 a, SC.raw (Value.pointer none)] 199), (87, SO.cells [SC.int false .u64 c, SC.raw (Value.pointer none)] 199), (91, SO.cells [SC.int false
 .u64 f, SC.raw (Value.pointer none)] 199), (93, SO.mp true []), (95, SO.cells (ds13_10 a b c d e f g) 204), (109, SO.cells (ds13_2 k hk p hp q hq) 77), (110, SO.cells [SC.int true
 .i64 (0 : Int), SC.int true .i64 (0 : Int)] 82), (128, SO.cells [SC.int true .i64 (0 : Int), SC.int true .i64 (0 : Int)] 82), (141, SO.cells (ds13_2 k hk p hp q hq) 77), (142,
 SO.cells [SC.int true .i64 (0 : Int), SC.int true .i64 (0 : Int)] 82), (162, SO.cells [SC.int false .u64 f, SC.raw (Value.pointer none)] 199), (170, SO.cells [SC.int false .u64 f,
 SC.raw (Value.pointer none)] 199), (193, SO.cells [SC.int false .u64 f, SC.raw (Value.pointer none)] 199), (194, SO.cells [SC.int true .u64 (0 : Int), SC.raw (Value.pointer none)]
 199), (209, SO.cells (ds13_4) 87)] 199) Scr.nil)) ∧ True → a = a ∧ Value.pointer none = Value.pointer none ∧ c = c ∧ Value.pointer none = Value.pointer none ∧ f = f ∧ Value.pointer
 none = Value.pointer none ∧ ([] : List (Int × Value)) = [] ∧ a = a ∧ b = b ∧ c = c ∧ d = d ∧ e = e ∧ f = f ∧ g = g ∧ f = f ∧ Value.pointer none = Value.pointer none ∧ (((ds13_6 a c
 f b d e g X1) ∧ True) ∧ (∀ (K : KO XN), (fun X2 : Prop => (ds13_8 a c f b d e g X2) ∧ True → ds13_6 a c f b d e g X2) (K (ds13_1 f k) (Mem.mk [(1, SO.cells (ds13_3 a b c d e f g)
 75), (2, SO.cells (ds13_2 k hk p hp q hq) 77), (45, SO.cells (ds13_3 a b c d e f g) 75), (51, SO.cells (ds13_3 a b c d e f g) 75), (83, SO.cells [SC.int false .u64 a, SC.raw
 (Value.pointer none)] 199), (87, SO.cells [SC.int false .u64 c, SC.raw (Value.pointer none)] 199), (91, SO.cells [SC.int false .u64 f, SC.raw (Value.pointer none)] 199), (93, SO.mp
 true []), (95, SO.cells (ds13_10 a b c d e f g) 204), (109, SO.cells (ds13_2 k hk p hp q hq) 77), (110, SO.cells [SC.int true .i64 (0 : Int), SC.int true .i64 (0 : Int)] 82), (128,
 SO.cells [SC.int true .i64 (0 : Int), SC.int true .i64 (0 : Int)] 82), (141, SO.cells (ds13_2 k hk p hp q hq) 77), (142, SO.cells [SC.int true .i64 (0 : Int), SC.int true .i64 (0 :
 Int)] 82), (162, SO.cells [SC.int false .u64 f, SC.raw (Value.pointer none)] 199), (170, SO.cells [SC.int false .u64 f, SC.raw (Value.pointer none)] 199), (190, SO.cells [SC.int
 true .u64 (0 : Int), SC.raw (Value.pointer none)] 199), (193, SO.cells [SC.int false .u64 f, SC.raw (Value.pointer none)] 199), (194, SO.cells [SC.int true .u64 (0 : Int), SC.raw
 (Value.pointer none)] 199), (209, SO.cells (ds13_4) 87)] 199) Scr.nil)) ∧ True) ∧ True) (K (ds13_5 f k hk) (Mem.mk [(1, SO.cells (ds13_3 a b c d e f g) 75), (2, SO.cells (ds13_2 k
 hk p hp q hq) 77), (45, SO.cells (ds13_3 a b c d e f g) 75), (51, SO.cells (ds13_3 a b c d e f g) 75), (83, SO.cells [SC.int false .u64 a, SC.raw (Value.pointer none)] 199), (87,
 SO.cells [SC.int false .u64 c, SC.raw (Value.pointer none)] 199), (91, SO.cells [SC.int false .u64 f, SC.raw (Value.pointer none)] 199), (93, SO.mp true []), (95, SO.cells (ds13_13
 a b c d e f g) 204), (109, SO.cells (ds13_2 k hk p hp q hq) 77), (110, SO.cells [SC.int true .i64 (0 : Int), SC.int true .i64 (0 : Int)] 82), (128, SO.cells [SC.int true .i64 (0 :
 Int), SC.int true .i64 (0 : Int)] 82), (141, SO.cells (ds13_2 k hk p hp q hq) 77), (142, SO.cells [SC.int true .i64 (0 : Int), SC.int true .i64 (0 : Int)] 82), (162, SO.cells
 [SC.int false .u64 f, SC.raw (Value.pointer none)] 199), (170, SO.cells [SC.int false .u64 f, SC.raw (Value.pointer none)] 199), (190, SO.cells [SC.int true .u64 (0 : Int), SC.raw
 (Value.pointer none)] 199), (193, SO.cells [SC.int false .u64 f, SC.raw (Value.pointer none)] 199), (194, SO.cells [SC.int true .u64 (0 : Int), SC.raw (Value.pointer none)] 199),
 (209, SO.cells (ds13_4) 87)] 223) Scr.nil)) ∧ True) ∧ True → a = a ∧ Value.pointer none = Value.pointer none ∧ c = c ∧ Value.pointer none = Value.pointer none ∧ f = f ∧
 Value.pointer none = Value.pointer none ∧ ([] : List (Int × Value)) = [] ∧ a = a ∧ b = b ∧ c = c ∧ d = d ∧ e = e ∧ f = f ∧ g = g ∧ f = f ∧ Value.pointer none = Value.pointer none ∧
 (True ∧ (∀ (z : Un), True → ds13_7 a c f b d e g X0 k hk p hp q hq) ∧ True) ∧ True) (K (ds13_5 f k hk) (Mem.mk [(1, SO.cells (ds13_3 a b c d e f g) 75), (2, SO.cells (ds13_2 k hk p
 hp q hq) 77), (45, SO.cells (ds13_3 a b c d e f g) 75), (51, SO.cells (ds13_3 a b c d e f g) 75), (83, SO.cells [SC.int false .u64 a, SC.raw (Value.pointer none)] 199), (87,
 SO.cells [SC.int false .u64 c, SC.raw (Value.pointer none)] 199), (91, SO.cells [SC.int false .u64 f, SC.raw (Value.pointer none)] 199), (93, SO.mp true []), (95, SO.cells (ds13_13
 a b c d e f g) 204), (109, SO.cells (ds13_2 k hk p hp q hq) 77), (110, SO.cells [SC.int true .i64 (0 : Int), SC.int true .i64 (0 : Int)] 82), (128, SO.cells [SC.int true .i64 (0 :
 Int), SC.int true .i64 (0 : Int)] 82), (141, SO.cells (ds13_2 k hk p hp q hq) 77), (142, SO.cells [SC.int true .i64 (0 : Int), SC.int true .i64 (0 : Int)] 82), (162, SO.cells
 [SC.int false .u64 f, SC.raw (Value.pointer none)] 199), (170, SO.cells [SC.int false .u64 f, SC.raw (Value.pointer none)] 199), (190, SO.cells [SC.int true .u64 (0 : Int), SC.raw
 (Value.pointer none)] 199), (193, SO.cells [SC.int false .u64 f, SC.raw (Value.pointer none)] 199), (194, SO.cells [SC.int true .u64 (0 : Int), SC.raw (Value.pointer none)] 199),
 (209, SO.cells (ds13_4) 87)] 223) Scr.nil)) ∧ True))) ∧ True)) ∧ (decide (max (max b e) g ≤ (256 : Int)) = false → true = true)) ∧ (decide (min (min (min b e) g) d ≥ (0 : Int)) =
 false → true = true)) := by
  kernel_rfl
theorem ds13_run (a b c d e f g : Int) (k p q : Int) (hk : 0 ≤ k ∧ k ≤ 255) (hp : 0 ≤ p ∧ p ≤ 1023) (hq : 0 ≤ q ∧ q ≤ 1023) (hc : DsOk a b c d e f g) : Run (callN Try.prog (tblDS : List (Smry Try.prog XN)) (fun _ _ => false) 100 20 4 [.agg [.int false .u64 a, .int false .i64 b, .int false .u64 c, .int false .i64 d, .int false .i64 e, .int false .u64 f, .int false .i64 g], .agg [.int true .i64 13, .int false .i64 k (.w 0 255 hk), .int false .i64 p (.w 0 1023 hp), .int false .i64 q (.w 0 1023 hq)]] ⟨[], 1⟩ (.cut 4 (liveL [2, 3, 4, 5, 6, 8, 9, 11, 13, 131]) [] Unit (fun _ _ => ([], [])) .nil fun _ => .nil) (fun v _ _ => retTrue v)) := by
  constructor
  rw [ds13_vc]
  delta ds13_14 ds13_1 ds13_2 ds13_3 ds13_4 ds13_5 ds13_6 ds13_15 ds13_7 ds13_8 ds13_9 ds13_10 ds13_11 ds13_12 ds13_13
  obtain ⟨⟨⟨ha0, ha1⟩, ⟨hb0, hb1⟩, hc0, hc1⟩, ⟨hd0, hd1⟩, ⟨he0, he1⟩, ⟨hf0, hf1⟩, hg0, hg1⟩ := hc
  repeat' first
    | (refine fun (K : KO XN) => ?_; simp only [eq_self, true_and, and_true, imp_self, implies_true]; first | done | exact id; done)
    | with_reducible apply And.intro
    | with_reducible exact trivial
    | with_reducible exact Eq.refl _
    | (with_reducible refine Exists.intro () ?_)
    | (intro h; simp only [bne_self_eq_false, Bool.false_eq_true] at h; done)
    | intro _
  all_goals first
    | omega
    | with_reducible assumption
    | (simp only [Bool.not_eq_false', Bool.not_eq_true', decide_eq_true_eq, decide_eq_false_iff_not] at *; omega)
    | (simp_all; done)
end Go.Proofs.Ytnkikhhiaecebaa

/- DraftShares, an operation that isn't right. -/
namespace Go.Proofs.Ytnkikhhiaecebaa
open Go Go.RowKit
set_option maxRecDepth 1000000
set_option maxHeartbeats 0
def dsN_3 (a b c d e f g : Int) : Prop := ((true == (a == a && (b == b && (c == c && (d == d && (e == e && (f == f && (g == g && true)))))))) = true → true = true) ∧ ((true == (a ==
 a && (b == b && (c == c && (d == d && (e == e && (f == f && (g == g && true)))))))) = false → false = true)
def dsN_1 (o a b c d e f g : Int) : Prop := ((o == (0 : Int)) = true → dsN_3 a b c d e f g) ∧ ((o == (0 : Int)) = false → ((o == (3 : Int)) = true → dsN_3 a b c d e f g) ∧ ((o == (3
 : Int)) = false → ((o == (4 : Int)) = true → dsN_3 a b c d e f g) ∧ ((o == (4 : Int)) = false → ((o == (8 : Int)) = true → dsN_3 a b c d e f g) ∧ ((o == (8 : Int)) = false → ((o ==
 (9 : Int)) = true → dsN_3 a b c d e f g) ∧ ((o == (9 : Int)) = false → ((o == (13 : Int)) = true → dsN_3 a b c d e f g) ∧ ((o == (13 : Int)) = false → true = true))))))
def dsN_4 (o f g a b c d e : Int) : Prop := (decide (o < (10 : Int)) = true → ((f != f) = true → false = true) ∧ ((f != f) = false → ((g != g) = true → false = true) ∧ ((g != g) =
 false → dsN_1 o a b c d e f g))) ∧ (decide (o < (10 : Int)) = false → dsN_1 o a b c d e f g)
def dsN_2 (o c e d f g a b : Int) : Prop := (decide (o > (3 : Int)) = true → ((c != c) = true → false = true) ∧ ((c != c) = false → ((e != e) = true → false = true) ∧ ((e != e) =
 false → ((d != d) = true → false = true) ∧ ((d != d) = false → dsN_4 o f g a b c d e)))) ∧ (decide (o > (3 : Int)) = false → (decide (o < (1 : Int)) = true → ((c != c) = true →
 false = true) ∧ ((c != c) = false → ((e != e) = true → false = true) ∧ ((e != e) = false → ((d != d) = true → false = true) ∧ ((d != d) = false → dsN_4 o f g a b c d e)))) ∧ (decide
 (o < (1 : Int)) = false → dsN_4 o f g a b c d e))
/-- What the executor leaves to be shown of roundelay/roundelaylaw08.DraftShares, written out. -/
theorem dsN_vc (a b c d e f g : Int) (o k p q : Int) : (callN Try.prog (tblDS : List (Smry Try.prog XN)) (fun _ _ => false) 100 20 4 [.agg [.int false .u64 a, .int false .i64 b, .int false .u64 c, .int false .i64 d, .int false .i64 e, .int false .u64 f, .int false .i64 g], .agg [.int false .i64 o, .int false .i64 k, .int false .i64 p, .int false .i64 q]] ⟨[], 1⟩ (.cut 4 (liveL [2, 3, 4, 5, 6, 8, 9, 11, 13, 131]) [] Unit (fun _ _ => ([], [])) .nil fun _ => .both (.both (.both .nil (.t .nil)) .nil) .nil) (fun v _ _ => retTrue v)) = (
 (((c == (0 : Int)) = true → (decide (e > (0 : Int)) = true → ((o == (2 : Int)) = true → true = true) ∧ ((o == (2 : Int)) = false → ∃ (y : Unit), a = a ∧ b = b ∧ c = c ∧ d = d ∧ e =
 e ∧ f = f ∧ g = g ∧ o = o ∧ k = k ∧ p = p ∧ q = q ∧ True)) ∧ (decide (e > (0 : Int)) = false → ∃ (y : Unit), a = a ∧ b = b ∧ c = c ∧ d = d ∧ e = e ∧ f = f ∧ g = g ∧ o = o ∧ k = k ∧
 p = p ∧ q = q ∧ True)) ∧ ((c == (0 : Int)) = false → ∃ (y : Unit), a = a ∧ b = b ∧ c = c ∧ d = d ∧ e = e ∧ f = f ∧ g = g ∧ o = o ∧ k = k ∧ p = p ∧ q = q ∧ True)) ∧ ∀ (y : Unit) (ρ :
 Nat → Value), (decide (min (min (min b e) g) d ≥ (0 : Int)) = true → (decide (max (max b e) g ≤ (256 : Int)) = true → ((!decide (d < (256 : Int))) = true → true = true) ∧ ((!decide
 (d < (256 : Int))) = false → True ∧ (∀ (z : Un), True → (!decide (RightO o k p q)) = true ∧ (decide (o < (4 : Int)) = true → ((a != a) = true → false = true) ∧ ((a != a) = false →
 ((b != b) = true → false = true) ∧ ((b != b) = false → dsN_2 o c e d f g a b))) ∧ (decide (o < (4 : Int)) = false → (decide (o > (9 : Int)) = true → ((a != a) = true → false = true)
 ∧ ((a != a) = false → ((b != b) = true → false = true) ∧ ((b != b) = false → dsN_2 o c e d f g a b))) ∧ (decide (o > (9 : Int)) = false → dsN_2 o c e d f g a b))) ∧ True)) ∧ (decide
 (max (max b e) g ≤ (256 : Int)) = false → true = true)) ∧ (decide (min (min (min b e) g) d ≥ (0 : Int)) = false → true = true)) := by
  kernel_rfl
theorem dsN_run (a b c d e f g : Int) (o k p q : Int) (hc : DsOk a b c d e f g ∧ ¬ RightO o k p q) : Run (callN Try.prog (tblDS : List (Smry Try.prog XN)) (fun _ _ => false) 100 20 4 [.agg [.int false .u64 a, .int false .i64 b, .int false .u64 c, .int false .i64 d, .int false .i64 e, .int false .u64 f, .int false .i64 g], .agg [.int false .i64 o, .int false .i64 k, .int false .i64 p, .int false .i64 q]] ⟨[], 1⟩ (.cut 4 (liveL [2, 3, 4, 5, 6, 8, 9, 11, 13, 131]) [] Unit (fun _ _ => ([], [])) .nil fun _ => .both (.both (.both .nil (.t .nil)) .nil) .nil) (fun v _ _ => retTrue v)) := by
  constructor
  rw [dsN_vc]
  delta dsN_3 dsN_1 dsN_4 dsN_2
  obtain ⟨⟨⟨ha0, ha1⟩, ⟨hb0, hb1⟩, hc0, hc1⟩, ⟨hd0, hd1⟩, ⟨he0, he1⟩, ⟨hf0, hf1⟩, hg0, hg1⟩ := hc.1
  have hnr := hc.2
  repeat' first
    | (refine fun (K : KO XN) => ?_; simp only [eq_self, true_and, and_true, imp_self, implies_true]; first | done | exact id; done)
    | with_reducible apply And.intro
    | with_reducible exact trivial
    | with_reducible exact Eq.refl _
    | (with_reducible refine Exists.intro () ?_)
    | (intro h; simp only [bne_self_eq_false, Bool.false_eq_true] at h; done)
    | intro _
  all_goals first
    | omega
    | with_reducible assumption
    | (simp_all; done)
end Go.Proofs.Ytnkikhhiaecebaa
