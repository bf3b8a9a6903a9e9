/- DraftShares, code 0. -/
import Derived.Test.YtnkikhhiaecebaaDsT
import Derived.Test.YtnkikhhiaecebaaBaseC
set_option linter.all false
namespace Go.Proofs.Ytnkikhhiaecebaa
open Go Go.RowKit
set_option maxRecDepth 1000000
set_option maxHeartbeats 0
/-- What the executor leaves to be shown of roundelay/roundelaylaw08.DraftShares, written out. -/
theorem ds0_vc (a b c d e f g : Int) (k p q : Int) (hk : 0 ≤ k ∧ k ≤ 255) (hp : 0 ≤ p ∧ p ≤ 1023) (hq : 0 ≤ q ∧ q ≤ 1023) : (callN Try.prog (tblDS : List (Smry Try.prog XN)) (fun _ _ => false) 100 20 4 [.agg [.int false .u64 a, .int false .i64 b, .int false .u64 c, .int false .i64 d, .int false .i64 e, .int false .u64 f, .int false .i64 g], .agg [.int true .i64 0, .int false .i64 k (.w 0 255 hk), .int false .i64 p (.w 0 1023 hp), .int false .i64 q (.w 0 1023 hq)]] ⟨[], 1⟩ (.cut 4 (liveL [2, 3, 4, 5, 6, 8, 9, 11, 13, 131]) [] Unit (fun _ _ => ([], [])) .nil fun _ => .nil) (fun v _ _ => retTrue v)) = (
    (((c == (0 : Int)) = true → (decide (e > (0 : Int)) = true → ∃ (y : Unit), a = a ∧ b = b ∧ c = c ∧ d = d ∧ e = e ∧ f = f ∧ g = g ∧ k = k ∧ p = p ∧ q = q ∧ True) ∧ (decide (e > (0 :
    Int)) = false → ∃ (y : Unit), a = a ∧ b = b ∧ c = c ∧ d = d ∧ e = e ∧ f = f ∧ g = g ∧ k = k ∧ p = p ∧ q = q ∧ True)) ∧ ((c == (0 : Int)) = false → ∃ (y : Unit), a = a ∧ b = b ∧ c =
    c ∧ d = d ∧ e = e ∧ f = f ∧ g = g ∧ k = k ∧ p = p ∧ q = q ∧ True)) ∧ ∀ (y : Unit) (ρ : Nat → Value), (decide (min (min (min b e) g) d ≥ (0 : Int)) = true → (decide (max (max b e) g
    ≤ (256 : Int)) = true → ((!decide (d < (256 : Int))) = true → true = true) ∧ ((!decide (d < (256 : Int))) = false → True ∧ (∀ (z : Un), True → ((!decide (RightO (0 : Int) k p q)) =
    true → ((a != a) = true → false = true) ∧ ((a != a) = false → ((b != b) = true → false = true) ∧ ((b != b) = false → ((c != c) = true → false = true) ∧ ((c != c) = false → ((e != e)
    = true → false = true) ∧ ((e != e) = false → ((d != d) = true → false = true) ∧ ((d != d) = false → ((f != f) = true → false = true) ∧ ((f != f) = false → ((g != g) = true → false =
    true) ∧ ((g != g) = false → ((true == (a == a && (b == b && (c == c && (d == d && (e == e && (f == f && (g == g && true)))))))) = true → true = true) ∧ ((true == (a == a && (b == b
    && (c == c && (d == d && (e == e && (f == f && (g == g && true)))))))) = false → false = true))))))))) ∧ ((!decide (RightO (0 : Int) k p q)) = false → ((a != a) = true → false =
    true) ∧ ((a != a) = false → ((b != b) = true → false = true) ∧ ((b != b) = false → ((c != c) = true → false = true) ∧ ((c != c) = false → ((e != e) = true → false = true) ∧ ((e !=
    e) = false → ((d != d) = true → false = true) ∧ ((d != d) = false → ((f != f) = true → false = true) ∧ ((f != f) = false → ((g != g) = true → false = true) ∧ ((g != g) = false →
    ((true == (a == a && (b == b && (c == c && (d == d && (e == e && (f == f && (g == g && true)))))))) = true → true = true) ∧ ((true == (a == a && (b == b && (c == c && (d == d && (e
    == e && (f == f && (g == g && true)))))))) = false → false = true)))))))))) ∧ True)) ∧ (decide (max (max b e) g ≤ (256 : Int)) = false → true = true)) ∧ (decide (min (min (min b e)
    g) d ≥ (0 : Int)) = false → true = true)) := by
  kernel_rfl
theorem ds0_run (a b c d e f g : Int) (k p q : Int) (hk : 0 ≤ k ∧ k ≤ 255) (hp : 0 ≤ p ∧ p ≤ 1023) (hq : 0 ≤ q ∧ q ≤ 1023) (hc : DsOk a b c d e f g) : Run (callN Try.prog (tblDS : List (Smry Try.prog XN)) (fun _ _ => false) 100 20 4 [.agg [.int false .u64 a, .int false .i64 b, .int false .u64 c, .int false .i64 d, .int false .i64 e, .int false .u64 f, .int false .i64 g], .agg [.int true .i64 0, .int false .i64 k (.w 0 255 hk), .int false .i64 p (.w 0 1023 hp), .int false .i64 q (.w 0 1023 hq)]] ⟨[], 1⟩ (.cut 4 (liveL [2, 3, 4, 5, 6, 8, 9, 11, 13, 131]) [] Unit (fun _ _ => ([], [])) .nil fun _ => .nil) (fun v _ _ => retTrue v)) := by
  constructor
  rw [ds0_vc]
  obtain ⟨⟨⟨ha0, ha1⟩, ⟨hb0, hb1⟩, hc0, hc1⟩, ⟨hd0, hd1⟩, ⟨he0, he1⟩, ⟨hf0, hf1⟩, hg0, hg1⟩ := hc
  repeat' first
    | (refine fun (K : KO XN) => ?_; simp only [eq_self, true_and, and_true, imp_self, implies_true]; first | done | exact id; done)
    | with_reducible apply And.intro
    | with_reducible exact trivial
    | with_reducible exact Eq.refl _
    | (with_reducible refine Exists.intro () ?_)
    | (intro h; simp only [bne_self_eq_false, Bool.false_eq_true] at h; done)
    | intro _
  all_goals first
    | omega
    | with_reducible assumption
    | (simp only [decide_eq_true_eq, decide_eq_false_iff_not] at *; omega)
    | (simp_all; done)
end Go.Proofs.Ytnkikhhiaecebaa

/- DraftShares, code 2. -/
namespace Go.Proofs.Ytnkikhhiaecebaa
open Go Go.RowKit
set_option maxRecDepth 1000000
set_option maxHeartbeats 0
def ds2_14  : List SC := [SC.int true .u64 (0 : Int), SC.int true .u64 (0 : Int), SC.int true .u64 (0 : Int), SC.int true .u64 (0 : Int)]
def ds2_1 (c d : Int) : SF := SF.mk 50 (np 95 0 (nv (SV.agg [SC.int false .u64 c, SC.raw (Value.pointer none)]) (nu (nv (SV.c (tb false)) (nu (np 95 10 tn tn) nu0) (nu nu0 tn)) (nv
 (SV.c (SC.raw (Value.pointer none))) (nu (nv (SV.tup [(true, (ds2_14)), (false, [tb false])]) tn tn) tn) (nu nu0 tn))) (nu (nv (SV.c (tb false)) (nu (np 230 0 tn tn) nu0) (nu nu0
 tn)) (nu (nu (nv (SV.c (tb false)) tn tn) tn) (np 95 0 nu0 tn)))) (nv (SV.c (SC.int false .i64 (dkF d (0 : Int)) (Bd.w (0 : Int) (3 : Int) (dkF_bd d (Int.ofNat 0))))) (np 230 0 (np
 246 0 (nu (nv (SV.c (SC.map 93)) tn tn) nu0) (nu nu0 tn)) (nv (SV.c (tb false)) (nu (nv (SV.agg (ds2_14)) tn tn) tn) (nv (SV.tup [(true, (ds2_14)), (false, [tb false])]) nu0 tn)))
 (np 231 0 (np 230 1 (nu (nv (SV.c (SC.int false .u64 c)) tn tn) tn) (nu nu0 tn)) (nu (nu nu0 tn) (np 95 0 nu0 tn))))) []
def ds2_2 (k : Int) (hk : 0 ≤ k ∧ k ≤ 255) (p : Int) (hp : 0 ≤ p ∧ p ≤ 1023) (q : Int) (hq : 0 ≤ q ∧ q ≤ 1023) : List SC := [SC.int true .i64 (2 : Int), SC.int false .i64 k (Bd.w (0
 : Int) (255 : Int) hk), SC.int false .i64 p (Bd.w (0 : Int) (1023 : Int) hp), SC.int false .i64 q (Bd.w (0 : Int) (1023 : Int) hq)]
def ds2_3 (a b c d e f g : Int) : List SC := [SC.int false .u64 a, SC.int false .i64 b, SC.int false .u64 c, SC.int false .i64 d, SC.int false .i64 e, SC.int false .u64 f, SC.int
 false .i64 g]
def ds2_4  : List SC := [SC.int true .u64 (0 : Int), SC.int true .u64 (0 : Int), SC.int true .u64 (0 : Int), SC.int true .u64 (0 : Int)]
def ds2_5 (c d : Int) : SF := SF.mk 40 (np 95 0 (nv (SV.c (SC.int true .i64 (1 : Int))) (nu (nv (SV.c (tb false)) (np 95 7 (nv (SV.tup [(true, [SC.int true .u64 (0 : Int), SC.raw
 (Value.pointer none)]), (false, [tb false])]) tn tn) tn) (nv (SV.agg [SC.int false .u64 c, SC.raw (Value.pointer none)]) nu0 tn)) (nv (SV.c (tb false)) (nv (SV.agg [SC.int false
 .u64 c, SC.raw (Value.pointer none)]) nu0 tn) (nv (SV.agg [SC.int false .u64 c, SC.raw (Value.pointer none)]) tn tn))) (nu (nv (SV.c (SC.int true .i64 (0 : Int))) (np 87 0 (nv (SV.c
 (tb false)) tn tn) tn) (nv (SV.tup [(true, [SC.int true .u64 (0 : Int), SC.raw (Value.pointer none)]), (false, [tb false])]) tn tn)) (nv (SV.c (SC.int true .i64 (1 : Int))) (nv
 (SV.c (tb true)) nu0 tn) (nv (SV.c (SC.int true .i64 (0 : Int))) tn tn)))) (nv (SV.c (SC.int false .i64 d)) (nu (np 199 0 (np 95 8 (nv (SV.agg [SC.int true .u64 (0 : Int), SC.raw
 (Value.pointer none)]) tn tn) tn) (nv (SV.c (tb false)) tn tn)) (np 95 0 (nv (SV.c (SC.int true .i64 (0 : Int))) nu0 tn) (nv (SV.c (SC.int false .i64 d)) tn tn))) (nv (SV.c (SC.int
 true .u64 (0 : Int))) (np 227 0 (np 87 0 nu0 tn) (np 95 0 tn tn)) (np 95 0 (nv (SV.c (SC.int true .i64 (0 : Int))) nu0 tn) (nv (SV.c (SC.int false .i64 (dkF d (0 : Int)) (Bd.w (0 :
 Int) (3 : Int) (dkF_bd d (Int.ofNat 0))))) tn tn))))) []
def ds2_6 (a c f b d e g : Int) (X0 : Prop) : Prop := a = a ∧ Value.pointer none = Value.pointer none ∧ c = c ∧ Value.pointer none = Value.pointer none ∧ f = f ∧ Value.pointer none
 = Value.pointer none ∧ ([] : List (Int × Value)) = [] ∧ a = a ∧ b = b ∧ c = c ∧ d = d ∧ e = e ∧ f = f ∧ g = g ∧ c = c ∧ Value.pointer none = Value.pointer none ∧ (X0 ∧ True) ∧ True
def ds2_15 (c f a b d e g : Int) (X1 : Prop) : Prop := Value.pointer none = Value.pointer none ∧ c = c ∧ Value.pointer none = Value.pointer none ∧ f = f ∧ Value.pointer none =
 Value.pointer none ∧ ([] : List (Int × Value)) = [] ∧ a = a ∧ b = b ∧ c = c ∧ d = d ∧ e = e ∧ f = f ∧ g = g ∧ c = c ∧ Value.pointer none = Value.pointer none ∧ X1 ∧ True
def ds2_7 (a c f b d e g : Int) (X0 : Prop) (k : Int) (hk : 0 ≤ k ∧ k ≤ 255) (p : Int) (hp : 0 ≤ p ∧ p ≤ 1023) (q : Int) (hq : 0 ≤ q ∧ q ≤ 1023) : Prop := a = a ∧ Value.pointer none
 = Value.pointer none ∧ c = c ∧ Value.pointer none = Value.pointer none ∧ f = f ∧ Value.pointer none = Value.pointer none ∧ ([] : List (Int × Value)) = [] ∧ a = a ∧ b = b ∧ c = c ∧ d
 = d ∧ e = e ∧ f = f ∧ g = g ∧ c = c ∧ Value.pointer none = Value.pointer none ∧ (((ds2_6 a c f b d e g X0) ∧ True) ∧ (∀ (K : KO XN), (fun X1 : Prop => (a = a ∧ ds2_15 c f a b d e g
 X1) ∧ True → ds2_6 a c f b d e g X1) (K (ds2_1 c d) (Mem.mk [(1, SO.cells (ds2_3 a b c d e f g) 75), (2, SO.cells (ds2_2 k hk p hp q hq) 77), (45, SO.cells (ds2_3 a b c d e f g)
 75), (51, SO.cells (ds2_3 a b c d e f g) 75), (83, SO.cells [SC.int false .u64 a, SC.raw (Value.pointer none)] 199), (87, SO.cells [SC.int false .u64 c, SC.raw (Value.pointer none)]
 199), (91, SO.cells [SC.int false .u64 f, SC.raw (Value.pointer none)] 199), (93, SO.mp true []), (95, SO.cells [SC.int false .u64 a, SC.int false .i64 b, SC.int false .u64 c,
 SC.int false .i64 d, SC.int false .i64 e, SC.int false .u64 f, SC.int false .i64 g, sp 83 0, sp 87 0, sp 91 0, SC.map 93, SC.nls, SC.nls, SC.nls, SC.int true .u64 (0 : Int)] 204),
 (109, SO.cells (ds2_2 k hk p hp q hq) 77), (110, SO.cells [SC.int true .i64 (0 : Int), SC.int true .i64 (0 : Int)] 82), (128, SO.cells [SC.int true .i64 (0 : Int), SC.int true .i64
 (0 : Int)] 82), (137, SO.cells (ds2_2 k hk p hp q hq) 77), (138, SO.cells [SC.int true .i64 (0 : Int), SC.int true .i64 (0 : Int)] 82), (199, SO.cells [SC.int false .u64 c, SC.raw
 (Value.pointer none)] 199), (207, SO.cells [SC.int false .u64 c, SC.raw (Value.pointer none)] 199), (227, SO.cells [SC.int true .u64 (0 : Int), SC.raw (Value.pointer none)] 199),
 (230, SO.cells [SC.int false .u64 c, SC.raw (Value.pointer none)] 199), (231, SO.cells [SC.int true .u64 (0 : Int), SC.raw (Value.pointer none)] 199), (246, SO.cells (ds2_4) 87)]
 236) Scr.nil)) ∧ True) ∧ True
def ds2_8 (a c f b d e g : Int) (X0 : Prop) : Prop := a = a ∧ ds2_15 c f a b d e g X0
def ds2_9 (a b c d e f g : Int) : List SC := [SC.int false .u64 a, SC.int false .i64 b, SC.int false .u64 c, SC.int false .i64 d, SC.int false .i64 e, SC.int false .u64 f, SC.int
 false .i64 g, sp 83 0, sp 87 0, sp 91 0, SC.map 93, SC.nls, SC.nls, SC.nls, SC.int true .u64 (0 : Int)]
def ds2_10 (a b f g : Int) : Prop := ((a != a) = true → false = true) ∧ ((a != a) = false → ((b != b) = true → false = true) ∧ ((b != b) = false → ((f != f) = true → false = true) ∧
 ((f != f) = false → ((g != g) = true → false = true) ∧ ((g != g) = false → true = true))))
def ds2_11 (a c f b d e g k : Int) (hk : 0 ≤ k ∧ k ≤ 255) (p : Int) (hp : 0 ≤ p ∧ p ≤ 1023) (q : Int) (hq : 0 ≤ q ∧ q ≤ 1023) : Prop := ∀ (K : KO XN), (fun X1 : Prop => (ds2_8 a c f
 b d e g X1) ∧ True → ds2_6 a c f b d e g X1) (K (ds2_1 c d) (Mem.mk [(1, SO.cells (ds2_3 a b c d e f g) 75), (2, SO.cells (ds2_2 k hk p hp q hq) 77), (45, SO.cells (ds2_3 a b c d e
 f g) 75), (51, SO.cells (ds2_3 a b c d e f g) 75), (83, SO.cells [SC.int false .u64 a, SC.raw (Value.pointer none)] 199), (87, SO.cells [SC.int false .u64 c, SC.raw (Value.pointer
 none)] 199), (91, SO.cells [SC.int false .u64 f, SC.raw (Value.pointer none)] 199), (93, SO.mp true []), (95, SO.cells (ds2_9 a b c d e f g) 204), (109, SO.cells (ds2_2 k hk p hp q
 hq) 77), (110, SO.cells [SC.int true .i64 (0 : Int), SC.int true .i64 (0 : Int)] 82), (128, SO.cells [SC.int true .i64 (0 : Int), SC.int true .i64 (0 : Int)] 82), (137, SO.cells
 (ds2_2 k hk p hp q hq) 77), (138, SO.cells [SC.int true .i64 (0 : Int), SC.int true .i64 (0 : Int)] 82), (199, SO.cells [SC.int false .u64 c, SC.raw (Value.pointer none)] 199),
 (207, SO.cells [SC.int false .u64 c, SC.raw (Value.pointer none)] 199), (230, SO.cells [SC.int false .u64 c, SC.raw (Value.pointer none)] 199), (231, SO.cells [SC.int true .u64 (0 :
 Int), SC.raw (Value.pointer none)] 199), (246, SO.cells (ds2_4) 87)] 236) Scr.nil)
def ds2_12 (a c f b d e g : Int) (X0 : Prop) : Prop := (a = a ∧ Value.pointer none = Value.pointer none ∧ c = c ∧ Value.pointer none = Value.pointer none ∧ f = f ∧ Value.pointer
 none = Value.pointer none ∧ ([] : List (Int × Value)) = [] ∧ a = a ∧ b = b ∧ c = c ∧ d = d ∧ e = e ∧ f = f ∧ g = g ∧ c = c ∧ Value.pointer none = Value.pointer none ∧ ((X0 ∧ True) ∧
 True) ∧ True) ∧ True
def ds2_13 (a b c d e f g : Int) : List SC := [SC.int false .u64 a, SC.int false .i64 b, SC.int false .u64 c, SC.int false .i64 d, SC.int false .i64 e, SC.int false .u64 f, SC.int
 false .i64 g, sp 83 0, sp 87 0, sp 91 0, SC.map 93, SC.nls, SC.nls, SC.nls, SC.int false .u64 c]
/-- What the executor leaves to be shown of roundelay/roundelaylaw08.DraftShares, written out. -/
theorem ds2_vc (a b c d e f g : Int) (k p q : Int) (hk : 0 ≤ k ∧ k ≤ 255) (hp : 0 ≤ p ∧ p ≤ 1023) (hq : 0 ≤ q ∧ q ≤ 1023) : (callN Try.prog (tblDS : List (Smry Try.prog XN)) (fun _ _ => false) 100 20 4 [.agg [.int false .u64 a, .int false .i64 b, .int false .u64 c, .int false .i64 d, .int false .i64 e, .int false .u64 f, .int false .i64 g], .agg [.int true .i64 2, .int false .i64 k (.w 0 255 hk), .int false .i64 p (.w 0 1023 hp), .int false .i64 q (.w 0 1023 hq)]] ⟨[], 1⟩ (.cut 4 (liveL [2, 3, 4, 5, 6, 8, 9, 11, 13, 131]) [] Unit (fun _ _ => ([], [])) .nil fun _ => .nil) (fun v _ _ => retTrue v)) = (
 (((c == (0 : Int)) = true → (decide (e > (0 : Int)) = true → true = true) ∧ (decide (e > (0 : Int)) = false → ∃ (y : Unit), a = a ∧ b = b ∧ c = c ∧ d = d ∧ e = e ∧ f = f ∧ g = g ∧ k
 = k ∧ p = p ∧ q = q ∧ True)) ∧ ((c == (0 : Int)) = false → ∃ (y : Unit), a = a ∧ b = b ∧ c = c ∧ d = d ∧ e = e ∧ f = f ∧ g = g ∧ k = k ∧ p = p ∧ q = q ∧ True)) ∧ ∀ (y : Unit) (ρ :
 Nat → Value), (decide (min (min (min b e) g) d ≥ (0 : Int)) = true → (decide (max (max b e) g ≤ (256 : Int)) = true → ((!decide (d < (256 : Int))) = true → true = true) ∧ ((!decide
 (d < (256 : Int))) = false → True ∧ (∀ (z : Un), True → ((!decide (RightO (2 : Int) k p q)) = true → ds2_10 a b f g) ∧ ((!decide (RightO (2 : Int) k p q)) = false → ((e == (0 :
 Int)) = true → ds2_10 a b f g) ∧ ((e == (0 : Int)) = false → ((c == (0 : Int)) = true → ((-9223372036854775808 : Int) ≤ e - (1 : Int) ∧ e - (1 : Int) ≤ (9223372036854775807 : Int))
 ∧ ((-9223372036854775808 : Int) ≤ d + (1 : Int) ∧ d + (1 : Int) ≤ (9223372036854775807 : Int)) ∧ ((0 : Int) ≤ d + (1 : Int) ∧ (0 : Int) < (256 : Int)) ∧ ds2_10 a b f g) ∧ ((c == (0
 : Int)) = false → (True ∧ (∀ (z : Un), True → a = a ∧ Value.pointer none = Value.pointer none ∧ c = c ∧ Value.pointer none = Value.pointer none ∧ f = f ∧ Value.pointer none =
 Value.pointer none ∧ ([] : List (Int × Value)) = [] ∧ a = a ∧ b = b ∧ c = c ∧ d = d ∧ e = e ∧ f = f ∧ g = g ∧ c = c ∧ Value.pointer none = Value.pointer none ∧ (((a = a ∧
 Value.pointer none = Value.pointer none ∧ c = c ∧ Value.pointer none = Value.pointer none ∧ f = f ∧ Value.pointer none = Value.pointer none ∧ ([] : List (Int × Value)) = [] ∧ a = a
 ∧ b = b ∧ c = c ∧ d = d ∧ e = e ∧ f = f ∧ g = g ∧ c = c ∧ Value.pointer none = Value.pointer none ∧ (((((c != (0 : Int)) = true → (a = a ∧ Value.pointer none = Value.pointer none ∧
 c = c ∧ Value.pointer none = Value.pointer none ∧ f = f ∧ Value.pointer none = Value.pointer none ∧ ([] : List (Int × Value)) = [] ∧ a = a ∧ b = b ∧ c = c ∧ d = d ∧ e = e ∧ f = f ∧
 g = g ∧ c = c ∧ ((c != (0 : Int)) = true → ((true == (a == a && (b == b && (c == c && (d == d && (e == e && (f == f && (g == g && true)))))))) = true → true = true) ∧ ((true == (a
 == a && (b == b && (c == c && (d == d && (e == e && (f == f && (g == g && true)))))))) = false → false = true)) ∧ ((c != (0 : Int)) = false → ds2_10 a b f g)) ∧ True) ∧ ((c != (0 :
 Int)) = false → ds2_10 a b f g)) ∧ True) ∧ True) ∧ True) ∧ True) ∧ (∀ (K : KO XN), (fun X0 : Prop => (ds2_8 a c f b d e g X0) ∧ True → ds2_6 a c f b d e g X0) (K (ds2_1 c d) (Mem.mk
 [(1, SO.cells (ds2_3 a b c d e f g) 75), (2, SO.cells (ds2_2 k hk p hp q hq) 77), (45, SO.cells (ds2_3 a b c d e f g) 75), (51, SO.cells (ds2_3 a b c d e f g) 75), (83, SO.cells
 [SC.int false .u64 a, SC.raw (Value.pointer none)] 199), (87, SO.cells [SC.int false .u64 c, SC.raw (Value.pointer none)] 199), (91, SO.cells [SC.int false .u64 f, SC.raw
 (Value.pointer none)] 199), (93, SO.mp true []), (95, SO.cells (ds2_9 a b c d e f g) 204), (109, SO.cells (ds2_2 k hk p hp q hq) 77), (110, SO.cells [SC.int true .i64 (0 : Int),
 SC.int true .i64 (0 : Int)] 82), (128, SO.cells [SC.int true .i64 (0 : Int), SC.int true .i64 (0 : Int)] 82), (137, SO.cells (ds2_2 k hk p hp q hq) 77), (138, SO.cells [SC.int true
 .i64 (0 : Int), SC.int true .i64 (0 : Int)] 82), (199, SO.cells [SC.int false .u64 c, SC.raw (Value.pointer none)] 199), (207, SO.cells [SC.int false .u64 c, SC.raw (Value.pointer
 none)] 199), (230, SO.cells [SC.int false .u64 c, SC.raw (Value.pointer none)] 199), (231, SO.cells [SC.int true .u64 (0 : Int), SC.raw (Value.pointer none)] 199), (246, SO.cells
 (ds2_4) 87)] 236) Scr.nil)) ∧ True) ∧ (∀ (K : KO XN), (fun X0 : Prop => (ds2_12 a c f b d e g X0) ∧ (ds2_11 a c f b d e g k hk p hp q hq) ∧ True → ds2_7 a c f b d e g X0 k hk p hp q
 hq) (K (ds2_5 c d) (Mem.mk [(1, SO.cells (ds2_3 a b c d e f g) 75), (2, SO.cells (ds2_2 k hk p hp q hq) 77), (45, SO.cells (ds2_3 a b c d e f g) 75), (51, SO.cells (ds2_3 a b c d e
 f g) 75), (83, SO.cells [SC.int false .u64 a, SC.raw (Value.pointer none)] 199), (87, SO.cells [SC.int false .u64 c, SC.raw (Value.pointer none)] 199), (91, SO.cells [SC.int false
 .u64 f, SC.raw (Value.pointer none)] 199), (93, SO.mp true []), (95, SO.cells (ds2_13 a b c d e f g) 204), (109, SO.cells (ds2_2 k hk p hp q hq) 77), (110, SO.cells [SC.int true
 .i64 (0 : Int), SC.int true .i64 (0 : Int)] 82), (128, SO.cells [SC.int true .i64 (0 : Int), SC.int true .i64 (0 : Int)] 82), (137, SO.cells (ds2_2 k hk p hp q hq) 77), (138,
 SO.cells [SC.int true .i64 (0 : Int), SC.int true .i64 (0 : Int)] 82), (199, SO.cells [SC.int false .u64 c, SC.raw (Value.pointer none)] 199), (207, SO.cells [SC.int false .u64 c,
 SC.raw (Value.pointer none)] 199), (227, SO.cells [SC.int true .u64 (0 : Int), SC.raw (Value.pointer none)] 199), (230, SO.cells [SC.int false .u64 c, SC.raw (Value.pointer none)]
 199), (231, SO.cells [SC.int true .u64 (0 : Int), SC.raw (Value.pointer none)] 199), (246, SO.cells (ds2_4) 87)] 260) Scr.nil)) ∧ True) ∧ True) ∧ (∀ (K : KO XN), (fun X0 : Prop =>
 True ∧ (∀ (z : Un), True → a = a ∧ Value.pointer none = Value.pointer none ∧ c = c ∧ Value.pointer none = Value.pointer none ∧ f = f ∧ Value.pointer none = Value.pointer none ∧ ([]
 : List (Int × Value)) = [] ∧ a = a ∧ b = b ∧ c = c ∧ d = d ∧ e = e ∧ f = f ∧ g = g ∧ c = c ∧ Value.pointer none = Value.pointer none ∧ ((ds2_12 a c f b d e g X0) ∧ (ds2_11 a c f b d
 e g k hk p hp q hq) ∧ True) ∧ (∀ (K : KO XN), (fun X1 : Prop => (ds2_12 a c f b d e g X1) ∧ (∀ (K : KO XN), (fun X2 : Prop => (ds2_8 a c f b d e g X2) ∧ True → ds2_6 a c f b d e g
 X2) (K (ds2_1 c d) (Mem.mk [(1, SO.cells (ds2_3 a b c d e f g) 75), (2, SO.cells (ds2_2 k hk p hp q hq) 77), (45, SO.cells (ds2_3 a b c d e f g) 75), (51, SO.cells (ds2_3 a b c d e
 f g) 75), (83, SO.cells [SC.int false .u64 a, SC.raw (Value.pointer none)] 199), (87, SO.cells [SC.int false .u64 c, SC.raw (Value.pointer none)] 199), (91, SO.cells [SC.int false
 .u64 f, SC.raw (Value.pointer none)] 199), (93, SO.mp true []), (95, SO.cells (ds2_9 a b c d e f g) 204), (109, SO.cells (ds2_2 k hk p hp q hq) 77), (110, SO.cells [SC.int true .i64
 (0 : Int), SC.int true .i64 (0 : Int)] 82), (128, SO.cells [SC.int true .i64 (0 : Int), SC.int true .i64 (0 : Int)] 82), (137, SO.cells (ds2_2 k hk p hp q hq) 77), (138, SO.cells
 [SC.int true .i64 (0 : Int), SC.int true .i64 (0 : Int)] 82), (199, SO.cells [SC.int false .u64 c, SC.raw (Value.pointer none)] 199), (207, SO.cells [SC.int false .u64 c, SC.raw
 (Value.pointer none)] 199), (230, SO.cells [SC.int false .u64 c, SC.raw (Value.pointer none)] 199), (231, SO.cells [SC.int true .u64 (0 : Int), SC.raw (Value.pointer none)] 199),
 (246, SO.cells (ds2_4) 87)] 236) Scr.nil)) ∧ True → a = a ∧ Value.pointer none = Value.pointer none ∧ c = c ∧ Value.pointer none = Value.pointer none ∧ f = f ∧ Value.pointer none =
 Value.pointer none ∧ ([] : List (Int × Value)) = [] ∧ a = a ∧ b = b ∧ c = c ∧ d = d ∧ e = e ∧ f = f ∧ g = g ∧ c = c ∧ Value.pointer none = Value.pointer none ∧ (((ds2_6 a c f b d e
 g X1) ∧ True) ∧ (∀ (K : KO XN), (fun X2 : Prop => (ds2_8 a c f b d e g X2) ∧ True → ds2_6 a c f b d e g X2) (K (ds2_1 c d) (Mem.mk [(1, SO.cells (ds2_3 a b c d e f g) 75), (2,
 SO.cells (ds2_2 k hk p hp q hq) 77), (45, SO.cells (ds2_3 a b c d e f g) 75), (51, SO.cells (ds2_3 a b c d e f g) 75), (83, SO.cells [SC.int false .u64 a, SC.raw (Value.pointer
 none)] 199), (87, SO.cells [SC.int false .u64 c, SC.raw (Value.pointer none)] 199), (91, SO.cells [SC.int false .u64 f, SC.raw (Value.pointer none)] 199), (93, SO.mp true []), (95,
 SO.cells (ds2_9 a b c d e f g) 204), (109, SO.cells (ds2_2 k hk p hp q hq) 77), (110, SO.cells [SC.int true .i64 (0 : Int), SC.int true .i64 (0 : Int)] 82), (128, SO.cells [SC.int
 true .i64 (0 : Int), SC.int true .i64 (0 : Int)] 82), (137, SO.cells (ds2_2 k hk p hp q hq) 77), (138, SO.cells [SC.int true .i64 (0 : Int), SC.int true .i64 (0 : Int)] 82), (199,
 SO.cells [SC.int false .u64 c, SC.raw (Value.pointer none)] 199), (207, SO.cells [SC.int false .u64 c, SC.raw (Value.pointer none)] 199), (227, SO.cells [SC.int true .u64 (0 : Int),
 SC.raw (Value.pointer none)] 199), (230, SO.cells [SC.int false .u64 c, SC.raw (Value.pointer none)] 199), (231, SO.cells [SC.int true .u64 (0 : Int), SC.raw (Value.pointer none)]
 199), (246, SO.cells (ds2_4) 87)] 236) Scr.nil)) ∧ True) ∧ True) (K (ds2_5 c d) (Mem.mk [(1, SO.cells (ds2_3 a b c d e f g) 75), (2, SO.cells (ds2_2 k hk p hp q hq) 77), (45,
 SO.cells (ds2_3 a b c d e f g) 75), (51, SO.cells (ds2_3 a b c d e f g) 75), (83, SO.cells [SC.int false .u64 a, SC.raw (Value.pointer none)] 199), (87, SO.cells [SC.int false .u64
 c, SC.raw (Value.pointer none)] 199), (91, SO.cells [SC.int false .u64 f, SC.raw (Value.pointer none)] 199), (93, SO.mp true []), (95, SO.cells (ds2_13 a b c d e f g) 204), (109,
 SO.cells (ds2_2 k hk p hp q hq) 77), (110, SO.cells [SC.int true .i64 (0 : Int), SC.int true .i64 (0 : Int)] 82), (128, SO.cells [SC.int true .i64 (0 : Int), SC.int true .i64 (0 :
 Int)] 82), (137, SO.cells (ds2_2 k hk p hp q hq) 77), (138, SO.cells [SC.int true .i64 (0 : Int), SC.int true .i64 (0 : Int)] 82), (199, SO.cells [SC.int false .u64 c, SC.raw
 (Value.pointer none)] 199), (207, SO.cells [SC.int false .u64 c, SC.raw (Value.pointer none)] 199), (227, SO.cells [SC.int true .u64 (0 : Int), SC.raw (Value.pointer none)] 199),
 (230, SO.cells [SC.int false .u64 c, SC.raw (Value.pointer none)] 199), (231, SO.cells [SC.int true .u64 (0 : Int), SC.raw (Value.pointer none)] 199), (246, SO.cells (ds2_4) 87)]
 260) Scr.nil)) ∧ True) ∧ True → a = a ∧ Value.pointer none = Value.pointer none ∧ c = c ∧ Value.pointer none = Value.pointer none ∧ f = f ∧ Value.pointer none = Value.pointer none ∧
 ([] : List (Int × Value)) = [] ∧ a = a ∧ b = b ∧ c = c ∧ d = d ∧ e = e ∧ f = f ∧ g = g ∧ c = c ∧ Value.pointer none = Value.pointer none ∧ (True ∧ (∀ (z : Un), True → ds2_7 a c f b
 d e g X0 k hk p hp q hq) ∧ True) ∧ True) (K (ds2_5 c d) (Mem.mk [(1, SO.cells (ds2_3 a b c d e f g) 75), (2, SO.cells (ds2_2 k hk p hp q hq) 77), (45, SO.cells (ds2_3 a b c d e f g)
 75), (51, SO.cells (ds2_3 a b c d e f g) 75), (83, SO.cells [SC.int false .u64 a, SC.raw (Value.pointer none)] 199), (87, SO.cells [SC.int false .u64 c, SC.raw (Value.pointer none)]
 199), (91, SO.cells [SC.int false .u64 f, SC.raw (Value.pointer none)] 199), (93, SO.mp true []), (95, SO.cells (ds2_13 a b c d e f g) 204), (109, SO.cells (ds2_2 k hk p hp q hq)
 77), (110, SO.cells [SC.int true .i64 (0 : Int), SC.int true .i64 (0 : Int)] 82), (128, SO.cells [SC.int true .i64 (0 : Int), SC.int true .i64 (0 : Int)] 82), (137, SO.cells (ds2_2
 k hk p hp q hq) 77), (138, SO.cells [SC.int true .i64 (0 : Int), SC.int true .i64 (0 : Int)] 82), (199, SO.cells [SC.int false .u64 c, SC.raw (Value.pointer none)] 199), (207,
 SO.cells [SC.int false .u64 c, SC.raw (Value.pointer none)] 199), (227, SO.cells [SC.int true .u64 (0 : Int), SC.raw (Value.pointer none)] 199), (230, SO.cells [SC.int false .u64 c,
 SC.raw (Value.pointer none)] 199), (231, SO.cells [SC.int true .u64 (0 : Int), SC.raw (Value.pointer none)] 199), (246, SO.cells (ds2_4) 87)] 260) Scr.nil)) ∧ True)))) ∧ True)) ∧
 (decide (max (max b e) g ≤ (256 : Int)) = false → true = true)) ∧ (decide (min (min (min b e) g) d ≥ (0 : Int)) = false → true = true)) := by
  kernel_rfl
theorem ds2_run (a b c d e f g : Int) (k p q : Int) (hk : 0 ≤ k ∧ k ≤ 255) (hp : 0 ≤ p ∧ p ≤ 1023) (hq : 0 ≤ q ∧ q ≤ 1023) (hc : DsOk a b c d e f g) : Run (callN Try.prog (tblDS : List (Smry Try.prog XN)) (fun _ _ => false) 100 20 4 [.agg [.int false .u64 a, .int false .i64 b, .int false .u64 c, .int false .i64 d, .int false .i64 e, .int false .u64 f, .int false .i64 g], .agg [.int true .i64 2, .int false .i64 k (.w 0 255 hk), .int false .i64 p (.w 0 1023 hp), .int false .i64 q (.w 0 1023 hq)]] ⟨[], 1⟩ (.cut 4 (liveL [2, 3, 4, 5, 6, 8, 9, 11, 13, 131]) [] Unit (fun _ _ => ([], [])) .nil fun _ => .nil) (fun v _ _ => retTrue v)) := by
  constructor
  rw [ds2_vc]
  delta ds2_14 ds2_1 ds2_2 ds2_3 ds2_4 ds2_5 ds2_6 ds2_15 ds2_7 ds2_8 ds2_9 ds2_10 ds2_11 ds2_12 ds2_13
  obtain ⟨⟨⟨ha0, ha1⟩, ⟨hb0, hb1⟩, hc0, hc1⟩, ⟨hd0, hd1⟩, ⟨he0, he1⟩, ⟨hf0, hf1⟩, hg0, hg1⟩ := hc
  repeat' first
    | (refine fun (K : KO XN) => ?_; simp only [eq_self, true_and, and_true, imp_self, implies_true]; first | done | exact id; done)
    | with_reducible apply And.intro
    | with_reducible exact trivial
    | with_reducible exact Eq.refl _
    | (with_reducible refine Exists.intro () ?_)
    | (intro h; simp only [bne_self_eq_false, Bool.false_eq_true] at h; done)
    | intro _
  all_goals first
    | omega
    | with_reducible assumption
    | (simp only [Bool.not_eq_false', Bool.not_eq_true', decide_eq_true_eq, decide_eq_false_iff_not] at *; omega)
    | (simp_all; done)
end Go.Proofs.Ytnkikhhiaecebaa

/- DraftShares, code 3. -/
namespace Go.Proofs.Ytnkikhhiaecebaa
open Go Go.RowKit
set_option maxRecDepth 1000000
set_option maxHeartbeats 0
/-- What the executor leaves to be shown of roundelay/roundelaylaw08.DraftShares, written out. -/
theorem ds3_vc (a b c d e f g : Int) (k p q : Int) (hk : 0 ≤ k ∧ k ≤ 255) (hp : 0 ≤ p ∧ p ≤ 1023) (hq : 0 ≤ q ∧ q ≤ 1023) : (callN Try.prog (tblDS : List (Smry Try.prog XN)) (fun _ _ => false) 100 20 4 [.agg [.int false .u64 a, .int false .i64 b, .int false .u64 c, .int false .i64 d, .int false .i64 e, .int false .u64 f, .int false .i64 g], .agg [.int true .i64 3, .int false .i64 k (.w 0 255 hk), .int false .i64 p (.w 0 1023 hp), .int false .i64 q (.w 0 1023 hq)]] ⟨[], 1⟩ (.cut 4 (liveL [2, 3, 4, 5, 6, 8, 9, 11, 13, 131]) [] Unit (fun _ _ => ([], [])) .nil fun _ => .nil) (fun v _ _ => retTrue v)) = (
    (((c == (0 : Int)) = true → (decide (e > (0 : Int)) = true → ∃ (y : Unit), a = a ∧ b = b ∧ c = c ∧ d = d ∧ e = e ∧ f = f ∧ g = g ∧ k = k ∧ p = p ∧ q = q ∧ True) ∧ (decide (e > (0 :
    Int)) = false → ∃ (y : Unit), a = a ∧ b = b ∧ c = c ∧ d = d ∧ e = e ∧ f = f ∧ g = g ∧ k = k ∧ p = p ∧ q = q ∧ True)) ∧ ((c == (0 : Int)) = false → ∃ (y : Unit), a = a ∧ b = b ∧ c =
    c ∧ d = d ∧ e = e ∧ f = f ∧ g = g ∧ k = k ∧ p = p ∧ q = q ∧ True)) ∧ ∀ (y : Unit) (ρ : Nat → Value), (decide (min (min (min b e) g) d ≥ (0 : Int)) = true → (decide (max (max b e) g
    ≤ (256 : Int)) = true → ((!decide (d < (256 : Int))) = true → true = true) ∧ ((!decide (d < (256 : Int))) = false → True ∧ (∀ (z : Un), True → ((!decide (RightO (3 : Int) k p q)) =
    true → ((a != a) = true → false = true) ∧ ((a != a) = false → ((b != b) = true → false = true) ∧ ((b != b) = false → ((f != f) = true → false = true) ∧ ((f != f) = false → ((g != g)
    = true → false = true) ∧ ((g != g) = false → ((true == (a == a && (b == b && (c == c && (d == d && (e == e && (f == f && (g == g && true)))))))) = true → true = true) ∧ ((true == (a
    == a && (b == b && (c == c && (d == d && (e == e && (f == f && (g == g && true)))))))) = false → false = true)))))) ∧ ((!decide (RightO (3 : Int) k p q)) = false → ((a != a) = true
    → false = true) ∧ ((a != a) = false → ((b != b) = true → false = true) ∧ ((b != b) = false → ((f != f) = true → false = true) ∧ ((f != f) = false → ((g != g) = true → false = true)
    ∧ ((g != g) = false → ((true == (a == a && (b == b && (c == c && (d == d && (e == e && (f == f && (g == g && true)))))))) = true → true = true) ∧ ((true == (a == a && (b == b && (c
    == c && (d == d && (e == e && (f == f && (g == g && true)))))))) = false → false = true))))))) ∧ True)) ∧ (decide (max (max b e) g ≤ (256 : Int)) = false → true = true)) ∧ (decide
    (min (min (min b e) g) d ≥ (0 : Int)) = false → true = true)) := by
  kernel_rfl
theorem ds3_run (a b c d e f g : Int) (k p q : Int) (hk : 0 ≤ k ∧ k ≤ 255) (hp : 0 ≤ p ∧ p ≤ 1023) (hq : 0 ≤ q ∧ q ≤ 1023) (hc : DsOk a b c d e f g) : Run (callN Try.prog (tblDS : List (Smry Try.prog XN)) (fun _ _ => false) 100 20 4 [.agg [.int false .u64 a, .int false .i64 b, .int false .u64 c, .int false .i64 d, .int false .i64 e, .int false .u64 f, .int false .i64 g], .agg [.int true .i64 3, .int false .i64 k (.w 0 255 hk), .int false .i64 p (.w 0 1023 hp), .int false .i64 q (.w 0 1023 hq)]] ⟨[], 1⟩ (.cut 4 (liveL [2, 3, 4, 5, 6, 8, 9, 11, 13, 131]) [] Unit (fun _ _ => ([], [])) .nil fun _ => .nil) (fun v _ _ => retTrue v)) := by
  constructor
  rw [ds3_vc]
  obtain ⟨⟨⟨ha0, ha1⟩, ⟨hb0, hb1⟩, hc0, hc1⟩, ⟨hd0, hd1⟩, ⟨he0, he1⟩, ⟨hf0, hf1⟩, hg0, hg1⟩ := hc
  repeat' first
    | (refine fun (K : KO XN) => ?_; simp only [eq_self, true_and, and_true, imp_self, implies_true]; first | done | exact id; done)
    | with_reducible apply And.intro
    | with_reducible exact trivial
    | with_reducible exact Eq.refl _
    | (with_reducible refine Exists.intro () ?_)
    | (intro h; simp only [bne_self_eq_false, Bool.false_eq_true] at h; done)
    | intro _
  all_goals first
    | omega
    | with_reducible assumption
    | (simp_all; done)
end Go.Proofs.Ytnkikhhiaecebaa

/- DraftShares, code 4. -/
namespace Go.Proofs.Ytnkikhhiaecebaa
open Go Go.RowKit
set_option maxRecDepth 1000000
set_option maxHeartbeats 0
def ds4_14  : List SC := [SC.int true .u64 (0 : Int), SC.int true .u64 (0 : Int), SC.int true .u64 (0 : Int), SC.int true .u64 (0 : Int)]
def ds4_1 (a k : Int) : SF := SF.mk 50 (np 95 0 (nv (SV.agg [SC.int false .u64 a, SC.raw (Value.pointer none)]) (nu (nv (SV.c (tb false)) (nu (np 95 10 tn tn) nu0) (nu nu0 tn)) (nv
 (SV.c (SC.raw (Value.pointer none))) (nu (nv (SV.tup [(true, (ds4_14)), (false, [tb false])]) tn tn) tn) (nu nu0 tn))) (nu (nv (SV.c (tb false)) (nu (np 199 0 tn tn) nu0) (nu nu0
 tn)) (nu (nu (nv (SV.c (tb false)) tn tn) tn) (np 95 0 nu0 tn)))) (nv (SV.c (SC.int false .i64 (dkF k (0 : Int)) (Bd.w (0 : Int) (3 : Int) (dkF_bd k (Int.ofNat 0))))) (np 199 0 (np
 215 0 (nu (nv (SV.c (SC.map 93)) tn tn) nu0) (nu nu0 tn)) (nv (SV.c (tb false)) (nu (nv (SV.agg (ds4_14)) tn tn) tn) (nv (SV.tup [(true, (ds4_14)), (false, [tb false])]) nu0 tn)))
 (np 200 0 (np 199 1 (nu (nv (SV.c (SC.int false .u64 a)) tn tn) tn) (nu nu0 tn)) (nu (nu nu0 tn) (np 95 0 nu0 tn))))) []
def ds4_2 (k : Int) (hk : 0 ≤ k ∧ k ≤ 255) (p : Int) (hp : 0 ≤ p ∧ p ≤ 1023) (q : Int) (hq : 0 ≤ q ∧ q ≤ 1023) : List SC := [SC.int true .i64 (4 : Int), SC.int false .i64 k (Bd.w (0
 : Int) (255 : Int) hk), SC.int false .i64 p (Bd.w (0 : Int) (1023 : Int) hp), SC.int false .i64 q (Bd.w (0 : Int) (1023 : Int) hq)]
def ds4_3 (a b c d e f g : Int) : List SC := [SC.int false .u64 a, SC.int false .i64 b, SC.int false .u64 c, SC.int false .i64 d, SC.int false .i64 e, SC.int false .u64 f, SC.int
 false .i64 g]
def ds4_4  : List SC := [SC.int true .u64 (0 : Int), SC.int true .u64 (0 : Int), SC.int true .u64 (0 : Int), SC.int true .u64 (0 : Int)]
def ds4_5 (a k : Int) (hk : 0 ≤ k ∧ k ≤ 255) : SF := SF.mk 40 (np 95 0 (nv (SV.c (SC.int true .i64 (0 : Int))) (nu (nv (SV.c (tb false)) (np 95 7 (nv (SV.tup [(true, [SC.int true
 .u64 (0 : Int), SC.raw (Value.pointer none)]), (false, [tb false])]) tn tn) tn) (nv (SV.agg [SC.int false .u64 a, SC.raw (Value.pointer none)]) nu0 tn)) (nv (SV.c (tb false)) (nv
 (SV.agg [SC.int false .u64 a, SC.raw (Value.pointer none)]) nu0 tn) (nv (SV.agg [SC.int false .u64 a, SC.raw (Value.pointer none)]) tn tn))) (nu (nv (SV.c (SC.int true .i64 (0 :
 Int))) (np 83 0 (nv (SV.c (tb false)) tn tn) tn) (nv (SV.tup [(true, [SC.int true .u64 (0 : Int), SC.raw (Value.pointer none)]), (false, [tb false])]) tn tn)) (nv (SV.c (SC.int true
 .i64 (0 : Int))) (nv (SV.c (tb true)) nu0 tn) (nv (SV.c (SC.int true .i64 (0 : Int))) tn tn)))) (nv (SV.c (SC.int false .i64 k (Bd.w (0 : Int) (255 : Int) hk))) (nu (np 168 0 (np 95
 7 (nv (SV.agg [SC.int true .u64 (0 : Int), SC.raw (Value.pointer none)]) tn tn) tn) (nv (SV.c (tb false)) tn tn)) (np 95 0 (nv (SV.c (SC.int true .i64 (0 : Int))) nu0 tn) (nv (SV.c
 (SC.int false .i64 k (Bd.w (0 : Int) (255 : Int) hk))) tn tn))) (nv (SV.c (SC.int true .u64 (0 : Int))) (np 196 0 (np 83 0 nu0 tn) (np 95 0 tn tn)) (np 95 0 (nv (SV.c (SC.int true
 .i64 (0 : Int))) nu0 tn) (nv (SV.c (SC.int false .i64 (dkF k (0 : Int)) (Bd.w (0 : Int) (3 : Int) (dkF_bd k (Int.ofNat 0))))) tn tn))))) []
def ds4_6 (a c f b d e g : Int) (X0 : Prop) : Prop := a = a ∧ Value.pointer none = Value.pointer none ∧ c = c ∧ Value.pointer none = Value.pointer none ∧ f = f ∧ Value.pointer none
 = Value.pointer none ∧ ([] : List (Int × Value)) = [] ∧ a = a ∧ b = b ∧ c = c ∧ d = d ∧ e = e ∧ f = f ∧ g = g ∧ a = a ∧ Value.pointer none = Value.pointer none ∧ (X0 ∧ True) ∧ True
def ds4_15 (c f a b d e g : Int) (X1 : Prop) : Prop := Value.pointer none = Value.pointer none ∧ c = c ∧ Value.pointer none = Value.pointer none ∧ f = f ∧ Value.pointer none =
 Value.pointer none ∧ ([] : List (Int × Value)) = [] ∧ a = a ∧ b = b ∧ c = c ∧ d = d ∧ e = e ∧ f = f ∧ g = g ∧ a = a ∧ Value.pointer none = Value.pointer none ∧ X1 ∧ True
def ds4_7 (a c f b d e g : Int) (X0 : Prop) (k : Int) (hk : 0 ≤ k ∧ k ≤ 255) (p : Int) (hp : 0 ≤ p ∧ p ≤ 1023) (q : Int) (hq : 0 ≤ q ∧ q ≤ 1023) : Prop := a = a ∧ Value.pointer none
 = Value.pointer none ∧ c = c ∧ Value.pointer none = Value.pointer none ∧ f = f ∧ Value.pointer none = Value.pointer none ∧ ([] : List (Int × Value)) = [] ∧ a = a ∧ b = b ∧ c = c ∧ d
 = d ∧ e = e ∧ f = f ∧ g = g ∧ a = a ∧ Value.pointer none = Value.pointer none ∧ (((ds4_6 a c f b d e g X0) ∧ True) ∧ (∀ (K : KO XN), (fun X1 : Prop => (a = a ∧ ds4_15 c f a b d e g
 X1) ∧ True → ds4_6 a c f b d e g X1) (K (ds4_1 a k) (Mem.mk [(1, SO.cells (ds4_3 a b c d e f g) 75), (2, SO.cells (ds4_2 k hk p hp q hq) 77), (45, SO.cells (ds4_3 a b c d e f g)
 75), (51, SO.cells (ds4_3 a b c d e f g) 75), (83, SO.cells [SC.int false .u64 a, SC.raw (Value.pointer none)] 199), (87, SO.cells [SC.int false .u64 c, SC.raw (Value.pointer none)]
 199), (91, SO.cells [SC.int false .u64 f, SC.raw (Value.pointer none)] 199), (93, SO.mp true []), (95, SO.cells [SC.int false .u64 a, SC.int false .i64 b, SC.int false .u64 c,
 SC.int false .i64 d, SC.int false .i64 e, SC.int false .u64 f, SC.int false .i64 g, sp 83 0, sp 87 0, sp 91 0, SC.map 93, SC.nls, SC.nls, SC.nls, SC.int true .u64 (0 : Int)] 204),
 (109, SO.cells (ds4_2 k hk p hp q hq) 77), (110, SO.cells [SC.int true .i64 (0 : Int), SC.int true .i64 (0 : Int)] 82), (128, SO.cells [SC.int true .i64 (0 : Int), SC.int true .i64
 (0 : Int)] 82), (141, SO.cells (ds4_2 k hk p hp q hq) 77), (142, SO.cells [SC.int true .i64 (0 : Int), SC.int true .i64 (0 : Int)] 82), (168, SO.cells [SC.int false .u64 a, SC.raw
 (Value.pointer none)] 199), (176, SO.cells [SC.int false .u64 a, SC.raw (Value.pointer none)] 199), (196, SO.cells [SC.int true .u64 (0 : Int), SC.raw (Value.pointer none)] 199),
 (199, SO.cells [SC.int false .u64 a, SC.raw (Value.pointer none)] 199), (200, SO.cells [SC.int true .u64 (0 : Int), SC.raw (Value.pointer none)] 199), (215, SO.cells (ds4_4) 87)]
 205) Scr.nil)) ∧ True) ∧ True
def ds4_8 (a c f b d e g : Int) (X0 : Prop) : Prop := a = a ∧ ds4_15 c f a b d e g X0
def ds4_9 (c e d f g a b : Int) : Prop := ((c != c) = true → false = true) ∧ ((c != c) = false → ((e != e) = true → false = true) ∧ ((e != e) = false → ((d != d) = true → false =
 true) ∧ ((d != d) = false → ((f != f) = true → false = true) ∧ ((f != f) = false → ((g != g) = true → false = true) ∧ ((g != g) = false → ((true == (a == a && (b == b && (c == c &&
 (d == d && (e == e && (f == f && (g == g && true)))))))) = true → true = true) ∧ ((true == (a == a && (b == b && (c == c && (d == d && (e == e && (f == f && (g == g && true))))))))
 = false → false = true))))))
def ds4_10 (a b c d e f g : Int) : List SC := [SC.int false .u64 a, SC.int false .i64 b, SC.int false .u64 c, SC.int false .i64 d, SC.int false .i64 e, SC.int false .u64 f, SC.int
 false .i64 g, sp 83 0, sp 87 0, sp 91 0, SC.map 93, SC.nls, SC.nls, SC.nls, SC.int true .u64 (0 : Int)]
def ds4_11 (a c f b d e g k : Int) (hk : 0 ≤ k ∧ k ≤ 255) (p : Int) (hp : 0 ≤ p ∧ p ≤ 1023) (q : Int) (hq : 0 ≤ q ∧ q ≤ 1023) : Prop := ∀ (K : KO XN), (fun X1 : Prop => (ds4_8 a c f
 b d e g X1) ∧ True → ds4_6 a c f b d e g X1) (K (ds4_1 a k) (Mem.mk [(1, SO.cells (ds4_3 a b c d e f g) 75), (2, SO.cells (ds4_2 k hk p hp q hq) 77), (45, SO.cells (ds4_3 a b c d e
 f g) 75), (51, SO.cells (ds4_3 a b c d e f g) 75), (83, SO.cells [SC.int false .u64 a, SC.raw (Value.pointer none)] 199), (87, SO.cells [SC.int false .u64 c, SC.raw (Value.pointer
 none)] 199), (91, SO.cells [SC.int false .u64 f, SC.raw (Value.pointer none)] 199), (93, SO.mp true []), (95, SO.cells (ds4_10 a b c d e f g) 204), (109, SO.cells (ds4_2 k hk p hp q
 hq) 77), (110, SO.cells [SC.int true .i64 (0 : Int), SC.int true .i64 (0 : Int)] 82), (128, SO.cells [SC.int true .i64 (0 : Int), SC.int true .i64 (0 : Int)] 82), (141, SO.cells
 (ds4_2 k hk p hp q hq) 77), (142, SO.cells [SC.int true .i64 (0 : Int), SC.int true .i64 (0 : Int)] 82), (168, SO.cells [SC.int false .u64 a, SC.raw (Value.pointer none)] 199),
 (176, SO.cells [SC.int false .u64 a, SC.raw (Value.pointer none)] 199), (199, SO.cells [SC.int false .u64 a, SC.raw (Value.pointer none)] 199), (200, SO.cells [SC.int true .u64 (0 :
 Int), SC.raw (Value.pointer none)] 199), (215, SO.cells (ds4_4) 87)] 205) Scr.nil)
def ds4_12 (a c f b d e g : Int) (X0 : Prop) : Prop := (a = a ∧ Value.pointer none = Value.pointer none ∧ c = c ∧ Value.pointer none = Value.pointer none ∧ f = f ∧ Value.pointer
 none = Value.pointer none ∧ ([] : List (Int × Value)) = [] ∧ a = a ∧ b = b ∧ c = c ∧ d = d ∧ e = e ∧ f = f ∧ g = g ∧ a = a ∧ Value.pointer none = Value.pointer none ∧ ((X0 ∧ True) ∧
 True) ∧ True) ∧ True
def ds4_13 (a b c d e f g : Int) : List SC := [SC.int false .u64 a, SC.int false .i64 b, SC.int false .u64 c, SC.int false .i64 d, SC.int false .i64 e, SC.int false .u64 f, SC.int
 false .i64 g, sp 83 0, sp 87 0, sp 91 0, SC.map 93, SC.nls, SC.nls, SC.nls, SC.int false .u64 a]
/-- What the executor leaves to be shown of roundelay/roundelaylaw08.DraftShares, written out. -/
theorem ds4_vc (a b c d e f g : Int) (k p q : Int) (hk : 0 ≤ k ∧ k ≤ 255) (hp : 0 ≤ p ∧ p ≤ 1023) (hq : 0 ≤ q ∧ q ≤ 1023) : (callN Try.prog (tblDS : List (Smry Try.prog XN)) (fun _ _ => false) 100 20 4 [.agg [.int false .u64 a, .int false .i64 b, .int false .u64 c, .int false .i64 d, .int false .i64 e, .int false .u64 f, .int false .i64 g], .agg [.int true .i64 4, .int false .i64 k (.w 0 255 hk), .int false .i64 p (.w 0 1023 hp), .int false .i64 q (.w 0 1023 hq)]] ⟨[], 1⟩ (.cut 4 (liveL [2, 3, 4, 5, 6, 8, 9, 11, 13, 131]) [] Unit (fun _ _ => ([], [])) .nil fun _ => .nil) (fun v _ _ => retTrue v)) = (
 (((c == (0 : Int)) = true → (decide (e > (0 : Int)) = true → ∃ (y : Unit), a = a ∧ b = b ∧ c = c ∧ d = d ∧ e = e ∧ f = f ∧ g = g ∧ k = k ∧ p = p ∧ q = q ∧ True) ∧ (decide (e > (0 :
 Int)) = false → ∃ (y : Unit), a = a ∧ b = b ∧ c = c ∧ d = d ∧ e = e ∧ f = f ∧ g = g ∧ k = k ∧ p = p ∧ q = q ∧ True)) ∧ ((c == (0 : Int)) = false → ∃ (y : Unit), a = a ∧ b = b ∧ c =
 c ∧ d = d ∧ e = e ∧ f = f ∧ g = g ∧ k = k ∧ p = p ∧ q = q ∧ True)) ∧ ∀ (y : Unit) (ρ : Nat → Value), (decide (min (min (min b e) g) d ≥ (0 : Int)) = true → (decide (max (max b e) g
 ≤ (256 : Int)) = true → ((!decide (d < (256 : Int))) = true → true = true) ∧ ((!decide (d < (256 : Int))) = false → True ∧ (∀ (z : Un), True → ((!decide (RightO (4 : Int) k p q)) =
 true → ds4_9 c e d f g a b) ∧ ((!decide (RightO (4 : Int) k p q)) = false → ((a == (0 : Int)) = true → ds4_9 c e d f g a b) ∧ ((a == (0 : Int)) = false → (True ∧ (∀ (z : Un), True →
 a = a ∧ Value.pointer none = Value.pointer none ∧ c = c ∧ Value.pointer none = Value.pointer none ∧ f = f ∧ Value.pointer none = Value.pointer none ∧ ([] : List (Int × Value)) = []
 ∧ a = a ∧ b = b ∧ c = c ∧ d = d ∧ e = e ∧ f = f ∧ g = g ∧ a = a ∧ Value.pointer none = Value.pointer none ∧ (((a = a ∧ Value.pointer none = Value.pointer none ∧ c = c ∧
 Value.pointer none = Value.pointer none ∧ f = f ∧ Value.pointer none = Value.pointer none ∧ ([] : List (Int × Value)) = [] ∧ a = a ∧ b = b ∧ c = c ∧ d = d ∧ e = e ∧ f = f ∧ g = g ∧
 a = a ∧ Value.pointer none = Value.pointer none ∧ (((((a != (0 : Int)) = true → (a = a ∧ Value.pointer none = Value.pointer none ∧ c = c ∧ Value.pointer none = Value.pointer none ∧
 f = f ∧ Value.pointer none = Value.pointer none ∧ ([] : List (Int × Value)) = [] ∧ a = a ∧ b = b ∧ c = c ∧ d = d ∧ e = e ∧ f = f ∧ g = g ∧ a = a ∧ ((a != (0 : Int)) = true → ((true
 == (a == a && (b == b && (c == c && (d == d && (e == e && (f == f && (g == g && true)))))))) = true → true = true) ∧ ((true == (a == a && (b == b && (c == c && (d == d && (e == e &&
 (f == f && (g == g && true)))))))) = false → false = true)) ∧ ((a != (0 : Int)) = false → ds4_9 c e d f g a b)) ∧ True) ∧ ((a != (0 : Int)) = false → ds4_9 c e d f g a b)) ∧ True) ∧
 True) ∧ True) ∧ True) ∧ (∀ (K : KO XN), (fun X0 : Prop => (ds4_8 a c f b d e g X0) ∧ True → ds4_6 a c f b d e g X0) (K (ds4_1 a k) (Mem.mk [(1, SO.cells (ds4_3 a b c d e f g) 75),
 (2, SO.cells (ds4_2 k hk p hp q hq) 77), (45, SO.cells (ds4_3 a b c d e f g) 75), (51, SO.cells (ds4_3 a b c d e f g) 75), (83, SO.cells [SC.int false .u64 a, SC.raw (Value.pointer
 none)] 199), (87, SO.cells [SC.int false .u64 c, SC.raw (Value.pointer none)] 199), (91, SO.cells [SC.int false .u64 f, SC.raw (Value.pointer none)] 199), (93, SO.mp true []), (95,
 SO.cells (ds4_10 a b c d e f g) 204), (109, SO.cells (ds4_2 k hk p hp q hq) 77), (110, SO.cells [SC.int true .i64 (0 : Int), SC.int true .i64 (0 : Int)] 82), (128, SO.cells [SC.int
 true .i64 (0 : Int), SC.int true .i64 (0 : Int)] 82), (141, SO.cells (ds4_2 k hk p hp q hq) 77), (142, SO.cells [SC.int true .i64 (0 : Int), SC.int true .i64 (0 : Int)] 82), (168,
 SO.cells [SC.int false .u64 a, SC.raw (Value.pointer none)] 199), (176, SO.cells [SC.int false .u64 a, SC.raw (Value.pointer none)] 199), (199, SO.cells [SC.int false .u64 a, SC.raw
 (Value.pointer none)] 199), (200, SO.cells [SC.int true .u64 (0 : Int), SC.raw (Value.pointer none)] 199), (215, SO.cells (ds4_4) 87)] 205) Scr.nil)) ∧ True) ∧ (∀ (K : KO XN), (fun
 X0 : Prop => (ds4_12 a c f b d e g X0) ∧ (ds4_11 a c f b d e g k hk p hp q hq) ∧ True → ds4_7 a c f b d e g X0 k hk p hp q hq) (K (ds4_5 a k hk) (Mem.mk [(1, SO.cells (ds4_3 a b c d
 e f g) 75), (2, SO.cells (ds4_2 k hk p hp q hq) 77), (45, SO.cells (ds4_3 a b c d e f g) 75), (51, SO.cells (ds4_3 a b c d e f g) 75), (83, SO.cells [SC.int false .u64 a, SC.raw
 (Value.pointer none)] 199), (87, SO.cells [SC.int false .u64 c, SC.raw (Value.pointer none)] 199), (91, SO.cells [SC.int false .u64 f, SC.raw (Value.pointer none)] 199), (93, SO.mp
 true []), (95, SO.cells (ds4_13 a b c d e f g) 204), (109, SO.cells (ds4_2 k hk p hp q hq) 77), (110, SO.cells [SC.int true .i64 (0 : Int), SC.int true .i64 (0 : Int)] 82), (128,
 SO.cells [SC.int true .i64 (0 : Int), SC.int true .i64 (0 : Int)] 82), (141, SO.cells (ds4_2 k hk p hp q hq) 77), (142, SO.cells [SC.int true .i64 (0 : Int), SC.int true .i64 (0 :
 Int)] 82), (168, SO.cells [SC.int false .u64 a, SC.raw (Value.pointer none)] 199), (176, SO.cells [SC.int false .u64 a, SC.raw (Value.pointer none)] 199), (196, SO.cells [SC.int
 true .u64 (0 : Int), SC.raw (Value.pointer none)] 199), (199, SO.cells [SC.int false .u64 a, SC.raw (Value.pointer none)] 199), (200, SO.cells [SC.int true .u64 (0 : Int), SC.raw
 (Value.pointer none)] 199), (215, SO.cells (ds4_4) 87)] 229) Scr.nil)) ∧ True) ∧ True) ∧ (∀ (K : KO XN), (fun X0 : Prop => True ∧ (∀ (z : Un), True → a = a ∧ Value.pointer none =
 Value.pointer none ∧ c = c ∧ Value.pointer none = Value.pointer none ∧ f = f ∧ Value.pointer none = Value.pointer none ∧ ([] : List (Int × Value)) = [] ∧ a = a ∧ b = b ∧ c = c ∧ d =
 d ∧ e = e ∧ f = f ∧ g = g ∧ a = a ∧ Value.pointer none = Value.pointer none ∧ ((ds4_12 a c f b d e g X0) ∧ (ds4_11 a c f b d e g k hk p hp q hq) ∧ True) ∧ (∀ (K : KO XN), (fun X1 :
 Prop => (ds4_12 a c f b d e g X1) ∧ (∀ (K : KO XN), (fun X2 : Prop => (ds4_8 a c f b d e g X2) ∧ True → ds4_6 a c f b d e g X2) (K (ds4_1 a k) (Mem.mk [(1, SO.cells (ds4_3 a b c d e
 f g) 75), (2, SO.cells (ds4_2 k hk p hp q hq) 77), (45, SO.cells (ds4_3 a b c d e f g) 75), (51, SO.cells (ds4_3 a b c d e f g) 75), (83, SO.cells [SC.int false .u64 a, SC.raw
 (Value.pointer none)] 199), (87, SO.cells [SC.int false .u64 c, SC.raw (Value.pointer none)] 199), (91, SO.cells [SC.int false .u64 f, SC.raw (Value.pointer none)] 199), (93, SO.mp
 true []), (95, SO.cells (ds4_10 a b c d e f g) 204), (109, SO.cells (ds4_2 k hk p hp q hq) 77), (110, SO.cells [SC.int true .i64 (0 : Int), SC.int true .i64 (0 : Int)] 82), (128,
 SO.cells [SC.int true .i64 (0 : Int), SC.int true .i64 (0 : Int)] 82), (141, SO.cells (ds4_2 k hk p hp q hq) 77), (142, SO.cells [SC.int true .i64 (0 : Int), SC.int true .i64 (0 :
 Int)] 82), (168, SO.cells [SC.int false .u64 a, SC.raw (Value.pointer none)] 199), (176, SO.cells [SC.int false .u64 a, SC.raw (Value.pointer none)] 199), (199, SO.cells [SC.int
 false .u64 a, SC.raw (Value.pointer none)] 199), (200, SO.cells [SC.int true .u64 (0 : Int), SC.raw (Value.pointer none)] 199), (215, SO.cells (ds4_4) 87)] 205) Scr.nil)) ∧ True → a
 = a ∧ Value.pointer none = Value.pointer none ∧ c = c ∧ Value.pointer none = Value.pointer none ∧ f = f ∧ Value.pointer none = Value.pointer none ∧ ([] : List (Int × Value)) = [] ∧
 a = a ∧ b = b ∧ c = c ∧ d = d ∧ e = e ∧ f = f ∧ g = g ∧ a = a ∧ Value.pointer none = Value.pointer none ∧ (((ds4_6 a c f b d e g X1) ∧ True) ∧ (∀ (K : KO XN), (fun X2 : Prop =>
 (ds4_8 a c f b d e g X2) ∧ True → ds4_6 a c f b d e g X2) (K (ds4_1 a k) (Mem.mk [(1, SO.cells (ds4_3 a b c d e f g) 75), (2, SO.cells (ds4_2 k hk p hp q hq) 77), (45, SO.cells
 (ds4_3 a b c d e f g) 75), (51, SO.cells (ds4_3 a b c d e f g) 75), (83, SO.cells [SC.int false .u64 a, SC.raw (Value.pointer none)] 199), (87, SO.cells [SC.int false .u64 c, SC.raw
 (Value.pointer none)] 199), (91, SO.cells [SC.int false .u64 f, SC.raw (Value.pointer none)] 199), (93, SO.mp true []), (95, SO.cells (ds4_10 a b c d e f g) 204), (109, SO.cells
 (ds4_2 k hk p hp q hq) 77), (110, SO.cells [SC.int true .i64 (0 : Int), SC.int true .i64 (0 : Int)] 82), (128, SO.cells [SC.int true .i64 (0 : Int), SC.int true .i64 (0 : Int)] 82),
 (141, SO.cells (ds4_2 k hk p hp q hq) 77), (142, SO.cells [SC.int true .i64 (0 : Int), SC.int true .i64 (0 : Int)] 82), (168, SO.cells [SC.int false .u64 a, SC.raw (Value.pointer
 none)] 199), (176, SO.cells [SC.int false .u64 a, SC.raw (Value.pointer none)] 199), (196, SO.cells [SC.int true .u64 (0 : Int), SC.raw (Value.pointer none)] 199), (199, SO.cells
 [SC.int false .u64 a, SC.raw (Value.pointer none)] 199), (200, SO.cells [SC.int true .u64 (0 : Int), SC.raw (Value.pointer none)] 199), (215, SO.cells (ds4_4) 87)] 205) Scr.nil)) ∧
 True) ∧ True) (K (ds4_5 a k hk) (Mem.mk [(1, SO.cells (ds4_3 a b c d e f g) 75), (2, SO.cells (ds4_2 k hk p hp q hq) 77), (45, SO.cells (ds4_3 a b c d e f g) 75), (51, SO.cells
 (ds4_3 a b c d e f g) 75), (83, SO.cells [SC.int false .u64 a, SC.raw (Value.pointer none)] 199), (87, SO.cells [SC.int false .u64 c, SC.raw (Value.pointer none)] 199), (91,
 SO.cells [SC.int false .u64 f, SC.raw (Value.pointer none)] 199), (93, SO.mp true []), (95, SO.cells (ds4_13 a b c d e f g) 204), (109, SO.cells (ds4_2 k hk p hp q hq) 77), (110,
 SO.cells [SC.int true .i64 (0 : Int), SC.int true .i64 (0 : Int)] 82), (128, SO.cells [SC.int true .i64 (0 : Int), SC.int true .i64 (0 : Int)] 82), (141, SO.cells (ds4_2 k hk p hp q
 hq) 77), (142, SO.cells [SC.int true .i64 (0 : Int), SC.int true .i64 (0 : Int)] 82), (168, SO.cells [SC.int false .u64 a, SC.raw (Value.pointer none)] 199), (176, SO.cells [SC.int
 false .u64 a, SC.raw (Value.pointer none)] 199), (196, SO.cells [SC.int true .u64 (0 : Int), SC.raw (Value.pointer none)] 199), (199, SO.cells [SC.int false .u64 a, SC.raw
 (Value.pointer none)] 199), (200, SO.cells [SC.int true .u64 (0 : Int), SC.raw (Value.pointer none)] 199), (215, SO.cells (ds4_4) 87)] 229) Scr.nil)) ∧ True) ∧ True → a = a ∧
 Value.pointer none = Value.pointer none ∧ c = c ∧ Value.pointer none = Value.pointer none ∧ f = f ∧ Value.pointer none = Value.pointer none ∧ ([] : List (Int × Value)) = [] ∧ a = a
 ∧ b = b ∧ c = c ∧ d = d ∧ e = e ∧ f = f ∧ g = g ∧ a = a ∧ Value.pointer none = Value.pointer none ∧ (True ∧ (∀ (z : Un), True → ds4_7 a c f b d e g X0 k hk p hp q hq) ∧ True) ∧
 True) (K (ds4_5 a k hk) (Mem.mk [(1, SO.cells (ds4_3 a b c d e f g) 75), (2, SO.cells (ds4_2 k hk p hp q hq) 77), (45, SO.cells (ds4_3 a b c d e f g) 75), (51, SO.cells (ds4_3 a b c
 d e f g) 75), (83, SO.cells [SC.int false .u64 a, SC.raw (Value.pointer none)] 199), (87, SO.cells [SC.int false .u64 c, SC.raw (Value.pointer none)] 199), (91, SO.cells [SC.int
 false .u64 f, SC.raw (Value.pointer none)] 199), (93, SO.mp true []), (95, SO.cells (ds4_13 a b c d e f g) 204), (109, SO.cells (ds4_2 k hk p hp q hq) 77), (110, SO.cells [SC.int
 true .i64 (0 : Int), SC.int true .i64 (0 : Int)] 82), (128, SO.cells [SC.int true .i64 (0 : Int), SC.int true .i64 (0 : Int)] 82), (141, SO.cells (ds4_2 k hk p hp q hq) 77), (142,
 SO.cells [SC.int true .i64 (0 : Int), SC.int true .i64 (0 : Int)] 82), (168, SO.cells [SC.int false .u64 a, SC.raw (Value.pointer none)] 199), (176, SO.cells [SC.int false .u64 a,
 SC.raw (Value.pointer none)] 199), (196, SO.cells [SC.int true .u64 (0 : Int), SC.raw (Value.pointer none)] 199), (199, SO.cells [SC.int false .u64 a, SC.raw (Value.pointer none)]
 199), (200, SO.cells [SC.int true .u64 (0 : Int), SC.raw (Value.pointer none)] 199), (215, SO.cells (ds4_4) 87)] 229) Scr.nil)) ∧ True))) ∧ True)) ∧ (decide (max (max b e) g ≤ (256
 : Int)) = false → true = true)) ∧ (decide (min (min (min b e) g) d ≥ (0 : Int)) = false → true = true)) := by
  kernel_rfl
theorem ds4_run (a b c d e f g : Int) (k p q : Int) (hk : 0 ≤ k ∧ k ≤ 255) (hp : 0 ≤ p ∧ p ≤ 1023) (hq : 0 ≤ q ∧ q ≤ 1023) (hc : DsOk a b c d e f g) : Run (callN Try.prog (tblDS : List (Smry Try.prog XN)) (fun _ _ => false) 100 20 4 [.agg [.int false .u64 a, .int false .i64 b, .int false .u64 c, .int false .i64 d, .int false .i64 e, .int false .u64 f, .int false .i64 g], .agg [.int true .i64 4, .int false .i64 k (.w 0 255 hk), .int false .i64 p (.w 0 1023 hp), .int false .i64 q (.w 0 1023 hq)]] ⟨[], 1⟩ (.cut 4 (liveL [2, 3, 4, 5, 6, 8, 9, 11, 13, 131]) [] Unit (fun _ _ => ([], [])) .nil fun _ => .nil) (fun v _ _ => retTrue v)) := by
  constructor
  rw [ds4_vc]
  delta ds4_14 ds4_1 ds4_2 ds4_3 ds4_4 ds4_5 ds4_6 ds4_15 ds4_7 ds4_8 ds4_9 ds4_10 ds4_11 ds4_12 ds4_13
  obtain ⟨⟨⟨ha0, ha1⟩, ⟨hb0, hb1⟩, hc0, hc1⟩, ⟨hd0, hd1⟩, ⟨he0, he1⟩, ⟨hf0, hf1⟩, hg0, hg1⟩ := hc
  repeat' first
    | (refine fun (K : KO XN) => ?_; simp only [eq_self, true_and, and_true, imp_self, implies_true]; first | done | exact id; done)
    | with_reducible apply And.intro
    | with_reducible exact trivial
    | with_reducible exact Eq.refl _
    | (with_reducible refine Exists.intro () ?_)
    | (intro h; simp only [bne_self_eq_false, Bool.false_eq_true] at h; done)
    | intro _
  all_goals first
    | omega
    | with_reducible assumption
    | (simp only [decide_eq_true_eq, decide_eq_false_iff_not] at *; omega)
    | (simp_all; done)
end Go.Proofs.Ytnkikhhiaecebaa

/- DraftShares, code 7. -/
namespace Go.Proofs.Ytnkikhhiaecebaa
open Go Go.RowKit
set_option maxRecDepth 1000000
set_option maxHeartbeats 0
def ds7_14  : List SC := [SC.int true .u64 (0 : Int), SC.int true .u64 (0 : Int), SC.int true .u64 (0 : Int), SC.int true .u64 (0 : Int)]
def ds7_1 (a k : Int) : SF := SF.mk 50 (np 95 0 (nv (SV.agg [SC.int false .u64 a, SC.raw (Value.pointer none)]) (nu (nv (SV.c (tb false)) (nu (np 95 10 tn tn) nu0) (nu nu0 tn)) (nv
 (SV.c (SC.raw (Value.pointer none))) (nu (nv (SV.tup [(true, (ds7_14)), (false, [tb false])]) tn tn) tn) (nu nu0 tn))) (nu (nv (SV.c (tb false)) (nu (np 199 0 tn tn) nu0) (nu nu0
 tn)) (nu (nu (nv (SV.c (tb false)) tn tn) tn) (np 95 0 nu0 tn)))) (nv (SV.c (SC.int false .i64 (dkF k (0 : Int)) (Bd.w (0 : Int) (3 : Int) (dkF_bd k (Int.ofNat 0))))) (np 199 0 (np
 215 0 (nu (nv (SV.c (SC.map 93)) tn tn) nu0) (nu nu0 tn)) (nv (SV.c (tb false)) (nu (nv (SV.agg (ds7_14)) tn tn) tn) (nv (SV.tup [(true, (ds7_14)), (false, [tb false])]) nu0 tn)))
 (np 200 0 (np 199 1 (nu (nv (SV.c (SC.int false .u64 a)) tn tn) tn) (nu nu0 tn)) (nu (nu nu0 tn) (np 95 0 nu0 tn))))) []
def ds7_2 (k : Int) (hk : 0 ≤ k ∧ k ≤ 255) (p : Int) (hp : 0 ≤ p ∧ p ≤ 1023) (q : Int) (hq : 0 ≤ q ∧ q ≤ 1023) : List SC := [SC.int true .i64 (7 : Int), SC.int false .i64 k (Bd.w (0
 : Int) (255 : Int) hk), SC.int false .i64 p (Bd.w (0 : Int) (1023 : Int) hp), SC.int false .i64 q (Bd.w (0 : Int) (1023 : Int) hq)]
def ds7_3 (a b c d e f g : Int) : List SC := [SC.int false .u64 a, SC.int false .i64 b, SC.int false .u64 c, SC.int false .i64 d, SC.int false .i64 e, SC.int false .u64 f, SC.int
 false .i64 g]
def ds7_4  : List SC := [SC.int true .u64 (0 : Int), SC.int true .u64 (0 : Int), SC.int true .u64 (0 : Int), SC.int true .u64 (0 : Int)]
def ds7_5 (a k : Int) (hk : 0 ≤ k ∧ k ≤ 255) : SF := SF.mk 40 (np 95 0 (nv (SV.c (SC.int true .i64 (0 : Int))) (nu (nv (SV.c (tb false)) (np 95 7 (nv (SV.tup [(true, [SC.int true
 .u64 (0 : Int), SC.raw (Value.pointer none)]), (false, [tb false])]) tn tn) tn) (nv (SV.agg [SC.int false .u64 a, SC.raw (Value.pointer none)]) nu0 tn)) (nv (SV.c (tb false)) (nv
 (SV.agg [SC.int false .u64 a, SC.raw (Value.pointer none)]) nu0 tn) (nv (SV.agg [SC.int false .u64 a, SC.raw (Value.pointer none)]) tn tn))) (nu (nv (SV.c (SC.int true .i64 (0 :
 Int))) (np 83 0 (nv (SV.c (tb false)) tn tn) tn) (nv (SV.tup [(true, [SC.int true .u64 (0 : Int), SC.raw (Value.pointer none)]), (false, [tb false])]) tn tn)) (nv (SV.c (SC.int true
 .i64 (0 : Int))) (nv (SV.c (tb true)) nu0 tn) (nv (SV.c (SC.int true .i64 (0 : Int))) tn tn)))) (nv (SV.c (SC.int false .i64 k (Bd.w (0 : Int) (255 : Int) hk))) (nu (np 168 0 (np 95
 7 (nv (SV.agg [SC.int true .u64 (0 : Int), SC.raw (Value.pointer none)]) tn tn) tn) (nv (SV.c (tb false)) tn tn)) (np 95 0 (nv (SV.c (SC.int true .i64 (0 : Int))) nu0 tn) (nv (SV.c
 (SC.int false .i64 k (Bd.w (0 : Int) (255 : Int) hk))) tn tn))) (nv (SV.c (SC.int true .u64 (0 : Int))) (np 196 0 (np 83 0 nu0 tn) (np 95 0 tn tn)) (np 95 0 (nv (SV.c (SC.int true
 .i64 (0 : Int))) nu0 tn) (nv (SV.c (SC.int false .i64 (dkF k (0 : Int)) (Bd.w (0 : Int) (3 : Int) (dkF_bd k (Int.ofNat 0))))) tn tn))))) []
def ds7_6 (a c f b d e g : Int) (X0 : Prop) : Prop := a = a ∧ Value.pointer none = Value.pointer none ∧ c = c ∧ Value.pointer none = Value.pointer none ∧ f = f ∧ Value.pointer none
 = Value.pointer none ∧ ([] : List (Int × Value)) = [] ∧ a = a ∧ b = b ∧ c = c ∧ d = d ∧ e = e ∧ f = f ∧ g = g ∧ a = a ∧ Value.pointer none = Value.pointer none ∧ (X0 ∧ True) ∧ True
def ds7_15 (c f a b d e g : Int) (X1 : Prop) : Prop := Value.pointer none = Value.pointer none ∧ c = c ∧ Value.pointer none = Value.pointer none ∧ f = f ∧ Value.pointer none =
 Value.pointer none ∧ ([] : List (Int × Value)) = [] ∧ a = a ∧ b = b ∧ c = c ∧ d = d ∧ e = e ∧ f = f ∧ g = g ∧ a = a ∧ Value.pointer none = Value.pointer none ∧ X1 ∧ True
def ds7_7 (a c f b d e g : Int) (X0 : Prop) (k : Int) (hk : 0 ≤ k ∧ k ≤ 255) (p : Int) (hp : 0 ≤ p ∧ p ≤ 1023) (q : Int) (hq : 0 ≤ q ∧ q ≤ 1023) : Prop := a = a ∧ Value.pointer none
 = Value.pointer none ∧ c = c ∧ Value.pointer none = Value.pointer none ∧ f = f ∧ Value.pointer none = Value.pointer none ∧ ([] : List (Int × Value)) = [] ∧ a = a ∧ b = b ∧ c = c ∧ d
 = d ∧ e = e ∧ f = f ∧ g = g ∧ a = a ∧ Value.pointer none = Value.pointer none ∧ (((ds7_6 a c f b d e g X0) ∧ True) ∧ (∀ (K : KO XN), (fun X1 : Prop => (a = a ∧ ds7_15 c f a b d e g
 X1) ∧ True → ds7_6 a c f b d e g X1) (K (ds7_1 a k) (Mem.mk [(1, SO.cells (ds7_3 a b c d e f g) 75), (2, SO.cells (ds7_2 k hk p hp q hq) 77), (45, SO.cells (ds7_3 a b c d e f g)
 75), (51, SO.cells (ds7_3 a b c d e f g) 75), (83, SO.cells [SC.int false .u64 a, SC.raw (Value.pointer none)] 199), (87, SO.cells [SC.int false .u64 c, SC.raw (Value.pointer none)]
 199), (91, SO.cells [SC.int false .u64 f, SC.raw (Value.pointer none)] 199), (93, SO.mp true []), (95, SO.cells [SC.int false .u64 a, SC.int false .i64 b, SC.int false .u64 c,
 SC.int false .i64 d, SC.int false .i64 e, SC.int false .u64 f, SC.int false .i64 g, sp 83 0, sp 87 0, sp 91 0, SC.map 93, SC.nls, SC.nls, SC.nls, SC.int true .u64 (0 : Int)] 204),
 (109, SO.cells (ds7_2 k hk p hp q hq) 77), (110, SO.cells [SC.int true .i64 (0 : Int), SC.int true .i64 (0 : Int)] 82), (128, SO.cells [SC.int true .i64 (0 : Int), SC.int true .i64
 (0 : Int)] 82), (141, SO.cells (ds7_2 k hk p hp q hq) 77), (142, SO.cells [SC.int true .i64 (0 : Int), SC.int true .i64 (0 : Int)] 82), (168, SO.cells [SC.int false .u64 a, SC.raw
 (Value.pointer none)] 199), (176, SO.cells [SC.int false .u64 a, SC.raw (Value.pointer none)] 199), (196, SO.cells [SC.int true .u64 (0 : Int), SC.raw (Value.pointer none)] 199),
 (199, SO.cells [SC.int false .u64 a, SC.raw (Value.pointer none)] 199), (200, SO.cells [SC.int true .u64 (0 : Int), SC.raw (Value.pointer none)] 199), (215, SO.cells (ds7_4) 87)]
 205) Scr.nil)) ∧ True) ∧ True
def ds7_8 (a c f b d e g : Int) (X0 : Prop) : Prop := a = a ∧ ds7_15 c f a b d e g X0
def ds7_9 (a b c d e f g : Int) : List SC := [SC.int false .u64 a, SC.int false .i64 b, SC.int false .u64 c, SC.int false .i64 d, SC.int false .i64 e, SC.int false .u64 f, SC.int
 false .i64 g, sp 83 0, sp 87 0, sp 91 0, SC.map 93, SC.nls, SC.nls, SC.nls, SC.int true .u64 (0 : Int)]
def ds7_10 (c e d f g : Int) : Prop := ((c != c) = true → false = true) ∧ ((c != c) = false → ((e != e) = true → false = true) ∧ ((e != e) = false → ((d != d) = true → false = true)
 ∧ ((d != d) = false → ((f != f) = true → false = true) ∧ ((f != f) = false → ((g != g) = true → false = true) ∧ ((g != g) = false → true = true)))))
def ds7_11 (a c f b d e g k : Int) (hk : 0 ≤ k ∧ k ≤ 255) (p : Int) (hp : 0 ≤ p ∧ p ≤ 1023) (q : Int) (hq : 0 ≤ q ∧ q ≤ 1023) : Prop := ∀ (K : KO XN), (fun X1 : Prop => (ds7_8 a c f
 b d e g X1) ∧ True → ds7_6 a c f b d e g X1) (K (ds7_1 a k) (Mem.mk [(1, SO.cells (ds7_3 a b c d e f g) 75), (2, SO.cells (ds7_2 k hk p hp q hq) 77), (45, SO.cells (ds7_3 a b c d e
 f g) 75), (51, SO.cells (ds7_3 a b c d e f g) 75), (83, SO.cells [SC.int false .u64 a, SC.raw (Value.pointer none)] 199), (87, SO.cells [SC.int false .u64 c, SC.raw (Value.pointer
 none)] 199), (91, SO.cells [SC.int false .u64 f, SC.raw (Value.pointer none)] 199), (93, SO.mp true []), (95, SO.cells (ds7_9 a b c d e f g) 204), (109, SO.cells (ds7_2 k hk p hp q
 hq) 77), (110, SO.cells [SC.int true .i64 (0 : Int), SC.int true .i64 (0 : Int)] 82), (128, SO.cells [SC.int true .i64 (0 : Int), SC.int true .i64 (0 : Int)] 82), (141, SO.cells
 (ds7_2 k hk p hp q hq) 77), (142, SO.cells [SC.int true .i64 (0 : Int), SC.int true .i64 (0 : Int)] 82), (168, SO.cells [SC.int false .u64 a, SC.raw (Value.pointer none)] 199),
 (176, SO.cells [SC.int false .u64 a, SC.raw (Value.pointer none)] 199), (199, SO.cells [SC.int false .u64 a, SC.raw (Value.pointer none)] 199), (200, SO.cells [SC.int true .u64 (0 :
 Int), SC.raw (Value.pointer none)] 199), (215, SO.cells (ds7_4) 87)] 205) Scr.nil)
def ds7_12 (a c f b d e g : Int) (X0 : Prop) : Prop := (a = a ∧ Value.pointer none = Value.pointer none ∧ c = c ∧ Value.pointer none = Value.pointer none ∧ f = f ∧ Value.pointer
 none = Value.pointer none ∧ ([] : List (Int × Value)) = [] ∧ a = a ∧ b = b ∧ c = c ∧ d = d ∧ e = e ∧ f = f ∧ g = g ∧ a = a ∧ Value.pointer none = Value.pointer none ∧ ((X0 ∧ True) ∧
 True) ∧ True) ∧ True
def ds7_13 (a b c d e f g : Int) : List SC := [SC.int false .u64 a, SC.int false .i64 b, SC.int false .u64 c, SC.int false .i64 d, SC.int false .i64 e, SC.int false .u64 f, SC.int
 false .i64 g, sp 83 0, sp 87 0, sp 91 0, SC.map 93, SC.nls, SC.nls, SC.nls, SC.int false .u64 a]
/-- What the executor leaves to be shown of roundelay/roundelaylaw08.DraftShares, written out. -/
theorem ds7_vc (a b c d e f g : Int) (k p q : Int) (hk : 0 ≤ k ∧ k ≤ 255) (hp : 0 ≤ p ∧ p ≤ 1023) (hq : 0 ≤ q ∧ q ≤ 1023) : (callN Try.prog (tblDS : List (Smry Try.prog XN)) (fun _ _ => false) 100 20 4 [.agg [.int false .u64 a, .int false .i64 b, .int false .u64 c, .int false .i64 d, .int false .i64 e, .int false .u64 f, .int false .i64 g], .agg [.int true .i64 7, .int false .i64 k (.w 0 255 hk), .int false .i64 p (.w 0 1023 hp), .int false .i64 q (.w 0 1023 hq)]] ⟨[], 1⟩ (.cut 4 (liveL [2, 3, 4, 5, 6, 8, 9, 11, 13, 131]) [] Unit (fun _ _ => ([], [])) .nil fun _ => .nil) (fun v _ _ => retTrue v)) = (
 (((c == (0 : Int)) = true → (decide (e > (0 : Int)) = true → ∃ (y : Unit), a = a ∧ b = b ∧ c = c ∧ d = d ∧ e = e ∧ f = f ∧ g = g ∧ k = k ∧ p = p ∧ q = q ∧ True) ∧ (decide (e > (0 :
 Int)) = false → ∃ (y : Unit), a = a ∧ b = b ∧ c = c ∧ d = d ∧ e = e ∧ f = f ∧ g = g ∧ k = k ∧ p = p ∧ q = q ∧ True)) ∧ ((c == (0 : Int)) = false → ∃ (y : Unit), a = a ∧ b = b ∧ c =
 c ∧ d = d ∧ e = e ∧ f = f ∧ g = g ∧ k = k ∧ p = p ∧ q = q ∧ True)) ∧ ∀ (y : Unit) (ρ : Nat → Value), (decide (min (min (min b e) g) d ≥ (0 : Int)) = true → (decide (max (max b e) g
 ≤ (256 : Int)) = true → ((!decide (d < (256 : Int))) = true → true = true) ∧ ((!decide (d < (256 : Int))) = false → True ∧ (∀ (z : Un), True → ((!decide (RightO (7 : Int) k p q)) =
 true → ds7_10 c e d f g) ∧ ((!decide (RightO (7 : Int) k p q)) = false → ((a == (0 : Int)) = true → ds7_10 c e d f g) ∧ ((a == (0 : Int)) = false → (True ∧ (∀ (z : Un), True → a = a
 ∧ Value.pointer none = Value.pointer none ∧ c = c ∧ Value.pointer none = Value.pointer none ∧ f = f ∧ Value.pointer none = Value.pointer none ∧ ([] : List (Int × Value)) = [] ∧ a =
 a ∧ b = b ∧ c = c ∧ d = d ∧ e = e ∧ f = f ∧ g = g ∧ a = a ∧ Value.pointer none = Value.pointer none ∧ (((a = a ∧ Value.pointer none = Value.pointer none ∧ c = c ∧ Value.pointer none
 = Value.pointer none ∧ f = f ∧ Value.pointer none = Value.pointer none ∧ ([] : List (Int × Value)) = [] ∧ a = a ∧ b = b ∧ c = c ∧ d = d ∧ e = e ∧ f = f ∧ g = g ∧ a = a ∧
 Value.pointer none = Value.pointer none ∧ (((((a != (0 : Int)) = true → (a = a ∧ Value.pointer none = Value.pointer none ∧ c = c ∧ Value.pointer none = Value.pointer none ∧ f = f ∧
 Value.pointer none = Value.pointer none ∧ ([] : List (Int × Value)) = [] ∧ a = a ∧ b = b ∧ c = c ∧ d = d ∧ e = e ∧ f = f ∧ g = g ∧ a = a ∧ ((a != (0 : Int)) = true → ((true == (a ==
 a && (b == b && (c == c && (d == d && (e == e && (f == f && (g == g && true)))))))) = true → true = true) ∧ ((true == (a == a && (b == b && (c == c && (d == d && (e == e && (f == f
 && (g == g && true)))))))) = false → false = true)) ∧ ((a != (0 : Int)) = false → ds7_10 c e d f g)) ∧ True) ∧ ((a != (0 : Int)) = false → ds7_10 c e d f g)) ∧ True) ∧ True) ∧ True)
 ∧ True) ∧ (∀ (K : KO XN), (fun X0 : Prop => (ds7_8 a c f b d e g X0) ∧ True → ds7_6 a c f b d e g X0) (K (ds7_1 a k) (Mem.mk [(1, SO.cells (ds7_3 a b c d e f g) 75), (2, SO.cells
 (ds7_2 k hk p hp q hq) 77), (45, SO.cells (ds7_3 a b c d e f g) 75), (51, SO.cells (ds7_3 a b c d e f g) 75), (83, SO.cells [SC.int false .u64 a, SC.raw (Value.pointer none)] 199),
 (87, SO.cells [SC.int false .u64 c, SC.raw (Value.pointer none)] 199), (91, SO.cells [SC.int false .u64 f, SC.raw (Value.pointer none)] 199), (93, SO.mp true []), (95, SO.cells
 (ds7_9 a b c d e f g) 204), (109, SO.cells (ds7_2 k hk p hp q hq) 77), (110, SO.cells [SC.int true .i64 (0 : Int), SC.int true .i64 (0 : Int)] 82), (128, SO.cells [SC.int true .i64
 (0 : Int), SC.int true .i64 (0 : Int)] 82), (141, SO.cells (ds7_2 k hk p hp q hq) 77), (142, SO.cells [SC.int true .i64 (0 : Int), SC.int true .i64 (0 : Int)] 82), (168, SO.cells
 [SC.int false .u64 a, SC.raw (Value.pointer none)] 199), (176, SO.cells [SC.int false .u64 a, SC.raw (Value.pointer none)] 199), (199, SO.cells [SC.int false .u64 a, SC.raw
 (Value.pointer none)] 199), (200, SO.cells [SC.int true .u64 (0 : Int), SC.raw (Value.pointer none)] 199), (215, SO.cells (ds7_4) 87)] 205) Scr.nil)) ∧ True) ∧ (∀ (K : KO XN), (fun
 X0 : Prop => (ds7_12 a c f b d e g X0) ∧ (ds7_11 a c f b d e g k hk p hp q hq) ∧ True → ds7_7 a c f b d e g X0 k hk p hp q hq) (K (ds7_5 a k hk) (Mem.mk [(1, SO.cells (ds7_3 a b c d
 e f g) 75), (2, SO.cells (ds7_2 k hk p hp q hq) 77), (45, SO.cells (ds7_3 a b c d e f g) 75), (51, SO.cells (ds7_3 a b c d e f g) 75), (83, SO.cells [SC.int false .u64 a, SC.raw
 (Value.pointer none)] 199), (87, SO.cells [SC.int false .u64 c, SC.raw (Value.pointer none)] 199), (91, SO.cells [SC.int false .u64 f, SC.raw (Value.pointer none)] 199), (93, SO.mp
 true []), (95, SO.cells (ds7_13 a b c d e f g) 204), (109, SO.cells (ds7_2 k hk p hp q hq) 77), (110, SO.cells [SC.int true .i64 (0 : Int), SC.int true .i64 (0 : Int)] 82), (128,
 SO.cells [SC.int true .i64 (0 : Int), SC.int true .i64 (0 : Int)] 82), (141, SO.cells (ds7_2 k hk p hp q hq) 77), (142, SO.cells [SC.int true .i64 (0 : Int), SC.int true .i64 (0 :
 Int)] 82), (168, SO.cells [SC.int false .u64 a, SC.raw (Value.pointer none)] 199), (176, SO.cells [SC.int false .u64 a, SC.raw (Value.pointer none)] 199), (196, SO.cells [SC.int
 true .u64 (0 : Int), SC.raw (Value.pointer none)] 199), (199, SO.cells [SC.int false .u64 a, SC.raw (Value.pointer none)] 199), (200, SO.cells [SC.int true .u64 (0 : Int), SC.raw
 (Value.pointer none)] 199), (215, SO.cells (ds7_4) 87)] 229) Scr.nil)) ∧ True) ∧ True) ∧ (∀ (K : KO XN), (fun X0 : Prop => True ∧ (∀ (z : Un), True → a = a ∧ Value.pointer none =
 Value.pointer none ∧ c = c ∧ Value.pointer none = Value.pointer none ∧ f = f ∧ Value.pointer none = Value.pointer none ∧ ([] : List (Int × Value)) = [] ∧ a = a ∧ b = b ∧ c = c ∧ d =
 d ∧ e = e ∧ f = f ∧ g = g ∧ a = a ∧ Value.pointer none = Value.pointer none ∧ ((ds7_12 a c f b d e g X0) ∧ (ds7_11 a c f b d e g k hk p hp q hq) ∧ True) ∧ (∀ (K : KO XN), (fun X1 :
 Prop => (ds7_12 a c f b d e g X1) ∧ (∀ (K : KO XN), (fun X2 : Prop => (ds7_8 a c f b d e g X2) ∧ True → ds7_6 a c f b d e g X2) (K (ds7_1 a k) (Mem.mk [(1, SO.cells (ds7_3 a b c d e
 f g) 75), (2, SO.cells (ds7_2 k hk p hp q hq) 77), (45, SO.cells (ds7_3 a b c d e f g) 75), (51, SO.cells (ds7_3 a b c d e f g) 75), (83, SO.cells [SC.int false .u64 a, SC.raw
 (Value.pointer none)] 199), (87, SO.cells [SC.int false .u64 c, SC.raw (Value.pointer none)] 199), (91, SO.cells [SC.int false .u64 f, SC.raw (Value.pointer none)] 199), (93, SO.mp
 true []), (95, SO.cells (ds7_9 a b c d e f g) 204), (109, SO.cells (ds7_2 k hk p hp q hq) 77), (110, SO.cells [SC.int true .i64 (0 : Int), SC.int true .i64 (0 : Int)] 82), (128,
 SO.cells [SC.int true .i64 (0 : Int), SC.int true .i64 (0 : Int)] 82), (141, SO.cells (ds7_2 k hk p hp q hq) 77), (142, SO.cells [SC.int true .i64 (0 : Int), SC.int true .i64 (0 :
 Int)] 82), (168, SO.cells [SC.int false .u64 a, SC.raw (Value.pointer none)] 199), (176, SO.cells [SC.int false .u64 a, SC.raw (Value.pointer none)] 199), (199, SO.cells [SC.int
 false .u64 a, SC.raw (Value.pointer none)] 199), (200, SO.cells [SC.int true .u64 (0 : Int), SC.raw (Value.pointer none)] 199), (215, SO.cells (ds7_4) 87)] 205) Scr.nil)) ∧ True → a
 = a ∧ Value.pointer none = Value.pointer none ∧ c = c ∧ Value.pointer none = Value.pointer none ∧ f = f ∧ Value.pointer none = Value.pointer none ∧ ([] : List (Int × Value)) = [] ∧
 a = a ∧ b = b ∧ c = c ∧ d = d ∧ e = e ∧ f = f ∧ g = g ∧ a = a ∧ Value.pointer none = Value.pointer none ∧ (((ds7_6 a c f b d e g X1) ∧ True) ∧ (∀ (K : KO XN), (fun X2 : Prop =>
 (ds7_8 a c f b d e g X2) ∧ True → ds7_6 a c f b d e g X2) (K (ds7_1 a k) (Mem.mk [(1, SO.cells (ds7_3 a b c d e f g) 75), (2, SO.cells (ds7_2 k hk p hp q hq) 77), (45, SO.cells
 (ds7_3 a b c d e f g) 75), (51, SO.cells (ds7_3 a b c d e f g) 75), (83, SO.cells [SC.int false .u64 a, SC.raw (Value.pointer none)] 199), (87, SO.cells [SC.int false .u64 c, SC.raw
 (Value.pointer none)] 199), (91, SO.cells [SC.int false .u64 f, SC.raw (Value.pointer none)] 199), (93, SO.mp true []), (95, SO.cells (ds7_9 a b c d e f g) 204), (109, SO.cells
 (ds7_2 k hk p hp q hq) 77), (110, SO.cells [SC.int true .i64 (0 : Int), SC.int true .i64 (0 : Int)] 82), (128, SO.cells [SC.int true .i64 (0 : Int), SC.int true .i64 (0 : Int)] 82),
 (141, SO.cells (ds7_2 k hk p hp q hq) 77), (142, SO.cells [SC.int true .i64 (0 : Int), SC.int true .i64 (0 : Int)] 82), (168, SO.cells [SC.int false .u64 a, SC.raw (Value.pointer
 none)] 199), (176, SO.cells [SC.int false .u64 a, SC.raw (Value.pointer none)] 199), (196, SO.cells [SC.int true .u64 (0 : Int), SC.raw (Value.pointer none)] 199), (199, SO.cells
 [SC.int false .u64 a, SC.raw (Value.pointer none)] 199), (200, SO.cells [SC.int true .u64 (0 : Int), SC.raw (Value.pointer none)] 199), (215, SO.cells (ds7_4) 87)] 205) Scr.nil)) ∧
 True) ∧ True) (K (ds7_5 a k hk) (Mem.mk [(1, SO.cells (ds7_3 a b c d e f g) 75), (2, SO.cells (ds7_2 k hk p hp q hq) 77), (45, SO.cells (ds7_3 a b c d e f g) 75), (51, SO.cells
 (ds7_3 a b c d e f g) 75), (83, SO.cells [SC.int false .u64 a, SC.raw (Value.pointer none)] 199), (87, SO.cells [SC.int false .u64 c, SC.raw (Value.pointer none)] 199), (91,
 SO.cells [SC.int false .u64 f, SC.raw (Value.pointer none)] 199), (93, SO.mp true []), (95, SO.cells (ds7_13 a b c d e f g) 204), (109, SO.cells (ds7_2 k hk p hp q hq) 77), (110,
 SO.cells [SC.int true .i64 (0 : Int), SC.int true .i64 (0 : Int)] 82), (128, SO.cells [SC.int true .i64 (0 : Int), SC.int true .i64 (0 : Int)] 82), (141, SO.cells (ds7_2 k hk p hp q
 hq) 77), (142, SO.cells [SC.int true .i64 (0 : Int), SC.int true .i64 (0 : Int)] 82), (168, SO.cells [SC.int false .u64 a, SC.raw (Value.pointer none)] 199), (176, SO.cells [SC.int
 false .u64 a, SC.raw (Value.pointer none)] 199), (196, SO.cells [SC.int true .u64 (0 : Int), SC.raw (Value.pointer none)] 199), (199, SO.cells [SC.int false .u64 a, SC.raw
 (Value.pointer none)] 199), (200, SO.cells [SC.int true .u64 (0 : Int), SC.raw (Value.pointer none)] 199), (215, SO.cells (ds7_4) 87)] 229) Scr.nil)) ∧ True) ∧ True → a = a ∧
 Value.pointer none = Value.pointer none ∧ c = c ∧ Value.pointer none = Value.pointer none ∧ f = f ∧ Value.pointer none = Value.pointer none ∧ ([] : List (Int × Value)) = [] ∧ a = a
 ∧ b = b ∧ c = c ∧ d = d ∧ e = e ∧ f = f ∧ g = g ∧ a = a ∧ Value.pointer none = Value.pointer none ∧ (True ∧ (∀ (z : Un), True → ds7_7 a c f b d e g X0 k hk p hp q hq) ∧ True) ∧
 True) (K (ds7_5 a k hk) (Mem.mk [(1, SO.cells (ds7_3 a b c d e f g) 75), (2, SO.cells (ds7_2 k hk p hp q hq) 77), (45, SO.cells (ds7_3 a b c d e f g) 75), (51, SO.cells (ds7_3 a b c
 d e f g) 75), (83, SO.cells [SC.int false .u64 a, SC.raw (Value.pointer none)] 199), (87, SO.cells [SC.int false .u64 c, SC.raw (Value.pointer none)] 199), (91, SO.cells [SC.int
 false .u64 f, SC.raw (Value.pointer none)] 199), (93, SO.mp true []), (95, SO.cells (ds7_13 a b c d e f g) 204), (109, SO.cells (ds7_2 k hk p hp q hq) 77), (110, SO.cells [SC.int
 true .i64 (0 : Int), SC.int true .i64 (0 : Int)] 82), (128, SO.cells [SC.int true .i64 (0 : Int), SC.int true .i64 (0 : Int)] 82), (141, SO.cells (ds7_2 k hk p hp q hq) 77), (142,
 SO.cells [SC.int true .i64 (0 : Int), SC.int true .i64 (0 : Int)] 82), (168, SO.cells [SC.int false .u64 a, SC.raw (Value.pointer none)] 199), (176, SO.cells [SC.int false .u64 a,
 SC.raw (Value.pointer none)] 199), (196, SO.cells [SC.int true .u64 (0 : Int), SC.raw (Value.pointer none)] 199), (199, SO.cells [SC.int false .u64 a, SC.raw (Value.pointer none)]
 199), (200, SO.cells [SC.int true .u64 (0 : Int), SC.raw (Value.pointer none)] 199), (215, SO.cells (ds7_4) 87)] 229) Scr.nil)) ∧ True))) ∧ True)) ∧ (decide (max (max b e) g ≤ (256
 : Int)) = false → true = true)) ∧ (decide (min (min (min b e) g) d ≥ (0 : Int)) = false → true = true)) := by
  kernel_rfl
theorem ds7_run (a b c d e f g : Int) (k p q : Int) (hk : 0 ≤ k ∧ k ≤ 255) (hp : 0 ≤ p ∧ p ≤ 1023) (hq : 0 ≤ q ∧ q ≤ 1023) (hc : DsOk a b c d e f g) : Run (callN Try.prog (tblDS : List (Smry Try.prog XN)) (fun _ _ => false) 100 20 4 [.agg [.int false .u64 a, .int false .i64 b, .int false .u64 c, .int false .i64 d, .int false .i64 e, .int false .u64 f, .int false .i64 g], .agg [.int true .i64 7, .int false .i64 k (.w 0 255 hk), .int false .i64 p (.w 0 1023 hp), .int false .i64 q (.w 0 1023 hq)]] ⟨[], 1⟩ (.cut 4 (liveL [2, 3, 4, 5, 6, 8, 9, 11, 13, 131]) [] Unit (fun _ _ => ([], [])) .nil fun _ => .nil) (fun v _ _ => retTrue v)) := by
  constructor
  rw [ds7_vc]
  delta ds7_14 ds7_1 ds7_2 ds7_3 ds7_4 ds7_5 ds7_6 ds7_15 ds7_7 ds7_8 ds7_9 ds7_10 ds7_11 ds7_12 ds7_13
  obtain ⟨⟨⟨ha0, ha1⟩, ⟨hb0, hb1⟩, hc0, hc1⟩, ⟨hd0, hd1⟩, ⟨he0, he1⟩, ⟨hf0, hf1⟩, hg0, hg1⟩ := hc
  repeat' first
    | (refine fun (K : KO XN) => ?_; simp only [eq_self, true_and, and_true, imp_self, implies_true]; first | done | exact id; done)
    | with_reducible apply And.intro
    | with_reducible exact trivial
    | with_reducible exact Eq.refl _
    | (with_reducible refine Exists.intro () ?_)
    | (intro h; simp only [bne_self_eq_false, Bool.false_eq_true] at h; done)
    | intro _
  all_goals first
    | omega
    | with_reducible assumption
    | (simp only [decide_eq_true_eq, decide_eq_false_iff_not] at *; omega)
    | (simp_all; done)
end Go.Proofs.Ytnkikhhiaecebaa

/- DraftShares, code 8. -/
namespace Go.Proofs.Ytnkikhhiaecebaa
open Go Go.RowKit
set_option maxRecDepth 1000000
set_option maxHeartbeats 0
/-- What the executor leaves to be shown of roundelay/roundelaylaw08.DraftShares, written out. -/
theorem ds8_vc (a b c d e f g : Int) (k p q : Int) (hk : 0 ≤ k ∧ k ≤ 255) (hp : 0 ≤ p ∧ p ≤ 1023) (hq : 0 ≤ q ∧ q ≤ 1023) : (callN Try.prog (tblDS : List (Smry Try.prog XN)) (fun _ _ => false) 100 20 4 [.agg [.int false .u64 a, .int false .i64 b, .int false .u64 c, .int false .i64 d, .int false .i64 e, .int false .u64 f, .int false .i64 g], .agg [.int true .i64 8, .int false .i64 k (.w 0 255 hk), .int false .i64 p (.w 0 1023 hp), .int false .i64 q (.w 0 1023 hq)]] ⟨[], 1⟩ (.cut 4 (liveL [2, 3, 4, 5, 6, 8, 9, 11, 13, 131]) [] Unit (fun _ _ => ([], [])) .nil fun _ => .nil) (fun v _ _ => retTrue v)) = (
    (((c == (0 : Int)) = true → (decide (e > (0 : Int)) = true → ∃ (y : Unit), a = a ∧ b = b ∧ c = c ∧ d = d ∧ e = e ∧ f = f ∧ g = g ∧ k = k ∧ p = p ∧ q = q ∧ True) ∧ (decide (e > (0 :
    Int)) = false → ∃ (y : Unit), a = a ∧ b = b ∧ c = c ∧ d = d ∧ e = e ∧ f = f ∧ g = g ∧ k = k ∧ p = p ∧ q = q ∧ True)) ∧ ((c == (0 : Int)) = false → ∃ (y : Unit), a = a ∧ b = b ∧ c =
    c ∧ d = d ∧ e = e ∧ f = f ∧ g = g ∧ k = k ∧ p = p ∧ q = q ∧ True)) ∧ ∀ (y : Unit) (ρ : Nat → Value), (decide (min (min (min b e) g) d ≥ (0 : Int)) = true → (decide (max (max b e) g
    ≤ (256 : Int)) = true → ((!decide (d < (256 : Int))) = true → true = true) ∧ ((!decide (d < (256 : Int))) = false → True ∧ (∀ (z : Un), True → ((!decide (RightO (8 : Int) k p q)) =
    true → ((c != c) = true → false = true) ∧ ((c != c) = false → ((e != e) = true → false = true) ∧ ((e != e) = false → ((d != d) = true → false = true) ∧ ((d != d) = false → ((f != f)
    = true → false = true) ∧ ((f != f) = false → ((g != g) = true → false = true) ∧ ((g != g) = false → ((true == (a == a && (b == b && (c == c && (d == d && (e == e && (f == f && (g ==
    g && true)))))))) = true → true = true) ∧ ((true == (a == a && (b == b && (c == c && (d == d && (e == e && (f == f && (g == g && true)))))))) = false → false = true))))))) ∧
    ((!decide (RightO (8 : Int) k p q)) = false → ((c != c) = true → false = true) ∧ ((c != c) = false → ((e != e) = true → false = true) ∧ ((e != e) = false → ((d != d) = true → false
    = true) ∧ ((d != d) = false → ((f != f) = true → false = true) ∧ ((f != f) = false → ((g != g) = true → false = true) ∧ ((g != g) = false → ((true == (a == a && (b == b && (c == c
    && (d == d && (e == e && (f == f && (g == g && true)))))))) = true → true = true) ∧ ((true == (a == a && (b == b && (c == c && (d == d && (e == e && (f == f && (g == g &&
    true)))))))) = false → false = true)))))))) ∧ True)) ∧ (decide (max (max b e) g ≤ (256 : Int)) = false → true = true)) ∧ (decide (min (min (min b e) g) d ≥ (0 : Int)) = false → true
    = true)) := by
  kernel_rfl
theorem ds8_run (a b c d e f g : Int) (k p q : Int) (hk : 0 ≤ k ∧ k ≤ 255) (hp : 0 ≤ p ∧ p ≤ 1023) (hq : 0 ≤ q ∧ q ≤ 1023) (hc : DsOk a b c d e f g) : Run (callN Try.prog (tblDS : List (Smry Try.prog XN)) (fun _ _ => false) 100 20 4 [.agg [.int false .u64 a, .int false .i64 b, .int false .u64 c, .int false .i64 d, .int false .i64 e, .int false .u64 f, .int false .i64 g], .agg [.int true .i64 8, .int false .i64 k (.w 0 255 hk), .int false .i64 p (.w 0 1023 hp), .int false .i64 q (.w 0 1023 hq)]] ⟨[], 1⟩ (.cut 4 (liveL [2, 3, 4, 5, 6, 8, 9, 11, 13, 131]) [] Unit (fun _ _ => ([], [])) .nil fun _ => .nil) (fun v _ _ => retTrue v)) := by
  constructor
  rw [ds8_vc]
  obtain ⟨⟨⟨ha0, ha1⟩, ⟨hb0, hb1⟩, hc0, hc1⟩, ⟨hd0, hd1⟩, ⟨he0, he1⟩, ⟨hf0, hf1⟩, hg0, hg1⟩ := hc
  repeat' first
    | (refine fun (K : KO XN) => ?_; simp only [eq_self, true_and, and_true, imp_self, implies_true]; first | done | exact id; done)
    | with_reducible apply And.intro
    | with_reducible exact trivial
    | with_reducible exact Eq.refl _
    | (with_reducible refine Exists.intro () ?_)
    | (intro h; simp only [bne_self_eq_false, Bool.false_eq_true] at h; done)
    | intro _
  all_goals first
    | omega
    | with_reducible assumption
    | (simp only [Bool.not_eq_false', Bool.not_eq_true', decide_eq_true_eq, decide_eq_false_iff_not] at *; omega)
    | (simp_all; done)
end Go.Proofs.Ytnkikhhiaecebaa

/- DraftShares, code 9. -/
namespace Go.Proofs.Ytnkikhhiaecebaa
open Go Go.RowKit
set_option maxRecDepth 1000000
set_option maxHeartbeats 0
def ds9_1 (c e d f g a b : Int) : Prop := ((c != c) = true → false = true) ∧ ((c != c) = false → ((e != e) = true → false = true) ∧ ((e != e) = false → ((d != d) = true → false =
 true) ∧ ((d != d) = false → ((f != f) = true → false = true) ∧ ((f != f) = false → ((g != g) = true → false = true) ∧ ((g != g) = false → ((true == (a == a && (b == b && (c == c &&
 (d == d && (e == e && (f == f && (g == g && true)))))))) = true → true = true) ∧ ((true == (a == a && (b == b && (c == c && (d == d && (e == e && (f == f && (g == g && true))))))))
 = false → false = true))))))
def ds9_2  : List SC := [SC.int true .u64 (0 : Int), SC.int true .u64 (0 : Int), SC.int true .u64 (0 : Int), SC.int true .u64 (0 : Int)]
def ds9_3 (k : Int) (hk : 0 ≤ k ∧ k ≤ 255) (p : Int) (hp : 0 ≤ p ∧ p ≤ 1023) (q : Int) (hq : 0 ≤ q ∧ q ≤ 1023) : List SC := [SC.int true .i64 (9 : Int), SC.int false .i64 k (Bd.w (0
 : Int) (255 : Int) hk), SC.int false .i64 p (Bd.w (0 : Int) (1023 : Int) hp), SC.int false .i64 q (Bd.w (0 : Int) (1023 : Int) hq)]
def ds9_4 (a b c d e f g : Int) : List SC := [SC.int false .u64 a, SC.int false .i64 b, SC.int false .u64 c, SC.int false .i64 d, SC.int false .i64 e, SC.int false .u64 f, SC.int
 false .i64 g]
/-- What the executor leaves to be shown of roundelay/roundelaylaw08.DraftShares, written out. -/
theorem ds9_vc (a b c d e f g : Int) (k p q : Int) (hk : 0 ≤ k ∧ k ≤ 255) (hp : 0 ≤ p ∧ p ≤ 1023) (hq : 0 ≤ q ∧ q ≤ 1023) : (callN Try.prog (tblDS : List (Smry Try.prog XN)) (fun _ _ => false) 100 20 4 [.agg [.int false .u64 a, .int false .i64 b, .int false .u64 c, .int false .i64 d, .int false .i64 e, .int false .u64 f, .int false .i64 g], .agg [.int true .i64 9, .int false .i64 k (.w 0 255 hk), .int false .i64 p (.w 0 1023 hp), .int false .i64 q (.w 0 1023 hq)]] ⟨[], 1⟩ (.cut 4 (liveL [2, 3, 4, 5, 6, 8, 9, 11, 13, 131]) [] Unit (fun _ _ => ([], [])) .nil fun _ => .nil) (fun v _ _ => retTrue v)) = (
 (((c == (0 : Int)) = true → (decide (e > (0 : Int)) = true → ∃ (y : Unit), a = a ∧ b = b ∧ c = c ∧ d = d ∧ e = e ∧ f = f ∧ g = g ∧ k = k ∧ p = p ∧ q = q ∧ True) ∧ (decide (e > (0 :
 Int)) = false → ∃ (y : Unit), a = a ∧ b = b ∧ c = c ∧ d = d ∧ e = e ∧ f = f ∧ g = g ∧ k = k ∧ p = p ∧ q = q ∧ True)) ∧ ((c == (0 : Int)) = false → ∃ (y : Unit), a = a ∧ b = b ∧ c =
 c ∧ d = d ∧ e = e ∧ f = f ∧ g = g ∧ k = k ∧ p = p ∧ q = q ∧ True)) ∧ ∀ (y : Unit) (ρ : Nat → Value), (decide (min (min (min b e) g) d ≥ (0 : Int)) = true → (decide (max (max b e) g
 ≤ (256 : Int)) = true → ((!decide (d < (256 : Int))) = true → true = true) ∧ ((!decide (d < (256 : Int))) = false → True ∧ (∀ (z : Un), True → ((!decide (RightO (9 : Int) k p q)) =
 true → ds9_1 c e d f g a b) ∧ ((!decide (RightO (9 : Int) k p q)) = false → ((a == (0 : Int)) = true → ds9_1 c e d f g a b) ∧ ((a == (0 : Int)) = false → True ∧ (∀ (z : Un), True →
 ((a = a ∧ Value.pointer none = Value.pointer none ∧ c = c ∧ Value.pointer none = Value.pointer none ∧ f = f ∧ Value.pointer none = Value.pointer none ∧ ([] : List (Int × Value)) =
 [] ∧ a = a ∧ b = b ∧ c = c ∧ d = d ∧ e = e ∧ f = f ∧ g = g ∧ a = a ∧ Value.pointer none = Value.pointer none ∧ (((a != (0 : Int)) = true → (a = a ∧ Value.pointer none =
 Value.pointer none ∧ c = c ∧ Value.pointer none = Value.pointer none ∧ f = f ∧ Value.pointer none = Value.pointer none ∧ ([] : List (Int × Value)) = [] ∧ a = a ∧ b = b ∧ c = c ∧ d =
 d ∧ e = e ∧ f = f ∧ g = g ∧ a = a ∧ ((a != (0 : Int)) = true → ((true == (a == a && (b == b && (c == c && (d == d && (e == e && (f == f && (g == g && true)))))))) = true → true =
 true) ∧ ((true == (a == a && (b == b && (c == c && (d == d && (e == e && (f == f && (g == g && true)))))))) = false → false = true)) ∧ ((a != (0 : Int)) = false → ds9_1 c e d f g a
 b)) ∧ True) ∧ ((a != (0 : Int)) = false → ds9_1 c e d f g a b)) ∧ True) ∧ True) ∧ (∀ (K : KO XN), (fun X0 : Prop => (a = a ∧ Value.pointer none = Value.pointer none ∧ c = c ∧
 Value.pointer none = Value.pointer none ∧ f = f ∧ Value.pointer none = Value.pointer none ∧ ([] : List (Int × Value)) = [] ∧ a = a ∧ b = b ∧ c = c ∧ d = d ∧ e = e ∧ f = f ∧ g = g ∧
 a = a ∧ Value.pointer none = Value.pointer none ∧ X0 ∧ True) ∧ True → a = a ∧ Value.pointer none = Value.pointer none ∧ c = c ∧ Value.pointer none = Value.pointer none ∧ f = f ∧
 Value.pointer none = Value.pointer none ∧ ([] : List (Int × Value)) = [] ∧ a = a ∧ b = b ∧ c = c ∧ d = d ∧ e = e ∧ f = f ∧ g = g ∧ a = a ∧ Value.pointer none = Value.pointer none ∧
 (X0 ∧ True) ∧ True) (K (SF.mk 50 (np 95 0 (nv (SV.agg [SC.int false .u64 a, SC.raw (Value.pointer none)]) (nu (nv (SV.c (tb false)) (nu (np 95 10 tn tn) nu0) (nu nu0 tn)) (nv (SV.c
 (SC.raw (Value.pointer none))) (nu (nv (SV.tup [(true, (ds9_2)), (false, [tb false])]) tn tn) tn) (nu nu0 tn))) (nu (nv (SV.c (tb false)) (nu (np 209 0 tn tn) nu0) (nu nu0 tn)) (nu
 (nu (nv (SV.c (tb false)) tn tn) tn) (np 95 0 nu0 tn)))) (nv (SV.c (SC.int false .i64 (dkF k (0 : Int)) (Bd.w (0 : Int) (3 : Int) (dkF_bd k (Int.ofNat 0))))) (np 209 0 (np 225 0 (nu
 (nv (SV.c (SC.map 93)) tn tn) nu0) (nu nu0 tn)) (nv (SV.c (tb false)) (nu (nv (SV.agg (ds9_2)) tn tn) tn) (nv (SV.tup [(true, (ds9_2)), (false, [tb false])]) nu0 tn))) (np 210 0 (np
 209 1 (nu (nv (SV.c (SC.int false .u64 a)) tn tn) tn) (nu nu0 tn)) (nu (nu nu0 tn) (np 95 0 nu0 tn))))) []) (Mem.mk [(1, SO.cells (ds9_4 a b c d e f g) 75), (2, SO.cells (ds9_3 k hk
 p hp q hq) 77), (45, SO.cells (ds9_4 a b c d e f g) 75), (51, SO.cells (ds9_4 a b c d e f g) 75), (83, SO.cells [SC.int false .u64 a, SC.raw (Value.pointer none)] 199), (87,
 SO.cells [SC.int false .u64 c, SC.raw (Value.pointer none)] 199), (91, SO.cells [SC.int false .u64 f, SC.raw (Value.pointer none)] 199), (93, SO.mp true []), (95, SO.cells [SC.int
 false .u64 a, SC.int false .i64 b, SC.int false .u64 c, SC.int false .i64 d, SC.int false .i64 e, SC.int false .u64 f, SC.int false .i64 g, sp 83 0, sp 87 0, sp 91 0, SC.map 93,
 SC.nls, SC.nls, SC.nls, SC.int true .u64 (0 : Int)] 204), (109, SO.cells (ds9_3 k hk p hp q hq) 77), (110, SO.cells [SC.int true .i64 (0 : Int), SC.int true .i64 (0 : Int)] 82),
 (128, SO.cells [SC.int true .i64 (0 : Int), SC.int true .i64 (0 : Int)] 82), (141, SO.cells (ds9_3 k hk p hp q hq) 77), (142, SO.cells [SC.int true .i64 (0 : Int), SC.int true .i64
 (0 : Int)] 82), (156, SO.cells [SC.int false .u64 a, SC.raw (Value.pointer none)] 199), (160, SO.cells [SC.int false .u64 a, SC.raw (Value.pointer none)] 199), (183, SO.cells
 [SC.int false .u64 a, SC.raw (Value.pointer none)] 199), (209, SO.cells [SC.int false .u64 a, SC.raw (Value.pointer none)] 199), (210, SO.cells [SC.int true .u64 (0 : Int), SC.raw
 (Value.pointer none)] 199), (225, SO.cells (ds9_2) 87)] 215) Scr.nil)) ∧ True) ∧ True))) ∧ True)) ∧ (decide (max (max b e) g ≤ (256 : Int)) = false → true = true)) ∧ (decide (min
 (min (min b e) g) d ≥ (0 : Int)) = false → true = true)) := by
  kernel_rfl
theorem ds9_run (a b c d e f g : Int) (k p q : Int) (hk : 0 ≤ k ∧ k ≤ 255) (hp : 0 ≤ p ∧ p ≤ 1023) (hq : 0 ≤ q ∧ q ≤ 1023) (hc : DsOk a b c d e f g) : Run (callN Try.prog (tblDS : List (Smry Try.prog XN)) (fun _ _ => false) 100 20 4 [.agg [.int false .u64 a, .int false .i64 b, .int false .u64 c, .int false .i64 d, .int false .i64 e, .int false .u64 f, .int false .i64 g], .agg [.int true .i64 9, .int false .i64 k (.w 0 255 hk), .int false .i64 p (.w 0 1023 hp), .int false .i64 q (.w 0 1023 hq)]] ⟨[], 1⟩ (.cut 4 (liveL [2, 3, 4, 5, 6, 8, 9, 11, 13, 131]) [] Unit (fun _ _ => ([], [])) .nil fun _ => .nil) (fun v _ _ => retTrue v)) := by
  constructor
  rw [ds9_vc]
  delta ds9_1 ds9_2 ds9_3 ds9_4
  obtain ⟨⟨⟨ha0, ha1⟩, ⟨hb0, hb1⟩, hc0, hc1⟩, ⟨hd0, hd1⟩, ⟨he0, he1⟩, ⟨hf0, hf1⟩, hg0, hg1⟩ := hc
  repeat' first
    | (refine fun (K : KO XN) => ?_; simp only [eq_self, true_and, and_true, imp_self, implies_true]; first | done | exact id; done)
    | with_reducible apply And.intro
    | with_reducible exact trivial
    | with_reducible exact Eq.refl _
    | (with_reducible refine Exists.intro () ?_)
    | (intro h; simp only [bne_self_eq_false, Bool.false_eq_true] at h; done)
    | intro _
  all_goals first
    | omega
    | with_reducible assumption
    | (simp_all; done)
end Go.Proofs.Ytnkikhhiaecebaa
