/- The statements of layer 7: first answers true, by the executor. -/
import Derived.Test.YtnfpkadepomjjaaBaseQ
import Derived.Test.YtnfpkadepomjjaaBaseB7
import Derived.Test.YtnfpkadepomjjaaBaseDoc
import Derived.Test.YtnfpkadepomjjaaBaseO
set_option linter.all false
namespace Go.Proofs.Ytnfpkadepomjjaa
open Go
set_option maxRecDepth 1000000
set_option maxHeartbeats 0
def tblQ : List (Smry Try.prog XE) := [newX, layX true, listN, handlesN]
/-- What the executor leaves to be shown, written out. -/
theorem first07_vc  : (callN Try.prog tblQ (fun _ _ => false) 100 20 50 [] ⟨[], 0⟩ .nil (fun v _ _ => retTrue v)) = (
    ((0 : Int) ≤ (99 : Int) ∧ (99 : Int) ≤ (60000 : Int)) ∧ (4 : Nat) = (4 : Nat) ∧ (4 : Nat) = (4 : Nat) ∧ ((1 : Nat) ≤ (4 : Nat) ∧ (4 : Nat) ≤ (2048 : Nat)) ∧ (4 : Nat) ≤ (99 : Nat) ∧
    ([] : List Nat) = [] ∧ (0 : Nat) < (268435455 : Nat) ∧ True ∧ ∀ (v : Value), (4 : Nat) = (4 : Nat) ∧ (4 : Nat) = (4 : Nat) ∧ ((1 : Nat) ≤ (4 : Nat) ∧ (4 : Nat) ≤ (2048 : Nat)) ∧ (4
    : Nat) + (4 : Nat) ≤ (99 : Nat) ∧ ([] : List Nat) = [] ∧ (1 : Nat) < (268435455 : Nat) ∧ True ∧ ∀ (v : Value), (4 : Nat) = (4 : Nat) ∧ (4 : Nat) = (4 : Nat) ∧ ((1 : Nat) ≤ (4 : Nat)
    ∧ (4 : Nat) ≤ (2048 : Nat)) ∧ (4 : Nat) + (4 : Nat) + (4 : Nat) ≤ (99 : Nat) ∧ ([] : List Nat) = [] ∧ (1 : Nat) + (1 : Nat) < (268435455 : Nat) ∧ True ∧ ∀ (v : Value), (4 : Nat) =
    (4 : Nat) ∧ (4 : Nat) = (4 : Nat) ∧ ((1 : Nat) ≤ (4 : Nat) ∧ (4 : Nat) ≤ (2048 : Nat)) ∧ (4 : Nat) + (4 : Nat) + (4 : Nat) + (4 : Nat) ≤ (99 : Nat) ∧ ([] : List Nat) = [] ∧ (1 :
    Nat) + (1 : Nat) + (1 : Nat) < (268435455 : Nat) ∧ True ∧ ∀ (v : Value) (cap : Nat), (1 : Nat) ≤ cap → ∀ (cap : Nat), (4 : Nat) ≤ cap → true = true) := by
  kernel_rfl
theorem first07  : Run (callN Try.prog tblQ (fun _ _ => false) 100 20 50 [] ⟨[], 0⟩ .nil (fun v _ _ => retTrue v)) := by
  constructor
  rw [first07_vc]
  repeat' first
    | with_reducible apply And.intro
    | with_reducible exact trivial
    | with_reducible exact fun (h : true = false) => Bool.noConfusion h
    | with_reducible exact fun (h : false = true) => Bool.noConfusion h
    | intro _
    | with_reducible exact Eq.refl _
  all_goals first
    | exact of_decide_eq_true (by kernel_rfl)
    | kernel_rfl
    | exact ⟨of_decide_eq_true (by kernel_rfl), of_decide_eq_true (by kernel_rfl), of_decide_eq_true (by kernel_rfl), by kernel_rfl⟩
    | exact ⟨of_decide_eq_true (by kernel_rfl), of_decide_eq_true (by kernel_rfl), of_decide_eq_true (by kernel_rfl), fun _ => ⟨of_decide_eq_true (by kernel_rfl), of_decide_eq_true (by kernel_rfl), of_decide_eq_true (by kernel_rfl), by kernel_rfl⟩⟩
    | exact ⟨of_decide_eq_true (by kernel_rfl), of_decide_eq_true (by kernel_rfl), of_decide_eq_true (by kernel_rfl), fun h => absurd h (of_decide_eq_true (by kernel_rfl))⟩
end Go.Proofs.Ytnfpkadepomjjaa

/- QuadFew: for all blocks and all roots the law returns true and turns nothing; condition: the blocks are read as such. -/
namespace Go.Proofs.Ytnfpkadepomjjaa
open Go Go.RowKit
set_option maxRecDepth 1000000
set_option maxHeartbeats 0
/-- What is true of a tree. -/
structure QF (T : Bool × WSt) (root : Int) : Prop where
  val : ∀ i, i < T.2.pairs.length → 0 ≤ (T.2.pairs.getD i (0, 0)).2 ∧ (T.2.pairs.getD i (0, 0)).2 ≤ 1023
  up : ∀ i j, i < j → j < T.2.pairs.length → (T.2.pairs.getD i (0, 0)).1 < (T.2.pairs.getD j (0, 0)).1
  few : T.2.hs.length ≤ 4 * T.2.pairs.length
  max : T.2.pairs.length ≤ 256
  root : ((root == 0) == ((T.2.pairs.length : Int) == 0)) = true
theorem asc_len : ∀ (ps : List (Int × Int)) (lo hi : Int), Asc lo hi ps → (ps.length : Int) ≤ max 0 (hi - lo)
  | [], lo, hi, _ => by simp only [List.length_nil]; omega
  | p :: ps, lo, hi, h => by
    have h1 := h.bd p List.mem_cons_self
    have h2 := List.pairwise_cons.1 h.up
    have := asc_len ps (p.1 + 1) hi ⟨fun q hq => by
      have := h2.1 q hq
      have := h.bd q (List.mem_cons_of_mem _ hq)
      omega, h2.2⟩
    simp only [List.length_cons]
    omega
theorem qf_of (x : PA) (root : Int) (h0 : 0 ≤ root) (h : (treeP x root.toNat).1 = true) : QF (treeP x root.toNat) root := by
  obtain ⟨ha, hf, hr⟩ := tree_few (A := x.ar fun _ => .slice none 0 0) (root := root.toNat) h
  have hl := asc_len _ _ _ ha
  have mem : ∀ i, i < (treeP x root.toNat).2.pairs.length → (treeP x root.toNat).2.pairs.getD i (0, 0) ∈ (treeP x root.toNat).2.pairs := fun i hi => by
    rw [List.getD_eq_getElem?_getD, List.getElem?_eq_getElem hi]
    exact List.getElem_mem hi
  refine ⟨fun i hi => (ha.bd _ (mem i hi)).2, fun i j hij hj => ?_, hf, ?_, ?_⟩
  · have := List.pairwise_iff_getElem.1 ha.up i j (by show i < (treeP x root.toNat).2.pairs.length; omega) hj hij
    rw [List.getD_eq_getElem?_getD, List.getElem?_eq_getElem (show i < (treeP x root.toNat).2.pairs.length by omega), List.getD_eq_getElem?_getD, List.getElem?_eq_getElem hj]
    exact this
  · have : ((treeP x root.toNat).2.pairs.length : Int) ≤ max 0 (256 - 0) := hl
    omega
  · by_cases e : root = 0
    · subst e
      have : (treeP x 0).2.pairs = [] := hr.1 rfl
      have e1 : (treeP x (Int.toNat 0)).2.pairs.length = 0 := by show (treeP x 0).2.pairs.length = 0; rw [this]; rfl
      rw [e1]
      rfl
    · have h1 : (treeP x root.toNat).2.pairs ≠ [] := fun e1 => by have := hr.2 e1; omega
      have h2 : (treeP x root.toNat).2.pairs.length ≠ 0 := fun e2 => h1 (List.eq_nil_of_length_eq_zero e2)
      have e1 : (root == 0) = false := by simpa using e
      have e2 : (((treeP x root.toNat).2.pairs.length : Int) == 0) = false := by simpa using h2
      rw [e1, e2]
      rfl
def tblQF : List (Smry Try.prog XP) := [firstS 50 (fun W => by have h := law_trueR first07 W; exact h), great7S, blocks7S, listR, handlesR]
/-- The loop over the keys: none, or a row of them. -/
structure QS (ps : List (Int × Int)) where
  i : Nat
  cap : Nat
  hi : i ≤ ps.length
inductive QY (ps : List (Int × Int)) where
  | z (h : {_u : Unit // ps.length = 0})
  | s (h : QS ps)
def embsQ (ps : List (Int × Int)) : List (Emb (QY ps)) := [⟨_, QY.z⟩, ⟨_, QY.s⟩]
def invQ {ps : List (Int × Int)} (n : Nat) : QY ps → List (Nat × SV) × List (Nat × SO XP)
  | .z _ => ([(7, .c .nls), (43, .c (.int true .i64 0)), (44, .c (.int true .i64 0))], [])
  | .s p => ([(7, .c (.sli n 2 true 0 false ps.length p.cap)), (43, .c (.int false .i64 (ps.length : Int))), (44, .c (.int false .i64 (p.i : Int)))], [(n, .vals 110 2 ps.length p.cap (pairF ps))])
def selQ (f : SF) (_ : SH XP) : Nat := match f.at 7 with
  | .c .nls => 0
  | _ => 1
def muQ {ps : List (Int × Int)} : QY ps → Nat
  | .z _ => 0
  | .s p => ps.length - p.i
def scrQ {ps : List (Int × Int)} : QY ps → Scr XP
  | .z _ => bN 6
  | .s _ => .both (bN 8) (bN 6)
structure QZ (W : World) where
  x : PA
  V : World
  g : Grow W V
def qfI {W : World} (n : Nat) (z : QZ W) : List (Nat × SV) × List (Nat × SO XP) := ([(5, .c (.ptr n 0))], [(0, .seen z.V), (n, parO z.x)])
def qfScr (ps : List (Int × Int)) : Scr XP := .invs (liveL [1, 4, 7, 9, 11, 43, 44]) ((List.range 1500).map (· + 1)) (QY ps) (embsQ ps) selQ invQ muQ scrQ
def qfAll (W : World) (root : Int) : Scr XP := .both .nil (.cut 5 (liveL [1, 4, 5, 7, 8, 9, 10, 11, 43, 44]) (0 :: ((List.range 1500).map (· + 1))) (QZ W) qfI .nil fun z => qfScr (treeP z.x root.toNat).2.pairs)
/-- What the executor leaves to be shown of roundelay/roundelaylaw07.QuadFew, written out. -/
theorem quadFew_vc (W : World) (a : Option Addr) (len cap : Nat) (root : Int) : (callN Try.prog (tblQF : List (Smry Try.prog XP)) (fun _ _ => false) 100 20 7 [.c (.sliv a false len cap), .c (.int false .u64 root)] ⟨[(0, .seen W)], 1⟩ (qfAll W root) (fun v m _ => retGrow W v m)) = (
    SlisOk W a len ∧ ∀ (b : Bool), (b = false → len ≤ (60 : Nat)) → (b = true → true = true ∧ ∃ (W' : World), some W = some W' ∧ Grow W W') ∧ (b = false → ((SlisOk W a len ∧ len ≤ (60 :
    Nat)) ∧ ∀ (V : World) (x : PA) (d : D3) (a' : Option Addr) (len' cp' : Nat), Blk7Out W V x d a' len' cp' → ∃ (y : QZ W), root = root ∧ y.V = V ∧ y.x = x ∧ True) ∧ ∀ (y : QZ W) (ρ :
    Nat → Value), ((0 : Int) ≤ root ∧ root < (18446744073709551616 : Int)) ∧ ((treeP y.x root.toNat).fst = false → ((0 : Int) ≤ root ∧ root < (18446744073709551616 : Int)) ∧ ((treeP y.x
    root.toNat).fst = false → true = true ∧ ∃ (W' : World), some y.V = some W' ∧ Grow W W') ∧ ((treeP y.x root.toNat).fst = true → (treeP y.x root.toNat).snd.hs.length = (0 : Nat) →
    false = true ∧ ∃ (W' : World), some y.V = some W' ∧ Grow W W') ∧ ((treeP y.x root.toNat).fst = true → ∀ (cap : Nat), (treeP y.x root.toNat).snd.hs.length ≤ cap → false = true ∧ ∃
    (W' : World), some y.V = some W' ∧ Grow W W')) ∧ ((treeP y.x root.toNat).fst = true → (treeP y.x root.toNat).snd.pairs.length = (0 : Nat) → ((0 : Int) ≤ root ∧ root <
    (18446744073709551616 : Int)) ∧ ((treeP y.x root.toNat).fst = false → false = true ∧ ∃ (W' : World), some y.V = some W' ∧ Grow W W') ∧ ((treeP y.x root.toNat).fst = true → (treeP
    y.x root.toNat).snd.hs.length = (0 : Nat) → (∀ (y_1 : QY (treeP y.x root.toNat).snd.pairs), (∃ (z : (Emb.mk { _u : Unit // (treeP y.x root.toNat).snd.pairs.length = (0 : Nat) }
    QY.z).Z), QY.z z = y_1) ∨ (∃ (z : (Emb.mk (QS (treeP y.x root.toNat).snd.pairs) QY.s).Z), QY.s z = y_1) ∨ False) ∧ (∃ (z : (Emb.mk { _u : Unit // (treeP y.x
    root.toNat).snd.pairs.length = (0 : Nat) } QY.z).Z), root = root ∧ y.V = y.V ∧ True) ∧ (∀ (z : (Emb.mk { _u : Unit // (treeP y.x root.toNat).snd.pairs.length = (0 : Nat) } QY.z).Z)
    (ρ : Nat → Value), (true == ((root == (0 : Int)) == true)) = true ∧ ∃ (W' : World), some y.V = some W' ∧ Grow W W') ∧ (∀ (z : (Emb.mk (QS (treeP y.x root.toNat).snd.pairs) QY.s).Z)
    (ρ : Nat → Value), (decide ((↑z.i : Int) < (↑(treeP y.x root.toNat).snd.pairs.length : Int)) = true → (decide ((↑z.i : Int) > (0 : Int)) = true → ((0 : Int) ≤ (↑z.i : Int) ∧ (↑z.i :
    Int) < (↑(treeP y.x root.toNat).snd.pairs.length : Int)) ∧ addO true (0 : Nat) (↑z.i : Int).toNat < (treeP y.x root.toNat).snd.pairs.length ∧ ((-9223372036854775808 : Int) ≤ (↑z.i :
    Int) - (1 : Int) ∧ (↑z.i : Int) - (1 : Int) ≤ (9223372036854775807 : Int)) ∧ ((0 : Int) ≤ (↑z.i : Int) - (1 : Int) ∧ (↑z.i : Int) - (1 : Int) < (↑(treeP y.x
    root.toNat).snd.pairs.length : Int)) ∧ addO true (0 : Nat) ((↑z.i : Int) - (1 : Int)).toNat < (treeP y.x root.toNat).snd.pairs.length ∧ (decide (((treeP y.x
    root.toNat).snd.pairs.getD (addO true (0 : Nat) (↑z.i : Int).toNat) ((0 : Int), (0 : Int))).fst ≤ ((treeP y.x root.toNat).snd.pairs.getD (addO true (0 : Nat) ((↑z.i : Int) - (1 :
    Int)).toNat) ((0 : Int), (0 : Int))).fst) = true → false = true ∧ ∃ (W' : World), some y.V = some W' ∧ Grow W W') ∧ (decide (((treeP y.x root.toNat).snd.pairs.getD (addO true (0 :
    Nat) (↑z.i : Int).toNat) ((0 : Int), (0 : Int))).fst ≤ ((treeP y.x root.toNat).snd.pairs.getD (addO true (0 : Nat) ((↑z.i : Int) - (1 : Int)).toNat) ((0 : Int), (0 : Int))).fst) =
    false → ((0 : Int) ≤ (↑z.i : Int) ∧ (↑z.i : Int) < (↑(treeP y.x root.toNat).snd.pairs.length : Int)) ∧ addO true (0 : Nat) (↑z.i : Int).toNat < (treeP y.x
    root.toNat).snd.pairs.length ∧ (decide (((treeP y.x root.toNat).snd.pairs.getD (addO true (0 : Nat) (↑z.i : Int).toNat) ((0 : Int), (0 : Int))).snd < (0 : Int)) = true → false =
    true ∧ ∃ (W' : World), some y.V = some W' ∧ Grow W W') ∧ (decide (((treeP y.x root.toNat).snd.pairs.getD (addO true (0 : Nat) (↑z.i : Int).toNat) ((0 : Int), (0 : Int))).snd < (0 :
    Int)) = false → ((0 : Int) ≤ (↑z.i : Int) ∧ (↑z.i : Int) < (↑(treeP y.x root.toNat).snd.pairs.length : Int)) ∧ addO true (0 : Nat) (↑z.i : Int).toNat < (treeP y.x
    root.toNat).snd.pairs.length ∧ (decide (((treeP y.x root.toNat).snd.pairs.getD (addO true (0 : Nat) (↑z.i : Int).toNat) ((0 : Int), (0 : Int))).snd > (1023 : Int)) = true → false =
    true ∧ ∃ (W' : World), some y.V = some W' ∧ Grow W W') ∧ (decide (((treeP y.x root.toNat).snd.pairs.getD (addO true (0 : Nat) (↑z.i : Int).toNat) ((0 : Int), (0 : Int))).snd > (1023
    : Int)) = false → ((-9223372036854775808 : Int) ≤ (↑z.i : Int) + (1 : Int) ∧ (↑z.i : Int) + (1 : Int) ≤ (9223372036854775807 : Int)) ∧ ∃ (z_1 : (Emb.mk (QS (treeP y.x
    root.toNat).snd.pairs) QY.s).Z), muQ (QY.s z_1) < muQ (QY.s z) ∧ root = root ∧ y.V = y.V ∧ (0 : Nat) = (0 : Nat) ∧ (treeP y.x root.toNat).snd.pairs.length = (treeP y.x
    root.toNat).snd.pairs.length ∧ z_1.cap = z.cap ∧ (↑(treeP y.x root.toNat).snd.pairs.length : Int) = (↑(treeP y.x root.toNat).snd.pairs.length : Int) ∧ (↑z_1.i : Int) = (↑z.i : Int)
    + (1 : Int) ∧ ((treeP y.x root.toNat).snd.pairs.length = (treeP y.x root.toNat).snd.pairs.length ∧ z_1.cap = z.cap ∧ ∀ (i : Nat), i < (treeP y.x root.toNat).snd.pairs.length →
    [Value.int IntKind.i64 ((treeP y.x root.toNat).snd.pairs.getD i ((0 : Int), (0 : Int))).fst, Value.int IntKind.i64 ((treeP y.x root.toNat).snd.pairs.getD i ((0 : Int), (0 :
    Int))).snd] = [Value.int IntKind.i64 ((treeP y.x root.toNat).snd.pairs.getD i ((0 : Int), (0 : Int))).fst, Value.int IntKind.i64 ((treeP y.x root.toNat).snd.pairs.getD i ((0 : Int),
    (0 : Int))).snd]) ∧ True)))) ∧ (decide ((↑z.i : Int) > (0 : Int)) = false → ((0 : Int) ≤ (↑z.i : Int) ∧ (↑z.i : Int) < (↑(treeP y.x root.toNat).snd.pairs.length : Int)) ∧ addO true
    (0 : Nat) (↑z.i : Int).toNat < (treeP y.x root.toNat).snd.pairs.length ∧ (decide (((treeP y.x root.toNat).snd.pairs.getD (addO true (0 : Nat) (↑z.i : Int).toNat) ((0 : Int), (0 :
    Int))).snd < (0 : Int)) = true → false = true ∧ ∃ (W' : World), some y.V = some W' ∧ Grow W W') ∧ (decide (((treeP y.x root.toNat).snd.pairs.getD (addO true (0 : Nat) (↑z.i :
    Int).toNat) ((0 : Int), (0 : Int))).snd < (0 : Int)) = false → ((0 : Int) ≤ (↑z.i : Int) ∧ (↑z.i : Int) < (↑(treeP y.x root.toNat).snd.pairs.length : Int)) ∧ addO true (0 : Nat)
    (↑z.i : Int).toNat < (treeP y.x root.toNat).snd.pairs.length ∧ (decide (((treeP y.x root.toNat).snd.pairs.getD (addO true (0 : Nat) (↑z.i : Int).toNat) ((0 : Int), (0 : Int))).snd >
    (1023 : Int)) = true → false = true ∧ ∃ (W' : World), some y.V = some W' ∧ Grow W W') ∧ (decide (((treeP y.x root.toNat).snd.pairs.getD (addO true (0 : Nat) (↑z.i : Int).toNat) ((0
    : Int), (0 : Int))).snd > (1023 : Int)) = false → ((-9223372036854775808 : Int) ≤ (↑z.i : Int) + (1 : Int) ∧ (↑z.i : Int) + (1 : Int) ≤ (9223372036854775807 : Int)) ∧ ∃ (z_1 :
    (Emb.mk (QS (treeP y.x root.toNat).snd.pairs) QY.s).Z), muQ (QY.s z_1) < muQ (QY.s z) ∧ root = root ∧ y.V = y.V ∧ (0 : Nat) = (0 : Nat) ∧ (treeP y.x root.toNat).snd.pairs.length =
    (treeP y.x root.toNat).snd.pairs.length ∧ z_1.cap = z.cap ∧ (↑(treeP y.x root.toNat).snd.pairs.length : Int) = (↑(treeP y.x root.toNat).snd.pairs.length : Int) ∧ (↑z_1.i : Int) =
    (↑z.i : Int) + (1 : Int) ∧ ((treeP y.x root.toNat).snd.pairs.length = (treeP y.x root.toNat).snd.pairs.length ∧ z_1.cap = z.cap ∧ ∀ (i : Nat), i < (treeP y.x
    root.toNat).snd.pairs.length → [Value.int IntKind.i64 ((treeP y.x root.toNat).snd.pairs.getD i ((0 : Int), (0 : Int))).fst, Value.int IntKind.i64 ((treeP y.x
    root.toNat).snd.pairs.getD i ((0 : Int), (0 : Int))).snd] = [Value.int IntKind.i64 ((treeP y.x root.toNat).snd.pairs.getD i ((0 : Int), (0 : Int))).fst, Value.int IntKind.i64
    ((treeP y.x root.toNat).snd.pairs.getD i ((0 : Int), (0 : Int))).snd]) ∧ True)))) ∧ (decide ((↑z.i : Int) < (↑(treeP y.x root.toNat).snd.pairs.length : Int)) = false →
    ((-9223372036854775808 : Int) ≤ (4 : Int) * (↑(treeP y.x root.toNat).snd.pairs.length : Int) ∧ (4 : Int) * (↑(treeP y.x root.toNat).snd.pairs.length : Int) ≤ (9223372036854775807 :
    Int)) ∧ (decide ((0 : Int) ≤ (4 : Int) * (↑(treeP y.x root.toNat).snd.pairs.length : Int)) = true → (true == ((root == (0 : Int)) == ((↑(treeP y.x root.toNat).snd.pairs.length :
    Int) == (0 : Int)))) = true ∧ ∃ (W' : World), some y.V = some W' ∧ Grow W W') ∧ (decide ((0 : Int) ≤ (4 : Int) * (↑(treeP y.x root.toNat).snd.pairs.length : Int)) = false → false =
    true ∧ ∃ (W' : World), some y.V = some W' ∧ Grow W W'))) ∧ True) ∧ ((treeP y.x root.toNat).fst = true → ∀ (cap : Nat), (treeP y.x root.toNat).snd.hs.length ≤ cap → (∀ (y_1 : QY
    (treeP y.x root.toNat).snd.pairs), (∃ (z : (Emb.mk { _u : Unit // (treeP y.x root.toNat).snd.pairs.length = (0 : Nat) } QY.z).Z), QY.z z = y_1) ∨ (∃ (z : (Emb.mk (QS (treeP y.x
    root.toNat).snd.pairs) QY.s).Z), QY.s z = y_1) ∨ False) ∧ (∃ (z : (Emb.mk { _u : Unit // (treeP y.x root.toNat).snd.pairs.length = (0 : Nat) } QY.z).Z), root = root ∧ (0 : Nat) = (0
    : Nat) ∧ (treeP y.x root.toNat).snd.hs.length = (treeP y.x root.toNat).snd.hs.length ∧ cap = cap ∧ y.V = y.V ∧ True) ∧ (∀ (z : (Emb.mk { _u : Unit // (treeP y.x
    root.toNat).snd.pairs.length = (0 : Nat) } QY.z).Z) (ρ : Nat → Value), (decide ((↑(treeP y.x root.toNat).snd.hs.length : Int) ≤ (0 : Int)) = true → (true == ((root == (0 : Int)) ==
    true)) = true ∧ ∃ (W' : World), some y.V = some W' ∧ Grow W W') ∧ (decide ((↑(treeP y.x root.toNat).snd.hs.length : Int) ≤ (0 : Int)) = false → false = true ∧ ∃ (W' : World), some
    y.V = some W' ∧ Grow W W')) ∧ (∀ (z : (Emb.mk (QS (treeP y.x root.toNat).snd.pairs) QY.s).Z) (ρ : Nat → Value), (decide ((↑z.i : Int) < (↑(treeP y.x root.toNat).snd.pairs.length :
    Int)) = true → (decide ((↑z.i : Int) > (0 : Int)) = true → ((0 : Int) ≤ (↑z.i : Int) ∧ (↑z.i : Int) < (↑(treeP y.x root.toNat).snd.pairs.length : Int)) ∧ addO true (0 : Nat) (↑z.i :
    Int).toNat < (treeP y.x root.toNat).snd.pairs.length ∧ ((-9223372036854775808 : Int) ≤ (↑z.i : Int) - (1 : Int) ∧ (↑z.i : Int) - (1 : Int) ≤ (9223372036854775807 : Int)) ∧ ((0 :
    Int) ≤ (↑z.i : Int) - (1 : Int) ∧ (↑z.i : Int) - (1 : Int) < (↑(treeP y.x root.toNat).snd.pairs.length : Int)) ∧ addO true (0 : Nat) ((↑z.i : Int) - (1 : Int)).toNat < (treeP y.x
    root.toNat).snd.pairs.length ∧ (decide (((treeP y.x root.toNat).snd.pairs.getD (addO true (0 : Nat) (↑z.i : Int).toNat) ((0 : Int), (0 : Int))).fst ≤ ((treeP y.x
    root.toNat).snd.pairs.getD (addO true (0 : Nat) ((↑z.i : Int) - (1 : Int)).toNat) ((0 : Int), (0 : Int))).fst) = true → false = true ∧ ∃ (W' : World), some y.V = some W' ∧ Grow W
    W') ∧ (decide (((treeP y.x root.toNat).snd.pairs.getD (addO true (0 : Nat) (↑z.i : Int).toNat) ((0 : Int), (0 : Int))).fst ≤ ((treeP y.x root.toNat).snd.pairs.getD (addO true (0 :
    Nat) ((↑z.i : Int) - (1 : Int)).toNat) ((0 : Int), (0 : Int))).fst) = false → ((0 : Int) ≤ (↑z.i : Int) ∧ (↑z.i : Int) < (↑(treeP y.x root.toNat).snd.pairs.length : Int)) ∧ addO
    true (0 : Nat) (↑z.i : Int).toNat < (treeP y.x root.toNat).snd.pairs.length ∧ (decide (((treeP y.x root.toNat).snd.pairs.getD (addO true (0 : Nat) (↑z.i : Int).toNat) ((0 : Int), (0
    : Int))).snd < (0 : Int)) = true → false = true ∧ ∃ (W' : World), some y.V = some W' ∧ Grow W W') ∧ (decide (((treeP y.x root.toNat).snd.pairs.getD (addO true (0 : Nat) (↑z.i :
    Int).toNat) ((0 : Int), (0 : Int))).snd < (0 : Int)) = false → ((0 : Int) ≤ (↑z.i : Int) ∧ (↑z.i : Int) < (↑(treeP y.x root.toNat).snd.pairs.length : Int)) ∧ addO true (0 : Nat)
    (↑z.i : Int).toNat < (treeP y.x root.toNat).snd.pairs.length ∧ (decide (((treeP y.x root.toNat).snd.pairs.getD (addO true (0 : Nat) (↑z.i : Int).toNat) ((0 : Int), (0 : Int))).snd >
    (1023 : Int)) = true → false = true ∧ ∃ (W' : World), some y.V = some W' ∧ Grow W W') ∧ (decide (((treeP y.x root.toNat).snd.pairs.getD (addO true (0 : Nat) (↑z.i : Int).toNat) ((0
    : Int), (0 : Int))).snd > (1023 : Int)) = false → ((-9223372036854775808 : Int) ≤ (↑z.i : Int) + (1 : Int) ∧ (↑z.i : Int) + (1 : Int) ≤ (9223372036854775807 : Int)) ∧ ∃ (z_1 :
    (Emb.mk (QS (treeP y.x root.toNat).snd.pairs) QY.s).Z), muQ (QY.s z_1) < muQ (QY.s z) ∧ root = root ∧ (0 : Nat) = (0 : Nat) ∧ (treeP y.x root.toNat).snd.hs.length = (treeP y.x
    root.toNat).snd.hs.length ∧ cap = cap ∧ y.V = y.V ∧ (0 : Nat) = (0 : Nat) ∧ (treeP y.x root.toNat).snd.pairs.length = (treeP y.x root.toNat).snd.pairs.length ∧ z_1.cap = z.cap ∧
    (↑(treeP y.x root.toNat).snd.pairs.length : Int) = (↑(treeP y.x root.toNat).snd.pairs.length : Int) ∧ (↑z_1.i : Int) = (↑z.i : Int) + (1 : Int) ∧ ((treeP y.x
    root.toNat).snd.pairs.length = (treeP y.x root.toNat).snd.pairs.length ∧ z_1.cap = z.cap ∧ ∀ (i : Nat), i < (treeP y.x root.toNat).snd.pairs.length → [Value.int IntKind.i64 ((treeP
    y.x root.toNat).snd.pairs.getD i ((0 : Int), (0 : Int))).fst, Value.int IntKind.i64 ((treeP y.x root.toNat).snd.pairs.getD i ((0 : Int), (0 : Int))).snd] = [Value.int IntKind.i64
    ((treeP y.x root.toNat).snd.pairs.getD i ((0 : Int), (0 : Int))).fst, Value.int IntKind.i64 ((treeP y.x root.toNat).snd.pairs.getD i ((0 : Int), (0 : Int))).snd]) ∧ True)))) ∧
    (decide ((↑z.i : Int) > (0 : Int)) = false → ((0 : Int) ≤ (↑z.i : Int) ∧ (↑z.i : Int) < (↑(treeP y.x root.toNat).snd.pairs.length : Int)) ∧ addO true (0 : Nat) (↑z.i : Int).toNat <
    (treeP y.x root.toNat).snd.pairs.length ∧ (decide (((treeP y.x root.toNat).snd.pairs.getD (addO true (0 : Nat) (↑z.i : Int).toNat) ((0 : Int), (0 : Int))).snd < (0 : Int)) = true →
    false = true ∧ ∃ (W' : World), some y.V = some W' ∧ Grow W W') ∧ (decide (((treeP y.x root.toNat).snd.pairs.getD (addO true (0 : Nat) (↑z.i : Int).toNat) ((0 : Int), (0 : Int))).snd
    < (0 : Int)) = false → ((0 : Int) ≤ (↑z.i : Int) ∧ (↑z.i : Int) < (↑(treeP y.x root.toNat).snd.pairs.length : Int)) ∧ addO true (0 : Nat) (↑z.i : Int).toNat < (treeP y.x
    root.toNat).snd.pairs.length ∧ (decide (((treeP y.x root.toNat).snd.pairs.getD (addO true (0 : Nat) (↑z.i : Int).toNat) ((0 : Int), (0 : Int))).snd > (1023 : Int)) = true → false =
    true ∧ ∃ (W' : World), some y.V = some W' ∧ Grow W W') ∧ (decide (((treeP y.x root.toNat).snd.pairs.getD (addO true (0 : Nat) (↑z.i : Int).toNat) ((0 : Int), (0 : Int))).snd > (1023
    : Int)) = false → ((-9223372036854775808 : Int) ≤ (↑z.i : Int) + (1 : Int) ∧ (↑z.i : Int) + (1 : Int) ≤ (9223372036854775807 : Int)) ∧ ∃ (z_1 : (Emb.mk (QS (treeP y.x
    root.toNat).snd.pairs) QY.s).Z), muQ (QY.s z_1) < muQ (QY.s z) ∧ root = root ∧ (0 : Nat) = (0 : Nat) ∧ (treeP y.x root.toNat).snd.hs.length = (treeP y.x root.toNat).snd.hs.length ∧
    cap = cap ∧ y.V = y.V ∧ (0 : Nat) = (0 : Nat) ∧ (treeP y.x root.toNat).snd.pairs.length = (treeP y.x root.toNat).snd.pairs.length ∧ z_1.cap = z.cap ∧ (↑(treeP y.x
    root.toNat).snd.pairs.length : Int) = (↑(treeP y.x root.toNat).snd.pairs.length : Int) ∧ (↑z_1.i : Int) = (↑z.i : Int) + (1 : Int) ∧ ((treeP y.x root.toNat).snd.pairs.length =
    (treeP y.x root.toNat).snd.pairs.length ∧ z_1.cap = z.cap ∧ ∀ (i : Nat), i < (treeP y.x root.toNat).snd.pairs.length → [Value.int IntKind.i64 ((treeP y.x root.toNat).snd.pairs.getD
    i ((0 : Int), (0 : Int))).fst, Value.int IntKind.i64 ((treeP y.x root.toNat).snd.pairs.getD i ((0 : Int), (0 : Int))).snd] = [Value.int IntKind.i64 ((treeP y.x
    root.toNat).snd.pairs.getD i ((0 : Int), (0 : Int))).fst, Value.int IntKind.i64 ((treeP y.x root.toNat).snd.pairs.getD i ((0 : Int), (0 : Int))).snd]) ∧ True)))) ∧ (decide ((↑z.i :
    Int) < (↑(treeP y.x root.toNat).snd.pairs.length : Int)) = false → ((-9223372036854775808 : Int) ≤ (4 : Int) * (↑(treeP y.x root.toNat).snd.pairs.length : Int) ∧ (4 : Int) *
    (↑(treeP y.x root.toNat).snd.pairs.length : Int) ≤ (9223372036854775807 : Int)) ∧ (decide ((↑(treeP y.x root.toNat).snd.hs.length : Int) ≤ (4 : Int) * (↑(treeP y.x
    root.toNat).snd.pairs.length : Int)) = true → (true == ((root == (0 : Int)) == ((↑(treeP y.x root.toNat).snd.pairs.length : Int) == (0 : Int)))) = true ∧ ∃ (W' : World), some y.V =
    some W' ∧ Grow W W') ∧ (decide ((↑(treeP y.x root.toNat).snd.hs.length : Int) ≤ (4 : Int) * (↑(treeP y.x root.toNat).snd.pairs.length : Int)) = false → false = true ∧ ∃ (W' :
    World), some y.V = some W' ∧ Grow W W'))) ∧ True)) ∧ ((treeP y.x root.toNat).fst = true → ∀ (cap : Nat), (treeP y.x root.toNat).snd.pairs.length ≤ cap → ((0 : Int) ≤ root ∧ root <
    (18446744073709551616 : Int)) ∧ ((treeP y.x root.toNat).fst = false → false = true ∧ ∃ (W' : World), some y.V = some W' ∧ Grow W W') ∧ ((treeP y.x root.toNat).fst = true → (treeP
    y.x root.toNat).snd.hs.length = (0 : Nat) → (∀ (y_1 : QY (treeP y.x root.toNat).snd.pairs), (∃ (z : (Emb.mk { _u : Unit // (treeP y.x root.toNat).snd.pairs.length = (0 : Nat) }
    QY.z).Z), QY.z z = y_1) ∨ (∃ (z : (Emb.mk (QS (treeP y.x root.toNat).snd.pairs) QY.s).Z), QY.s z = y_1) ∨ False) ∧ (∃ (z : (Emb.mk (QS (treeP y.x root.toNat).snd.pairs) QY.s).Z),
    root = root ∧ y.V = y.V ∧ (0 : Nat) = (0 : Nat) ∧ (treeP y.x root.toNat).snd.pairs.length = (treeP y.x root.toNat).snd.pairs.length ∧ z.cap = cap ∧ (↑(treeP y.x
    root.toNat).snd.pairs.length : Int) = (↑(treeP y.x root.toNat).snd.pairs.length : Int) ∧ (↑z.i : Int) = (0 : Int) ∧ ((treeP y.x root.toNat).snd.pairs.length = (treeP y.x
    root.toNat).snd.pairs.length ∧ z.cap = cap ∧ ∀ (i : Nat), i < (treeP y.x root.toNat).snd.pairs.length → [Value.int IntKind.i64 ((treeP y.x root.toNat).snd.pairs.getD i ((0 : Int),
    (0 : Int))).fst, Value.int IntKind.i64 ((treeP y.x root.toNat).snd.pairs.getD i ((0 : Int), (0 : Int))).snd] = [Value.int IntKind.i64 ((treeP y.x root.toNat).snd.pairs.getD i ((0 :
    Int), (0 : Int))).fst, Value.int IntKind.i64 ((treeP y.x root.toNat).snd.pairs.getD i ((0 : Int), (0 : Int))).snd]) ∧ True) ∧ (∀ (z : (Emb.mk { _u : Unit // (treeP y.x
    root.toNat).snd.pairs.length = (0 : Nat) } QY.z).Z) (ρ : Nat → Value), (true == ((root == (0 : Int)) == true)) = true ∧ ∃ (W' : World), some y.V = some W' ∧ Grow W W') ∧ (∀ (z :
    (Emb.mk (QS (treeP y.x root.toNat).snd.pairs) QY.s).Z) (ρ : Nat → Value), (decide ((↑z.i : Int) < (↑(treeP y.x root.toNat).snd.pairs.length : Int)) = true → (decide ((↑z.i : Int) >
    (0 : Int)) = true → ((0 : Int) ≤ (↑z.i : Int) ∧ (↑z.i : Int) < (↑(treeP y.x root.toNat).snd.pairs.length : Int)) ∧ addO true (0 : Nat) (↑z.i : Int).toNat < (treeP y.x
    root.toNat).snd.pairs.length ∧ ((-9223372036854775808 : Int) ≤ (↑z.i : Int) - (1 : Int) ∧ (↑z.i : Int) - (1 : Int) ≤ (9223372036854775807 : Int)) ∧ ((0 : Int) ≤ (↑z.i : Int) - (1 :
    Int) ∧ (↑z.i : Int) - (1 : Int) < (↑(treeP y.x root.toNat).snd.pairs.length : Int)) ∧ addO true (0 : Nat) ((↑z.i : Int) - (1 : Int)).toNat < (treeP y.x root.toNat).snd.pairs.length
    ∧ (decide (((treeP y.x root.toNat).snd.pairs.getD (addO true (0 : Nat) (↑z.i : Int).toNat) ((0 : Int), (0 : Int))).fst ≤ ((treeP y.x root.toNat).snd.pairs.getD (addO true (0 : Nat)
    ((↑z.i : Int) - (1 : Int)).toNat) ((0 : Int), (0 : Int))).fst) = true → false = true ∧ ∃ (W' : World), some y.V = some W' ∧ Grow W W') ∧ (decide (((treeP y.x
    root.toNat).snd.pairs.getD (addO true (0 : Nat) (↑z.i : Int).toNat) ((0 : Int), (0 : Int))).fst ≤ ((treeP y.x root.toNat).snd.pairs.getD (addO true (0 : Nat) ((↑z.i : Int) - (1 :
    Int)).toNat) ((0 : Int), (0 : Int))).fst) = false → ((0 : Int) ≤ (↑z.i : Int) ∧ (↑z.i : Int) < (↑(treeP y.x root.toNat).snd.pairs.length : Int)) ∧ addO true (0 : Nat) (↑z.i :
    Int).toNat < (treeP y.x root.toNat).snd.pairs.length ∧ (decide (((treeP y.x root.toNat).snd.pairs.getD (addO true (0 : Nat) (↑z.i : Int).toNat) ((0 : Int), (0 : Int))).snd < (0 :
    Int)) = true → false = true ∧ ∃ (W' : World), some y.V = some W' ∧ Grow W W') ∧ (decide (((treeP y.x root.toNat).snd.pairs.getD (addO true (0 : Nat) (↑z.i : Int).toNat) ((0 : Int),
    (0 : Int))).snd < (0 : Int)) = false → ((0 : Int) ≤ (↑z.i : Int) ∧ (↑z.i : Int) < (↑(treeP y.x root.toNat).snd.pairs.length : Int)) ∧ addO true (0 : Nat) (↑z.i : Int).toNat < (treeP
    y.x root.toNat).snd.pairs.length ∧ (decide (((treeP y.x root.toNat).snd.pairs.getD (addO true (0 : Nat) (↑z.i : Int).toNat) ((0 : Int), (0 : Int))).snd > (1023 : Int)) = true →
    false = true ∧ ∃ (W' : World), some y.V = some W' ∧ Grow W W') ∧ (decide (((treeP y.x root.toNat).snd.pairs.getD (addO true (0 : Nat) (↑z.i : Int).toNat) ((0 : Int), (0 : Int))).snd
    > (1023 : Int)) = false → ((-9223372036854775808 : Int) ≤ (↑z.i : Int) + (1 : Int) ∧ (↑z.i : Int) + (1 : Int) ≤ (9223372036854775807 : Int)) ∧ ∃ (z_1 : (Emb.mk (QS (treeP y.x
    root.toNat).snd.pairs) QY.s).Z), muQ (QY.s z_1) < muQ (QY.s z) ∧ root = root ∧ y.V = y.V ∧ (0 : Nat) = (0 : Nat) ∧ (treeP y.x root.toNat).snd.pairs.length = (treeP y.x
    root.toNat).snd.pairs.length ∧ z_1.cap = z.cap ∧ (↑(treeP y.x root.toNat).snd.pairs.length : Int) = (↑(treeP y.x root.toNat).snd.pairs.length : Int) ∧ (↑z_1.i : Int) = (↑z.i : Int)
    + (1 : Int) ∧ ((treeP y.x root.toNat).snd.pairs.length = (treeP y.x root.toNat).snd.pairs.length ∧ z_1.cap = z.cap ∧ ∀ (i : Nat), i < (treeP y.x root.toNat).snd.pairs.length →
    [Value.int IntKind.i64 ((treeP y.x root.toNat).snd.pairs.getD i ((0 : Int), (0 : Int))).fst, Value.int IntKind.i64 ((treeP y.x root.toNat).snd.pairs.getD i ((0 : Int), (0 :
    Int))).snd] = [Value.int IntKind.i64 ((treeP y.x root.toNat).snd.pairs.getD i ((0 : Int), (0 : Int))).fst, Value.int IntKind.i64 ((treeP y.x root.toNat).snd.pairs.getD i ((0 : Int),
    (0 : Int))).snd]) ∧ True)))) ∧ (decide ((↑z.i : Int) > (0 : Int)) = false → ((0 : Int) ≤ (↑z.i : Int) ∧ (↑z.i : Int) < (↑(treeP y.x root.toNat).snd.pairs.length : Int)) ∧ addO true
    (0 : Nat) (↑z.i : Int).toNat < (treeP y.x root.toNat).snd.pairs.length ∧ (decide (((treeP y.x root.toNat).snd.pairs.getD (addO true (0 : Nat) (↑z.i : Int).toNat) ((0 : Int), (0 :
    Int))).snd < (0 : Int)) = true → false = true ∧ ∃ (W' : World), some y.V = some W' ∧ Grow W W') ∧ (decide (((treeP y.x root.toNat).snd.pairs.getD (addO true (0 : Nat) (↑z.i :
    Int).toNat) ((0 : Int), (0 : Int))).snd < (0 : Int)) = false → ((0 : Int) ≤ (↑z.i : Int) ∧ (↑z.i : Int) < (↑(treeP y.x root.toNat).snd.pairs.length : Int)) ∧ addO true (0 : Nat)
    (↑z.i : Int).toNat < (treeP y.x root.toNat).snd.pairs.length ∧ (decide (((treeP y.x root.toNat).snd.pairs.getD (addO true (0 : Nat) (↑z.i : Int).toNat) ((0 : Int), (0 : Int))).snd >
    (1023 : Int)) = true → false = true ∧ ∃ (W' : World), some y.V = some W' ∧ Grow W W') ∧ (decide (((treeP y.x root.toNat).snd.pairs.getD (addO true (0 : Nat) (↑z.i : Int).toNat) ((0
    : Int), (0 : Int))).snd > (1023 : Int)) = false → ((-9223372036854775808 : Int) ≤ (↑z.i : Int) + (1 : Int) ∧ (↑z.i : Int) + (1 : Int) ≤ (9223372036854775807 : Int)) ∧ ∃ (z_1 :
    (Emb.mk (QS (treeP y.x root.toNat).snd.pairs) QY.s).Z), muQ (QY.s z_1) < muQ (QY.s z) ∧ root = root ∧ y.V = y.V ∧ (0 : Nat) = (0 : Nat) ∧ (treeP y.x root.toNat).snd.pairs.length =
    (treeP y.x root.toNat).snd.pairs.length ∧ z_1.cap = z.cap ∧ (↑(treeP y.x root.toNat).snd.pairs.length : Int) = (↑(treeP y.x root.toNat).snd.pairs.length : Int) ∧ (↑z_1.i : Int) =
    (↑z.i : Int) + (1 : Int) ∧ ((treeP y.x root.toNat).snd.pairs.length = (treeP y.x root.toNat).snd.pairs.length ∧ z_1.cap = z.cap ∧ ∀ (i : Nat), i < (treeP y.x
    root.toNat).snd.pairs.length → [Value.int IntKind.i64 ((treeP y.x root.toNat).snd.pairs.getD i ((0 : Int), (0 : Int))).fst, Value.int IntKind.i64 ((treeP y.x
    root.toNat).snd.pairs.getD i ((0 : Int), (0 : Int))).snd] = [Value.int IntKind.i64 ((treeP y.x root.toNat).snd.pairs.getD i ((0 : Int), (0 : Int))).fst, Value.int IntKind.i64
    ((treeP y.x root.toNat).snd.pairs.getD i ((0 : Int), (0 : Int))).snd]) ∧ True)))) ∧ (decide ((↑z.i : Int) < (↑(treeP y.x root.toNat).snd.pairs.length : Int)) = false →
    ((-9223372036854775808 : Int) ≤ (4 : Int) * (↑(treeP y.x root.toNat).snd.pairs.length : Int) ∧ (4 : Int) * (↑(treeP y.x root.toNat).snd.pairs.length : Int) ≤ (9223372036854775807 :
    Int)) ∧ (decide ((0 : Int) ≤ (4 : Int) * (↑(treeP y.x root.toNat).snd.pairs.length : Int)) = true → (true == ((root == (0 : Int)) == ((↑(treeP y.x root.toNat).snd.pairs.length :
    Int) == (0 : Int)))) = true ∧ ∃ (W' : World), some y.V = some W' ∧ Grow W W') ∧ (decide ((0 : Int) ≤ (4 : Int) * (↑(treeP y.x root.toNat).snd.pairs.length : Int)) = false → false =
    true ∧ ∃ (W' : World), some y.V = some W' ∧ Grow W W'))) ∧ True) ∧ ((treeP y.x root.toNat).fst = true → ∀ (cap_1 : Nat), (treeP y.x root.toNat).snd.hs.length ≤ cap_1 → (∀ (y_1 : QY
    (treeP y.x root.toNat).snd.pairs), (∃ (z : (Emb.mk { _u : Unit // (treeP y.x root.toNat).snd.pairs.length = (0 : Nat) } QY.z).Z), QY.z z = y_1) ∨ (∃ (z : (Emb.mk (QS (treeP y.x
    root.toNat).snd.pairs) QY.s).Z), QY.s z = y_1) ∨ False) ∧ (∃ (z : (Emb.mk (QS (treeP y.x root.toNat).snd.pairs) QY.s).Z), root = root ∧ (0 : Nat) = (0 : Nat) ∧ (treeP y.x
    root.toNat).snd.hs.length = (treeP y.x root.toNat).snd.hs.length ∧ cap_1 = cap_1 ∧ y.V = y.V ∧ (0 : Nat) = (0 : Nat) ∧ (treeP y.x root.toNat).snd.pairs.length = (treeP y.x
    root.toNat).snd.pairs.length ∧ z.cap = cap ∧ (↑(treeP y.x root.toNat).snd.pairs.length : Int) = (↑(treeP y.x root.toNat).snd.pairs.length : Int) ∧ (↑z.i : Int) = (0 : Int) ∧ ((treeP
    y.x root.toNat).snd.pairs.length = (treeP y.x root.toNat).snd.pairs.length ∧ z.cap = cap ∧ ∀ (i : Nat), i < (treeP y.x root.toNat).snd.pairs.length → [Value.int IntKind.i64 ((treeP
    y.x root.toNat).snd.pairs.getD i ((0 : Int), (0 : Int))).fst, Value.int IntKind.i64 ((treeP y.x root.toNat).snd.pairs.getD i ((0 : Int), (0 : Int))).snd] = [Value.int IntKind.i64
    ((treeP y.x root.toNat).snd.pairs.getD i ((0 : Int), (0 : Int))).fst, Value.int IntKind.i64 ((treeP y.x root.toNat).snd.pairs.getD i ((0 : Int), (0 : Int))).snd]) ∧ True) ∧ (∀ (z :
    (Emb.mk { _u : Unit // (treeP y.x root.toNat).snd.pairs.length = (0 : Nat) } QY.z).Z) (ρ : Nat → Value), (decide ((↑(treeP y.x root.toNat).snd.hs.length : Int) ≤ (0 : Int)) = true →
    (true == ((root == (0 : Int)) == true)) = true ∧ ∃ (W' : World), some y.V = some W' ∧ Grow W W') ∧ (decide ((↑(treeP y.x root.toNat).snd.hs.length : Int) ≤ (0 : Int)) = false →
    false = true ∧ ∃ (W' : World), some y.V = some W' ∧ Grow W W')) ∧ (∀ (z : (Emb.mk (QS (treeP y.x root.toNat).snd.pairs) QY.s).Z) (ρ : Nat → Value), (decide ((↑z.i : Int) < (↑(treeP
    y.x root.toNat).snd.pairs.length : Int)) = true → (decide ((↑z.i : Int) > (0 : Int)) = true → ((0 : Int) ≤ (↑z.i : Int) ∧ (↑z.i : Int) < (↑(treeP y.x root.toNat).snd.pairs.length :
    Int)) ∧ addO true (0 : Nat) (↑z.i : Int).toNat < (treeP y.x root.toNat).snd.pairs.length ∧ ((-9223372036854775808 : Int) ≤ (↑z.i : Int) - (1 : Int) ∧ (↑z.i : Int) - (1 : Int) ≤
    (9223372036854775807 : Int)) ∧ ((0 : Int) ≤ (↑z.i : Int) - (1 : Int) ∧ (↑z.i : Int) - (1 : Int) < (↑(treeP y.x root.toNat).snd.pairs.length : Int)) ∧ addO true (0 : Nat) ((↑z.i :
    Int) - (1 : Int)).toNat < (treeP y.x root.toNat).snd.pairs.length ∧ (decide (((treeP y.x root.toNat).snd.pairs.getD (addO true (0 : Nat) (↑z.i : Int).toNat) ((0 : Int), (0 :
    Int))).fst ≤ ((treeP y.x root.toNat).snd.pairs.getD (addO true (0 : Nat) ((↑z.i : Int) - (1 : Int)).toNat) ((0 : Int), (0 : Int))).fst) = true → false = true ∧ ∃ (W' : World), some
    y.V = some W' ∧ Grow W W') ∧ (decide (((treeP y.x root.toNat).snd.pairs.getD (addO true (0 : Nat) (↑z.i : Int).toNat) ((0 : Int), (0 : Int))).fst ≤ ((treeP y.x
    root.toNat).snd.pairs.getD (addO true (0 : Nat) ((↑z.i : Int) - (1 : Int)).toNat) ((0 : Int), (0 : Int))).fst) = false → ((0 : Int) ≤ (↑z.i : Int) ∧ (↑z.i : Int) < (↑(treeP y.x
    root.toNat).snd.pairs.length : Int)) ∧ addO true (0 : Nat) (↑z.i : Int).toNat < (treeP y.x root.toNat).snd.pairs.length ∧ (decide (((treeP y.x root.toNat).snd.pairs.getD (addO true
    (0 : Nat) (↑z.i : Int).toNat) ((0 : Int), (0 : Int))).snd < (0 : Int)) = true → false = true ∧ ∃ (W' : World), some y.V = some W' ∧ Grow W W') ∧ (decide (((treeP y.x
    root.toNat).snd.pairs.getD (addO true (0 : Nat) (↑z.i : Int).toNat) ((0 : Int), (0 : Int))).snd < (0 : Int)) = false → ((0 : Int) ≤ (↑z.i : Int) ∧ (↑z.i : Int) < (↑(treeP y.x
    root.toNat).snd.pairs.length : Int)) ∧ addO true (0 : Nat) (↑z.i : Int).toNat < (treeP y.x root.toNat).snd.pairs.length ∧ (decide (((treeP y.x root.toNat).snd.pairs.getD (addO true
    (0 : Nat) (↑z.i : Int).toNat) ((0 : Int), (0 : Int))).snd > (1023 : Int)) = true → false = true ∧ ∃ (W' : World), some y.V = some W' ∧ Grow W W') ∧ (decide (((treeP y.x
    root.toNat).snd.pairs.getD (addO true (0 : Nat) (↑z.i : Int).toNat) ((0 : Int), (0 : Int))).snd > (1023 : Int)) = false → ((-9223372036854775808 : Int) ≤ (↑z.i : Int) + (1 : Int) ∧
    (↑z.i : Int) + (1 : Int) ≤ (9223372036854775807 : Int)) ∧ ∃ (z_1 : (Emb.mk (QS (treeP y.x root.toNat).snd.pairs) QY.s).Z), muQ (QY.s z_1) < muQ (QY.s z) ∧ root = root ∧ (0 : Nat) =
    (0 : Nat) ∧ (treeP y.x root.toNat).snd.hs.length = (treeP y.x root.toNat).snd.hs.length ∧ cap_1 = cap_1 ∧ y.V = y.V ∧ (0 : Nat) = (0 : Nat) ∧ (treeP y.x root.toNat).snd.pairs.length
    = (treeP y.x root.toNat).snd.pairs.length ∧ z_1.cap = z.cap ∧ (↑(treeP y.x root.toNat).snd.pairs.length : Int) = (↑(treeP y.x root.toNat).snd.pairs.length : Int) ∧ (↑z_1.i : Int) =
    (↑z.i : Int) + (1 : Int) ∧ ((treeP y.x root.toNat).snd.pairs.length = (treeP y.x root.toNat).snd.pairs.length ∧ z_1.cap = z.cap ∧ ∀ (i : Nat), i < (treeP y.x
    root.toNat).snd.pairs.length → [Value.int IntKind.i64 ((treeP y.x root.toNat).snd.pairs.getD i ((0 : Int), (0 : Int))).fst, Value.int IntKind.i64 ((treeP y.x
    root.toNat).snd.pairs.getD i ((0 : Int), (0 : Int))).snd] = [Value.int IntKind.i64 ((treeP y.x root.toNat).snd.pairs.getD i ((0 : Int), (0 : Int))).fst, Value.int IntKind.i64
    ((treeP y.x root.toNat).snd.pairs.getD i ((0 : Int), (0 : Int))).snd]) ∧ True)))) ∧ (decide ((↑z.i : Int) > (0 : Int)) = false → ((0 : Int) ≤ (↑z.i : Int) ∧ (↑z.i : Int) < (↑(treeP
    y.x root.toNat).snd.pairs.length : Int)) ∧ addO true (0 : Nat) (↑z.i : Int).toNat < (treeP y.x root.toNat).snd.pairs.length ∧ (decide (((treeP y.x root.toNat).snd.pairs.getD (addO
    true (0 : Nat) (↑z.i : Int).toNat) ((0 : Int), (0 : Int))).snd < (0 : Int)) = true → false = true ∧ ∃ (W' : World), some y.V = some W' ∧ Grow W W') ∧ (decide (((treeP y.x
    root.toNat).snd.pairs.getD (addO true (0 : Nat) (↑z.i : Int).toNat) ((0 : Int), (0 : Int))).snd < (0 : Int)) = false → ((0 : Int) ≤ (↑z.i : Int) ∧ (↑z.i : Int) < (↑(treeP y.x
    root.toNat).snd.pairs.length : Int)) ∧ addO true (0 : Nat) (↑z.i : Int).toNat < (treeP y.x root.toNat).snd.pairs.length ∧ (decide (((treeP y.x root.toNat).snd.pairs.getD (addO true
    (0 : Nat) (↑z.i : Int).toNat) ((0 : Int), (0 : Int))).snd > (1023 : Int)) = true → false = true ∧ ∃ (W' : World), some y.V = some W' ∧ Grow W W') ∧ (decide (((treeP y.x
    root.toNat).snd.pairs.getD (addO true (0 : Nat) (↑z.i : Int).toNat) ((0 : Int), (0 : Int))).snd > (1023 : Int)) = false → ((-9223372036854775808 : Int) ≤ (↑z.i : Int) + (1 : Int) ∧
    (↑z.i : Int) + (1 : Int) ≤ (9223372036854775807 : Int)) ∧ ∃ (z_1 : (Emb.mk (QS (treeP y.x root.toNat).snd.pairs) QY.s).Z), muQ (QY.s z_1) < muQ (QY.s z) ∧ root = root ∧ (0 : Nat) =
    (0 : Nat) ∧ (treeP y.x root.toNat).snd.hs.length = (treeP y.x root.toNat).snd.hs.length ∧ cap_1 = cap_1 ∧ y.V = y.V ∧ (0 : Nat) = (0 : Nat) ∧ (treeP y.x root.toNat).snd.pairs.length
    = (treeP y.x root.toNat).snd.pairs.length ∧ z_1.cap = z.cap ∧ (↑(treeP y.x root.toNat).snd.pairs.length : Int) = (↑(treeP y.x root.toNat).snd.pairs.length : Int) ∧ (↑z_1.i : Int) =
    (↑z.i : Int) + (1 : Int) ∧ ((treeP y.x root.toNat).snd.pairs.length = (treeP y.x root.toNat).snd.pairs.length ∧ z_1.cap = z.cap ∧ ∀ (i : Nat), i < (treeP y.x
    root.toNat).snd.pairs.length → [Value.int IntKind.i64 ((treeP y.x root.toNat).snd.pairs.getD i ((0 : Int), (0 : Int))).fst, Value.int IntKind.i64 ((treeP y.x
    root.toNat).snd.pairs.getD i ((0 : Int), (0 : Int))).snd] = [Value.int IntKind.i64 ((treeP y.x root.toNat).snd.pairs.getD i ((0 : Int), (0 : Int))).fst, Value.int IntKind.i64
    ((treeP y.x root.toNat).snd.pairs.getD i ((0 : Int), (0 : Int))).snd]) ∧ True)))) ∧ (decide ((↑z.i : Int) < (↑(treeP y.x root.toNat).snd.pairs.length : Int)) = false →
    ((-9223372036854775808 : Int) ≤ (4 : Int) * (↑(treeP y.x root.toNat).snd.pairs.length : Int) ∧ (4 : Int) * (↑(treeP y.x root.toNat).snd.pairs.length : Int) ≤ (9223372036854775807 :
    Int)) ∧ (decide ((↑(treeP y.x root.toNat).snd.hs.length : Int) ≤ (4 : Int) * (↑(treeP y.x root.toNat).snd.pairs.length : Int)) = true → (true == ((root == (0 : Int)) == ((↑(treeP
    y.x root.toNat).snd.pairs.length : Int) == (0 : Int)))) = true ∧ ∃ (W' : World), some y.V = some W' ∧ Grow W W') ∧ (decide ((↑(treeP y.x root.toNat).snd.hs.length : Int) ≤ (4 : Int)
    * (↑(treeP y.x root.toNat).snd.pairs.length : Int)) = false → false = true ∧ ∃ (W' : World), some y.V = some W' ∧ Grow W W'))) ∧ True)))) := by
  kernel_rfl
theorem quadFew_run (W : World) (a : Option Addr) (len cap : Nat) (root : Int) (hc : SlisOk W a len ∧ 0 ≤ root ∧ root < 18446744073709551616) : Run (callN Try.prog (tblQF : List (Smry Try.prog XP)) (fun _ _ => false) 100 20 7 [.c (.sliv a false len cap), .c (.int false .u64 root)] ⟨[(0, .seen W)], 1⟩ (qfAll W root) (fun v m _ => retGrow W v m)) := by
  constructor
  rw [quadFew_vc]
  obtain ⟨hs, hr0, hr1⟩ := hc
  refine ⟨hs, fun b hb => ⟨fun _ => ⟨rfl, W, rfl, Grow.refl W⟩, fun hbf => ⟨⟨⟨hs, hb hbf⟩, fun V x d a' l' c' ho => ⟨⟨x, V, ho.grow⟩, (by repeat' first | exact rfl | exact trivial | apply And.intro | (intro _ _; exact rfl))⟩⟩, fun y ρ => ?_⟩⟩⟩
  have F0 := qf_of y.x root hr0
  generalize treeP y.x root.toNat = T at *
  refine ⟨⟨hr0, hr1⟩, fun h1 => ⟨⟨hr0, hr1⟩, fun _ => ⟨rfl, ⟨y.V, rfl, y.g⟩⟩, fun h2 => (by rw [h1] at h2; cases h2), fun h2 => (by rw [h1] at h2; cases h2)⟩, fun h1 h0 => ?_, fun h1 cap1 hc1 => ?_⟩
  · have F := F0 h1
    have hmx := F.max
    have hfw := F.few
    refine ⟨⟨hr0, hr1⟩, fun h2 => (by rw [h1] at h2; cases h2), fun _ h3 => ?_, fun _ cap2 hc2 => ?_⟩
    · refine ⟨?_, ⟨⟨(), h0⟩, (by repeat' first | exact rfl | exact trivial | apply And.intro | (intro _ _; exact rfl))⟩, ?_, ?_, trivial⟩
      · intro y4; cases y4 with | z u => exact .inl ⟨u, rfl⟩ | s u => exact .inr (.inl ⟨u, rfl⟩)
      · refine fun z ρ2 => ⟨by have := F.root; have e0 : T.2.pairs.length = 0 := z.2; rw [e0] at this; rw [show ((root == 0) == true) = true from this]; rfl, y.V, rfl, y.g⟩
      · refine fun (z : QS T.2.pairs) ρ2 => ⟨fun hlt => ?_, fun hge => ?_⟩
        · have hlt' : z.i < T.2.pairs.length := by have := of_decide_eq_true hlt; omega
          have hv := F.val z.i hlt'
          have ea : addO true 0 ((z.i : Nat) : Int).toNat = z.i := by rw [addO_eq, Int.toNat_natCast, Nat.zero_add]
          refine ⟨fun hg => ?_, fun hg => ?_⟩
          · have hg' : 0 < z.i := by have := of_decide_eq_true hg; omega
            have hup := F.up (z.i - 1) z.i (by omega) hlt'
            have eb : addO true 0 ((z.i : Int) - 1).toNat = z.i - 1 := by rw [addO_eq]; omega
            simp only [ea, eb]
            refine ⟨⟨by omega, by omega⟩, hlt', ⟨by omega, by omega⟩, ⟨by omega, by omega⟩, by omega, fun h => absurd (of_decide_eq_true h) (by omega), fun _ => ⟨⟨by omega, by omega⟩, hlt', fun h => absurd (of_decide_eq_true h) (by omega), fun _ => ⟨⟨by omega, by omega⟩, hlt', fun h => absurd (of_decide_eq_true h) (by omega), fun _ => ⟨⟨by omega, by omega⟩, ⟨z.i + 1, z.cap, hlt'⟩, by
              repeat' first | exact rfl | exact trivial | apply And.intro | (intro _ _; exact rfl)
              all_goals first
                | (show T.2.pairs.length - (z.i + 1) < T.2.pairs.length - z.i; omega)
                | (exact fun _ _ => trivial) | (show ((z.i + 1 : Nat) : Int) = (z.i : Int) + 1; omega)⟩⟩⟩⟩
          · simp only [ea]
            exact ⟨⟨by omega, by omega⟩, hlt', fun h => absurd (of_decide_eq_true h) (by omega), fun _ => ⟨⟨by omega, by omega⟩, hlt', fun h => absurd (of_decide_eq_true h) (by omega), fun _ => ⟨⟨by omega, by omega⟩, ⟨z.i + 1, z.cap, hlt'⟩, by
              repeat' first | exact rfl | exact trivial | apply And.intro | (intro _ _; exact rfl)
              all_goals first
                | (show T.2.pairs.length - (z.i + 1) < T.2.pairs.length - z.i; omega)
                | (exact fun _ _ => trivial) | (show ((z.i + 1 : Nat) : Int) = (z.i : Int) + 1; omega)⟩⟩⟩
        · have hz := z.hi
          have hlen : z.i = T.2.pairs.length := by have := of_decide_eq_false hge; omega
          refine ⟨⟨by omega, by omega⟩, fun _ => ⟨by rw [F.root]; rfl, y.V, rfl, y.g⟩, fun h => absurd (of_decide_eq_false h) (by omega)⟩
    · refine ⟨?_, ⟨⟨(), h0⟩, (by repeat' first | exact rfl | exact trivial | apply And.intro | (intro _ _; exact rfl))⟩, ?_, ?_, trivial⟩
      · intro y4; cases y4 with | z u => exact .inl ⟨u, rfl⟩ | s u => exact .inr (.inl ⟨u, rfl⟩)
      · refine fun z ρ2 => ⟨fun _ => ⟨by have := F.root; have e0 : T.2.pairs.length = 0 := z.2; rw [e0] at this; rw [show ((root == 0) == true) = true from this]; rfl, y.V, rfl, y.g⟩, fun h => absurd (of_decide_eq_false h) (by have e0 : T.2.pairs.length = 0 := z.2; omega)⟩
      · refine fun (z : QS T.2.pairs) ρ2 => ⟨fun hlt => ?_, fun hge => ?_⟩
        · have hlt' : z.i < T.2.pairs.length := by have := of_decide_eq_true hlt; omega
          have hv := F.val z.i hlt'
          have ea : addO true 0 ((z.i : Nat) : Int).toNat = z.i := by rw [addO_eq, Int.toNat_natCast, Nat.zero_add]
          refine ⟨fun hg => ?_, fun hg => ?_⟩
          · have hg' : 0 < z.i := by have := of_decide_eq_true hg; omega
            have hup := F.up (z.i - 1) z.i (by omega) hlt'
            have eb : addO true 0 ((z.i : Int) - 1).toNat = z.i - 1 := by rw [addO_eq]; omega
            simp only [ea, eb]
            refine ⟨⟨by omega, by omega⟩, hlt', ⟨by omega, by omega⟩, ⟨by omega, by omega⟩, by omega, fun h => absurd (of_decide_eq_true h) (by omega), fun _ => ⟨⟨by omega, by omega⟩, hlt', fun h => absurd (of_decide_eq_true h) (by omega), fun _ => ⟨⟨by omega, by omega⟩, hlt', fun h => absurd (of_decide_eq_true h) (by omega), fun _ => ⟨⟨by omega, by omega⟩, ⟨z.i + 1, z.cap, hlt'⟩, by
              repeat' first | exact rfl | exact trivial | apply And.intro | (intro _ _; exact rfl)
              all_goals first
                | (show T.2.pairs.length - (z.i + 1) < T.2.pairs.length - z.i; omega)
                | (exact fun _ _ => trivial) | (show ((z.i + 1 : Nat) : Int) = (z.i : Int) + 1; omega)⟩⟩⟩⟩
          · simp only [ea]
            exact ⟨⟨by omega, by omega⟩, hlt', fun h => absurd (of_decide_eq_true h) (by omega), fun _ => ⟨⟨by omega, by omega⟩, hlt', fun h => absurd (of_decide_eq_true h) (by omega), fun _ => ⟨⟨by omega, by omega⟩, ⟨z.i + 1, z.cap, hlt'⟩, by
              repeat' first | exact rfl | exact trivial | apply And.intro | (intro _ _; exact rfl)
              all_goals first
                | (show T.2.pairs.length - (z.i + 1) < T.2.pairs.length - z.i; omega)
                | (exact fun _ _ => trivial) | (show ((z.i + 1 : Nat) : Int) = (z.i : Int) + 1; omega)⟩⟩⟩
        · have hz := z.hi
          have hlen : z.i = T.2.pairs.length := by have := of_decide_eq_false hge; omega
          refine ⟨⟨by omega, by omega⟩, fun _ => ⟨by rw [F.root]; rfl, y.V, rfl, y.g⟩, fun h => absurd (of_decide_eq_false h) (by omega)⟩
  · have F := F0 h1
    have hmx := F.max
    have hfw := F.few
    refine ⟨⟨hr0, hr1⟩, fun h2 => (by rw [h1] at h2; cases h2), fun _ h3 => ?_, fun _ cap2 hc2 => ?_⟩
    · refine ⟨?_, ⟨⟨0, cap1, Nat.zero_le _⟩, (by repeat' first | exact rfl | exact trivial | apply And.intro | (intro _ _; exact rfl))⟩, ?_, ?_, trivial⟩
      · intro y4; cases y4 with | z u => exact .inl ⟨u, rfl⟩ | s u => exact .inr (.inl ⟨u, rfl⟩)
      · refine fun z ρ2 => ⟨by have := F.root; have e0 : T.2.pairs.length = 0 := z.2; rw [e0] at this; rw [show ((root == 0) == true) = true from this]; rfl, y.V, rfl, y.g⟩
      · refine fun (z : QS T.2.pairs) ρ2 => ⟨fun hlt => ?_, fun hge => ?_⟩
        · have hlt' : z.i < T.2.pairs.length := by have := of_decide_eq_true hlt; omega
          have hv := F.val z.i hlt'
          have ea : addO true 0 ((z.i : Nat) : Int).toNat = z.i := by rw [addO_eq, Int.toNat_natCast, Nat.zero_add]
          refine ⟨fun hg => ?_, fun hg => ?_⟩
          · have hg' : 0 < z.i := by have := of_decide_eq_true hg; omega
            have hup := F.up (z.i - 1) z.i (by omega) hlt'
            have eb : addO true 0 ((z.i : Int) - 1).toNat = z.i - 1 := by rw [addO_eq]; omega
            simp only [ea, eb]
            refine ⟨⟨by omega, by omega⟩, hlt', ⟨by omega, by omega⟩, ⟨by omega, by omega⟩, by omega, fun h => absurd (of_decide_eq_true h) (by omega), fun _ => ⟨⟨by omega, by omega⟩, hlt', fun h => absurd (of_decide_eq_true h) (by omega), fun _ => ⟨⟨by omega, by omega⟩, hlt', fun h => absurd (of_decide_eq_true h) (by omega), fun _ => ⟨⟨by omega, by omega⟩, ⟨z.i + 1, z.cap, hlt'⟩, by
              repeat' first | exact rfl | exact trivial | apply And.intro | (intro _ _; exact rfl)
              all_goals first
                | (show T.2.pairs.length - (z.i + 1) < T.2.pairs.length - z.i; omega)
                | (exact fun _ _ => trivial) | (show ((z.i + 1 : Nat) : Int) = (z.i : Int) + 1; omega)⟩⟩⟩⟩
          · simp only [ea]
            exact ⟨⟨by omega, by omega⟩, hlt', fun h => absurd (of_decide_eq_true h) (by omega), fun _ => ⟨⟨by omega, by omega⟩, hlt', fun h => absurd (of_decide_eq_true h) (by omega), fun _ => ⟨⟨by omega, by omega⟩, ⟨z.i + 1, z.cap, hlt'⟩, by
              repeat' first | exact rfl | exact trivial | apply And.intro | (intro _ _; exact rfl)
              all_goals first
                | (show T.2.pairs.length - (z.i + 1) < T.2.pairs.length - z.i; omega)
                | (exact fun _ _ => trivial) | (show ((z.i + 1 : Nat) : Int) = (z.i : Int) + 1; omega)⟩⟩⟩
        · have hz := z.hi
          have hlen : z.i = T.2.pairs.length := by have := of_decide_eq_false hge; omega
          refine ⟨⟨by omega, by omega⟩, fun _ => ⟨by rw [F.root]; rfl, y.V, rfl, y.g⟩, fun h => absurd (of_decide_eq_false h) (by omega)⟩
    · refine ⟨?_, ⟨⟨0, cap1, Nat.zero_le _⟩, (by repeat' first | exact rfl | exact trivial | apply And.intro | (intro _ _; exact rfl))⟩, ?_, ?_, trivial⟩
      · intro y4; cases y4 with | z u => exact .inl ⟨u, rfl⟩ | s u => exact .inr (.inl ⟨u, rfl⟩)
      · refine fun z ρ2 => ⟨fun _ => ⟨by have := F.root; have e0 : T.2.pairs.length = 0 := z.2; rw [e0] at this; rw [show ((root == 0) == true) = true from this]; rfl, y.V, rfl, y.g⟩, fun h => absurd (of_decide_eq_false h) (by have e0 : T.2.pairs.length = 0 := z.2; omega)⟩
      · refine fun (z : QS T.2.pairs) ρ2 => ⟨fun hlt => ?_, fun hge => ?_⟩
        · have hlt' : z.i < T.2.pairs.length := by have := of_decide_eq_true hlt; omega
          have hv := F.val z.i hlt'
          have ea : addO true 0 ((z.i : Nat) : Int).toNat = z.i := by rw [addO_eq, Int.toNat_natCast, Nat.zero_add]
          refine ⟨fun hg => ?_, fun hg => ?_⟩
          · have hg' : 0 < z.i := by have := of_decide_eq_true hg; omega
            have hup := F.up (z.i - 1) z.i (by omega) hlt'
            have eb : addO true 0 ((z.i : Int) - 1).toNat = z.i - 1 := by rw [addO_eq]; omega
            simp only [ea, eb]
            refine ⟨⟨by omega, by omega⟩, hlt', ⟨by omega, by omega⟩, ⟨by omega, by omega⟩, by omega, fun h => absurd (of_decide_eq_true h) (by omega), fun _ => ⟨⟨by omega, by omega⟩, hlt', fun h => absurd (of_decide_eq_true h) (by omega), fun _ => ⟨⟨by omega, by omega⟩, hlt', fun h => absurd (of_decide_eq_true h) (by omega), fun _ => ⟨⟨by omega, by omega⟩, ⟨z.i + 1, z.cap, hlt'⟩, by
              repeat' first | exact rfl | exact trivial | apply And.intro | (intro _ _; exact rfl)
              all_goals first
                | (show T.2.pairs.length - (z.i + 1) < T.2.pairs.length - z.i; omega)
                | (exact fun _ _ => trivial) | (show ((z.i + 1 : Nat) : Int) = (z.i : Int) + 1; omega)⟩⟩⟩⟩
          · simp only [ea]
            exact ⟨⟨by omega, by omega⟩, hlt', fun h => absurd (of_decide_eq_true h) (by omega), fun _ => ⟨⟨by omega, by omega⟩, hlt', fun h => absurd (of_decide_eq_true h) (by omega), fun _ => ⟨⟨by omega, by omega⟩, ⟨z.i + 1, z.cap, hlt'⟩, by
              repeat' first | exact rfl | exact trivial | apply And.intro | (intro _ _; exact rfl)
              all_goals first
                | (show T.2.pairs.length - (z.i + 1) < T.2.pairs.length - z.i; omega)
                | (exact fun _ _ => trivial) | (show ((z.i + 1 : Nat) : Int) = (z.i : Int) + 1; omega)⟩⟩⟩
        · have hz := z.hi
          have hlen : z.i = T.2.pairs.length := by have := of_decide_eq_false hge; omega
          refine ⟨⟨by omega, by omega⟩, fun _ => ⟨by rw [F.root]; rfl, y.V, rfl, y.g⟩, fun h => absurd (of_decide_eq_false h) (by omega)⟩
end Go.Proofs.Ytnfpkadepomjjaa

/- Slices of words, as they are read: what a law is handed. -/
namespace Go.Proofs.Ytnfpkadepomjjaa
open Go Go.RowKit
theorem slisOk_at {W : World} {a : Option Addr} {len : Nat} (hs : 0 < len → a.isSome = true) (hx : ∀ j, j < len → At Try.prog W 32 (addOpt a (j * Try.prog.cellsOf 32))) (hl : len ≤ maxLen) : SlisOk W a len := by
  have e0 : Try.prog.cellsOf 32 = 1 := by kernel_rfl
  have hw : ∀ j, j < len → At Try.prog W 32 (addOpt a j) := fun j hj => by
    have h := hx j hj
    rw [e0, Nat.mul_one] at h
    exact h
  have h2 : maxLen ≤ 9223372036854775807 := by unfold maxLen; decide
  refine ⟨hs, fun j hj => (at_slice Try.underlying32 (hw j hj)).1, fun j hj => ?_, fun j hj i hi => ?_, by omega⟩
  · have h1 := at_slen Try.underlying32 (hw j hj)
    exact Nat.le_trans h1 h2
  · have h1 := (at_slice Try.underlying32 (hw j hj)).2.2 i hi
    have e1 : Try.prog.cellsOf 25 = 1 := by kernel_rfl
    rw [e1, Nat.mul_one] at h1
    exact at_one (k := .int .u64) 8 (by kernel_rfl) h1
end Go.Proofs.Ytnfpkadepomjjaa

/- QuadFew: for all blocks and all roots the law returns true and turns nothing. -/
namespace Go.Proofs.Ytnfpkadepomjjaa
open Go Go.RowKit
theorem quadFew_all (W : World) (a : Option Addr) (len cap : Nat) (root : Int) (hs : 0 < len → a.isSome = true) (hx : ∀ j, j < len → At Try.prog W 32 (addOpt a (j * Try.prog.cellsOf 32))) (hl : len ≤ maxLen) (hr : (Lit.int .u64 root).wf = true) :
    Calls Try.prog 7 #[.slice a len cap, .int .u64 root] W fun e w' => e = .returned (.bool true) ∧ Below W.heap.size W w' := by
  have h1 := wf_lit64 hr
  have h2 := law_grow (quadFew_run W a len cap root ⟨slisOk_at hs hx hl, by omega, by omega⟩)
  exact h2
end Go.Proofs.Ytnfpkadepomjjaa
