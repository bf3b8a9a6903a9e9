/- An operation upon a model, run. -/
import Derived.Test.YtaflaaiomlijbaaMdlS
set_option linter.all false
namespace Go.Proofs.Ytaflaaiomlijbaa
open Go Go.RowKit
set_option maxRecDepth 1000000
set_option maxHeartbeats 0
/-- What the executor leaves to be shown of (*roundelay/model.Model).Apply, written out. -/
theorem mdapply1_vc (c k a b : Int) (ps ss : List (Int × Value)) (z : Nat) : (callN Try.prog ([rightS, floorS] : List (Smry Try.prog XN)) (fun _ _ => false) 100 20 34 [.c (.ptr 0 0), .agg [.int false .i64 c, .int false .i64 k, .int false .i64 a, .int false .i64 b]] ⟨mdHeap (⟨true, [], ps, ss⟩ : Md) z, 100⟩ (bN 16) (fun v m _ => mdPost (respV (mdF c k a b (⟨true, [], ps, ss⟩ : Md)).1) (mdF c k a b (⟨true, [], ps, ss⟩ : Md)).2 v m)) = (
    True ∧ (∀ (z : Un), True → ((!decide (RightO c k a b)) = true → ((mdF c k a b (Md.mk true [] ps ss)).snd.nilq = true ∧ (mdF c k a b (Md.mk true [] ps ss)).snd.q = []) ∧ (mdF c k a b
    (Md.mk true [] ps ss)).fst.fst = (1 : Int) ∧ (mdF c k a b (Md.mk true [] ps ss)).fst.snd = (0 : Int) ∧ (True ∧ True ∧ True ∧ True) ∧ (Md.mk true [] (mdF c k a b (Md.mk true [] ps
    ss)).snd.ps (mdF c k a b (Md.mk true [] ps ss)).snd.ss).ps = (Md.mk true [] ps ss).ps ∧ (Md.mk true [] (mdF c k a b (Md.mk true [] ps ss)).snd.ps (mdF c k a b (Md.mk true [] ps
    ss)).snd.ss).ss = (Md.mk true [] ps ss).ss ∧ True) ∧ ((!decide (RightO c k a b)) = false → ((c == (0 : Int)) = true → ((mdF c k a b (Md.mk true [] ps ss)).snd.nilq = true ∧ (mdF c k
    a b (Md.mk true [] ps ss)).snd.q = []) ∧ (mdF c k a b (Md.mk true [] ps ss)).fst.fst = (1 : Int) ∧ (mdF c k a b (Md.mk true [] ps ss)).fst.snd = (0 : Int) ∧ (True ∧ True ∧ True ∧
    True) ∧ (Md.mk true [] (mdF c k a b (Md.mk true [] ps ss)).snd.ps (mdF c k a b (Md.mk true [] ps ss)).snd.ss).ps = (Md.mk true [] ps ss).ps ∧ (Md.mk true [] (mdF c k a b (Md.mk true
    [] ps ss)).snd.ps (mdF c k a b (Md.mk true [] ps ss)).snd.ss).ss = (Md.mk true [] ps ss).ss ∧ True) ∧ ((c == (0 : Int)) = false → (decide (c ≤ (3 : Int)) = true → ((c == (3 : Int))
    = true → ((mdF c k a b (Md.mk true [] ps ss)).snd.nilq = true ∧ (mdF c k a b (Md.mk true [] ps ss)).snd.q = []) ∧ (mdF c k a b (Md.mk true [] ps ss)).fst.fst = (0 : Int) ∧ (mdF c k
    a b (Md.mk true [] ps ss)).fst.snd = (0 : Int) ∧ (True ∧ True ∧ True ∧ True) ∧ (Md.mk true [] (mdF c k a b (Md.mk true [] ps ss)).snd.ps (mdF c k a b (Md.mk true [] ps
    ss)).snd.ss).ps = (Md.mk true [] ps ss).ps ∧ (Md.mk true [] (mdF c k a b (Md.mk true [] ps ss)).snd.ps (mdF c k a b (Md.mk true [] ps ss)).snd.ss).ss = (Md.mk true [] ps ss).ss ∧
    True) ∧ ((c == (3 : Int)) = false → ((c == (1 : Int)) = true → ((c == (1 : Int)) = true → (c = c ∧ k = k ∧ a = a ∧ b = b ∧ (True ∧ True ∧ (1 : Nat) ≤ (1000000000 : Nat) ∧ ∀ (cap :
    Nat), (1 : Nat) ≤ cap → c = c ∧ k = k ∧ a = a ∧ b = b ∧ ((mdF c k a b (Md.mk true [] ps ss)).snd.nilq = false ∧ ∃ (z' : Nat), (mdF c k a b (Md.mk true [] ps ss)).fst.fst = (0 : Int)
    ∧ (mdF c k a b (Md.mk true [] ps ss)).fst.snd = (1 : Int) ∧ (((0 : Nat) = (0 : Nat) ∧ (Md.mk false (mdF c k a b (Md.mk true [] ps ss)).snd.q (mdF c k a b (Md.mk true [] ps
    ss)).snd.ps (mdF c k a b (Md.mk true [] ps ss)).snd.ss).q.length = (1 : Nat) ∧ z' = cap) ∧ True ∧ True ∧ True) ∧ (Md.mk false (mdF c k a b (Md.mk true [] ps ss)).snd.q (mdF c k a b
    (Md.mk true [] ps ss)).snd.ps (mdF c k a b (Md.mk true [] ps ss)).snd.ss).ps = (Md.mk true [] ps ss).ps ∧ (Md.mk false (mdF c k a b (Md.mk true [] ps ss)).snd.q (mdF c k a b (Md.mk
    true [] ps ss)).snd.ps (mdF c k a b (Md.mk true [] ps ss)).snd.ss).ss = (Md.mk true [] ps ss).ss ∧ ((Md.mk false (mdF c k a b (Md.mk true [] ps ss)).snd.q (mdF c k a b (Md.mk true
    [] ps ss)).snd.ps (mdF c k a b (Md.mk true [] ps ss)).snd.ss).q.length = (1 : Nat) ∧ z' = cap ∧ qF (Md.mk false (mdF c k a b (Md.mk true [] ps ss)).snd.q (mdF c k a b (Md.mk true []
    ps ss)).snd.ps (mdF c k a b (Md.mk true [] ps ss)).snd.ss).q (0 : Nat) = a ∧ True) ∧ True) ∧ True) ∧ True) ∧ True) ∧ ((c == (1 : Int)) = false → ((mdF c k a b (Md.mk true [] ps
    ss)).snd.nilq = true ∧ (mdF c k a b (Md.mk true [] ps ss)).snd.q = []) ∧ (mdF c k a b (Md.mk true [] ps ss)).fst.fst = (1 : Int) ∧ (mdF c k a b (Md.mk true [] ps ss)).fst.snd = (0 :
    Int) ∧ (True ∧ True ∧ True ∧ True) ∧ (Md.mk true [] (mdF c k a b (Md.mk true [] ps ss)).snd.ps (mdF c k a b (Md.mk true [] ps ss)).snd.ss).ps = (Md.mk true [] ps ss).ps ∧ (Md.mk
    true [] (mdF c k a b (Md.mk true [] ps ss)).snd.ps (mdF c k a b (Md.mk true [] ps ss)).snd.ss).ss = (Md.mk true [] ps ss).ss ∧ True)) ∧ ((c == (1 : Int)) = false → ((c == (1 : Int))
    = true → (c = c ∧ k = k ∧ a = a ∧ b = b ∧ (True ∧ True ∧ (1 : Nat) ≤ (1000000000 : Nat) ∧ ∀ (cap : Nat), (1 : Nat) ≤ cap → c = c ∧ k = k ∧ a = a ∧ b = b ∧ ((mdF c k a b (Md.mk true
    [] ps ss)).snd.nilq = false ∧ ∃ (z' : Nat), (mdF c k a b (Md.mk true [] ps ss)).fst.fst = (0 : Int) ∧ (mdF c k a b (Md.mk true [] ps ss)).fst.snd = (1 : Int) ∧ (((0 : Nat) = (0 :
    Nat) ∧ (Md.mk false (mdF c k a b (Md.mk true [] ps ss)).snd.q (mdF c k a b (Md.mk true [] ps ss)).snd.ps (mdF c k a b (Md.mk true [] ps ss)).snd.ss).q.length = (1 : Nat) ∧ z' = cap)
    ∧ True ∧ True ∧ True) ∧ (Md.mk false (mdF c k a b (Md.mk true [] ps ss)).snd.q (mdF c k a b (Md.mk true [] ps ss)).snd.ps (mdF c k a b (Md.mk true [] ps ss)).snd.ss).ps = (Md.mk
    true [] ps ss).ps ∧ (Md.mk false (mdF c k a b (Md.mk true [] ps ss)).snd.q (mdF c k a b (Md.mk true [] ps ss)).snd.ps (mdF c k a b (Md.mk true [] ps ss)).snd.ss).ss = (Md.mk true []
    ps ss).ss ∧ ((Md.mk false (mdF c k a b (Md.mk true [] ps ss)).snd.q (mdF c k a b (Md.mk true [] ps ss)).snd.ps (mdF c k a b (Md.mk true [] ps ss)).snd.ss).q.length = (1 : Nat) ∧ z'
    = cap ∧ qF (Md.mk false (mdF c k a b (Md.mk true [] ps ss)).snd.q (mdF c k a b (Md.mk true [] ps ss)).snd.ps (mdF c k a b (Md.mk true [] ps ss)).snd.ss).q (0 : Nat) = a ∧ True) ∧
    True) ∧ True) ∧ True) ∧ True) ∧ ((c == (1 : Int)) = false → ((mdF c k a b (Md.mk true [] ps ss)).snd.nilq = true ∧ (mdF c k a b (Md.mk true [] ps ss)).snd.q = []) ∧ (mdF c k a b
    (Md.mk true [] ps ss)).fst.fst = (1 : Int) ∧ (mdF c k a b (Md.mk true [] ps ss)).fst.snd = (0 : Int) ∧ (True ∧ True ∧ True ∧ True) ∧ (Md.mk true [] (mdF c k a b (Md.mk true [] ps
    ss)).snd.ps (mdF c k a b (Md.mk true [] ps ss)).snd.ss).ps = (Md.mk true [] ps ss).ps ∧ (Md.mk true [] (mdF c k a b (Md.mk true [] ps ss)).snd.ps (mdF c k a b (Md.mk true [] ps
    ss)).snd.ss).ss = (Md.mk true [] ps ss).ss ∧ True)))) ∧ (decide (c ≤ (3 : Int)) = false → (decide (c ≤ (9 : Int)) = true → ((∀ (y : Int × Value), List.Mem y (Md.mk true [] ps ss).ps
    → ∃ (n : Int), y.snd = Value.int IntKind.i64 n) ∧ ((c == (5 : Int)) = true → (((!(look (Md.mk true [] ps ss).ps k).isSome) = true → ((mdF c k a b (Md.mk true [] ps ss)).snd.nilq =
    true ∧ (mdF c k a b (Md.mk true [] ps ss)).snd.q = []) ∧ (mdF c k a b (Md.mk true [] ps ss)).fst.fst = (1 : Int) ∧ (mdF c k a b (Md.mk true [] ps ss)).fst.snd = (0 : Int) ∧ (True ∧
    True ∧ True ∧ True) ∧ (Md.mk true [] (mdF c k a b (Md.mk true [] ps ss)).snd.ps (mdF c k a b (Md.mk true [] ps ss)).snd.ss).ps = updL (Md.mk true [] ps ss).ps k (Value.int
    IntKind.i64 a) ∧ (Md.mk true [] (mdF c k a b (Md.mk true [] ps ss)).snd.ps (mdF c k a b (Md.mk true [] ps ss)).snd.ss).ss = (Md.mk true [] ps ss).ss ∧ True) ∧ ((!(look (Md.mk true
    [] ps ss).ps k).isSome) = false → ((mdF c k a b (Md.mk true [] ps ss)).snd.nilq = true ∧ (mdF c k a b (Md.mk true [] ps ss)).snd.q = []) ∧ (mdF c k a b (Md.mk true [] ps
    ss)).fst.fst = (0 : Int) ∧ (mdF c k a b (Md.mk true [] ps ss)).fst.snd = lookI (Md.mk true [] ps ss).ps k ∧ (True ∧ True ∧ True ∧ True) ∧ (Md.mk true [] (mdF c k a b (Md.mk true []
    ps ss)).snd.ps (mdF c k a b (Md.mk true [] ps ss)).snd.ss).ps = updL (Md.mk true [] ps ss).ps k (Value.int IntKind.i64 a) ∧ (Md.mk true [] (mdF c k a b (Md.mk true [] ps ss)).snd.ps
    (mdF c k a b (Md.mk true [] ps ss)).snd.ss).ss = (Md.mk true [] ps ss).ss ∧ True)) ∧ True) ∧ ((c == (5 : Int)) = false → ((c == (6 : Int)) = true → (((!(look (Md.mk true [] ps
    ss).ps k).isSome) = true → ((mdF c k a b (Md.mk true [] ps ss)).snd.nilq = true ∧ (mdF c k a b (Md.mk true [] ps ss)).snd.q = []) ∧ (mdF c k a b (Md.mk true [] ps ss)).fst.fst = (1
    : Int) ∧ (mdF c k a b (Md.mk true [] ps ss)).fst.snd = (0 : Int) ∧ (True ∧ True ∧ True ∧ True) ∧ (Md.mk true [] (mdF c k a b (Md.mk true [] ps ss)).snd.ps (mdF c k a b (Md.mk true
    [] ps ss)).snd.ss).ps = delL (Md.mk true [] ps ss).ps k ∧ (Md.mk true [] (mdF c k a b (Md.mk true [] ps ss)).snd.ps (mdF c k a b (Md.mk true [] ps ss)).snd.ss).ss = (Md.mk true []
    ps ss).ss ∧ True) ∧ ((!(look (Md.mk true [] ps ss).ps k).isSome) = false → ((mdF c k a b (Md.mk true [] ps ss)).snd.nilq = true ∧ (mdF c k a b (Md.mk true [] ps ss)).snd.q = []) ∧
    (mdF c k a b (Md.mk true [] ps ss)).fst.fst = (0 : Int) ∧ (mdF c k a b (Md.mk true [] ps ss)).fst.snd = lookI (Md.mk true [] ps ss).ps k ∧ (True ∧ True ∧ True ∧ True) ∧ (Md.mk true
    [] (mdF c k a b (Md.mk true [] ps ss)).snd.ps (mdF c k a b (Md.mk true [] ps ss)).snd.ss).ps = delL (Md.mk true [] ps ss).ps k ∧ (Md.mk true [] (mdF c k a b (Md.mk true [] ps
    ss)).snd.ps (mdF c k a b (Md.mk true [] ps ss)).snd.ss).ss = (Md.mk true [] ps ss).ss ∧ True)) ∧ True) ∧ ((c == (6 : Int)) = false → ((c == (7 : Int)) = true → ((look (Md.mk true []
    ps ss).ps k).isSome = true → ((lookI (Md.mk true [] ps ss).ps k != a) = true → ((mdF c k a b (Md.mk true [] ps ss)).snd.nilq = true ∧ (mdF c k a b (Md.mk true [] ps ss)).snd.q = [])
    ∧ (mdF c k a b (Md.mk true [] ps ss)).fst.fst = (4 : Int) ∧ (mdF c k a b (Md.mk true [] ps ss)).fst.snd = lookI (Md.mk true [] ps ss).ps k ∧ (True ∧ True ∧ True ∧ True) ∧ (Md.mk
    true [] (mdF c k a b (Md.mk true [] ps ss)).snd.ps (mdF c k a b (Md.mk true [] ps ss)).snd.ss).ps = (Md.mk true [] ps ss).ps ∧ (Md.mk true [] (mdF c k a b (Md.mk true [] ps
    ss)).snd.ps (mdF c k a b (Md.mk true [] ps ss)).snd.ss).ss = (Md.mk true [] ps ss).ss ∧ True) ∧ ((lookI (Md.mk true [] ps ss).ps k != a) = false → ((look (Md.mk true [] ps ss).ps
    k).isSome = true → (((!(look (Md.mk true [] ps ss).ps k).isSome) = true → ((mdF c k a b (Md.mk true [] ps ss)).snd.nilq = true ∧ (mdF c k a b (Md.mk true [] ps ss)).snd.q = []) ∧
    (mdF c k a b (Md.mk true [] ps ss)).fst.fst = (1 : Int) ∧ (mdF c k a b (Md.mk true [] ps ss)).fst.snd = (0 : Int) ∧ (True ∧ True ∧ True ∧ True) ∧ (Md.mk true [] (mdF c k a b (Md.mk
    true [] ps ss)).snd.ps (mdF c k a b (Md.mk true [] ps ss)).snd.ss).ps = updL (Md.mk true [] ps ss).ps k (Value.int IntKind.i64 b) ∧ (Md.mk true [] (mdF c k a b (Md.mk true [] ps
    ss)).snd.ps (mdF c k a b (Md.mk true [] ps ss)).snd.ss).ss = (Md.mk true [] ps ss).ss ∧ True) ∧ ((!(look (Md.mk true [] ps ss).ps k).isSome) = false → ((mdF c k a b (Md.mk true []
    ps ss)).snd.nilq = true ∧ (mdF c k a b (Md.mk true [] ps ss)).snd.q = []) ∧ (mdF c k a b (Md.mk true [] ps ss)).fst.fst = (0 : Int) ∧ (mdF c k a b (Md.mk true [] ps ss)).fst.snd =
    lookI (Md.mk true [] ps ss).ps k ∧ (True ∧ True ∧ True ∧ True) ∧ (Md.mk true [] (mdF c k a b (Md.mk true [] ps ss)).snd.ps (mdF c k a b (Md.mk true [] ps ss)).snd.ss).ps = updL
    (Md.mk true [] ps ss).ps k (Value.int IntKind.i64 b) ∧ (Md.mk true [] (mdF c k a b (Md.mk true [] ps ss)).snd.ps (mdF c k a b (Md.mk true [] ps ss)).snd.ss).ss = (Md.mk true [] ps
    ss).ss ∧ True)) ∧ True) ∧ ((look (Md.mk true [] ps ss).ps k).isSome = false → ((!(look (Md.mk true [] ps ss).ps k).isSome) = true → ((mdF c k a b (Md.mk true [] ps ss)).snd.nilq =
    true ∧ (mdF c k a b (Md.mk true [] ps ss)).snd.q = []) ∧ (mdF c k a b (Md.mk true [] ps ss)).fst.fst = (1 : Int) ∧ (mdF c k a b (Md.mk true [] ps ss)).fst.snd = (0 : Int) ∧ (True ∧
    True ∧ True ∧ True) ∧ (Md.mk true [] (mdF c k a b (Md.mk true [] ps ss)).snd.ps (mdF c k a b (Md.mk true [] ps ss)).snd.ss).ps = (Md.mk true [] ps ss).ps ∧ (Md.mk true [] (mdF c k a
    b (Md.mk true [] ps ss)).snd.ps (mdF c k a b (Md.mk true [] ps ss)).snd.ss).ss = (Md.mk true [] ps ss).ss ∧ True) ∧ ((!(look (Md.mk true [] ps ss).ps k).isSome) = false → ((mdF c k
    a b (Md.mk true [] ps ss)).snd.nilq = true ∧ (mdF c k a b (Md.mk true [] ps ss)).snd.q = []) ∧ (mdF c k a b (Md.mk true [] ps ss)).fst.fst = (0 : Int) ∧ (mdF c k a b (Md.mk true []
    ps ss)).fst.snd = lookI (Md.mk true [] ps ss).ps k ∧ (True ∧ True ∧ True ∧ True) ∧ (Md.mk true [] (mdF c k a b (Md.mk true [] ps ss)).snd.ps (mdF c k a b (Md.mk true [] ps
    ss)).snd.ss).ps = (Md.mk true [] ps ss).ps ∧ (Md.mk true [] (mdF c k a b (Md.mk true [] ps ss)).snd.ps (mdF c k a b (Md.mk true [] ps ss)).snd.ss).ss = (Md.mk true [] ps ss).ss ∧
    True)))) ∧ ((look (Md.mk true [] ps ss).ps k).isSome = false → ((look (Md.mk true [] ps ss).ps k).isSome = true → (((!(look (Md.mk true [] ps ss).ps k).isSome) = true → ((mdF c k a
    b (Md.mk true [] ps ss)).snd.nilq = true ∧ (mdF c k a b (Md.mk true [] ps ss)).snd.q = []) ∧ (mdF c k a b (Md.mk true [] ps ss)).fst.fst = (1 : Int) ∧ (mdF c k a b (Md.mk true [] ps
    ss)).fst.snd = (0 : Int) ∧ (True ∧ True ∧ True ∧ True) ∧ (Md.mk true [] (mdF c k a b (Md.mk true [] ps ss)).snd.ps (mdF c k a b (Md.mk true [] ps ss)).snd.ss).ps = updL (Md.mk true
    [] ps ss).ps k (Value.int IntKind.i64 b) ∧ (Md.mk true [] (mdF c k a b (Md.mk true [] ps ss)).snd.ps (mdF c k a b (Md.mk true [] ps ss)).snd.ss).ss = (Md.mk true [] ps ss).ss ∧
    True) ∧ ((!(look (Md.mk true [] ps ss).ps k).isSome) = false → ((mdF c k a b (Md.mk true [] ps ss)).snd.nilq = true ∧ (mdF c k a b (Md.mk true [] ps ss)).snd.q = []) ∧ (mdF c k a b
    (Md.mk true [] ps ss)).fst.fst = (0 : Int) ∧ (mdF c k a b (Md.mk true [] ps ss)).fst.snd = lookI (Md.mk true [] ps ss).ps k ∧ (True ∧ True ∧ True ∧ True) ∧ (Md.mk true [] (mdF c k a
    b (Md.mk true [] ps ss)).snd.ps (mdF c k a b (Md.mk true [] ps ss)).snd.ss).ps = updL (Md.mk true [] ps ss).ps k (Value.int IntKind.i64 b) ∧ (Md.mk true [] (mdF c k a b (Md.mk true
    [] ps ss)).snd.ps (mdF c k a b (Md.mk true [] ps ss)).snd.ss).ss = (Md.mk true [] ps ss).ss ∧ True)) ∧ True) ∧ ((look (Md.mk true [] ps ss).ps k).isSome = false → ((!(look (Md.mk
    true [] ps ss).ps k).isSome) = true → ((mdF c k a b (Md.mk true [] ps ss)).snd.nilq = true ∧ (mdF c k a b (Md.mk true [] ps ss)).snd.q = []) ∧ (mdF c k a b (Md.mk true [] ps
    ss)).fst.fst = (1 : Int) ∧ (mdF c k a b (Md.mk true [] ps ss)).fst.snd = (0 : Int) ∧ (True ∧ True ∧ True ∧ True) ∧ (Md.mk true [] (mdF c k a b (Md.mk true [] ps ss)).snd.ps (mdF c k
    a b (Md.mk true [] ps ss)).snd.ss).ps = (Md.mk true [] ps ss).ps ∧ (Md.mk true [] (mdF c k a b (Md.mk true [] ps ss)).snd.ps (mdF c k a b (Md.mk true [] ps ss)).snd.ss).ss = (Md.mk
    true [] ps ss).ss ∧ True) ∧ ((!(look (Md.mk true [] ps ss).ps k).isSome) = false → ((mdF c k a b (Md.mk true [] ps ss)).snd.nilq = true ∧ (mdF c k a b (Md.mk true [] ps ss)).snd.q =
    []) ∧ (mdF c k a b (Md.mk true [] ps ss)).fst.fst = (0 : Int) ∧ (mdF c k a b (Md.mk true [] ps ss)).fst.snd = lookI (Md.mk true [] ps ss).ps k ∧ (True ∧ True ∧ True ∧ True) ∧ (Md.mk
    true [] (mdF c k a b (Md.mk true [] ps ss)).snd.ps (mdF c k a b (Md.mk true [] ps ss)).snd.ss).ps = (Md.mk true [] ps ss).ps ∧ (Md.mk true [] (mdF c k a b (Md.mk true [] ps
    ss)).snd.ps (mdF c k a b (Md.mk true [] ps ss)).snd.ss).ss = (Md.mk true [] ps ss).ss ∧ True)))) ∧ ((c == (7 : Int)) = false → ((c == (8 : Int)) = true → ((mdF c k a b (Md.mk true
    [] ps ss)).snd.nilq = true ∧ (mdF c k a b (Md.mk true [] ps ss)).snd.q = []) ∧ (mdF c k a b (Md.mk true [] ps ss)).fst.fst = (0 : Int) ∧ (mdF c k a b (Md.mk true [] ps ss)).fst.snd
    = (↑(Md.mk true [] ps ss).ps.length : Int) ∧ (True ∧ True ∧ True ∧ True) ∧ (Md.mk true [] (mdF c k a b (Md.mk true [] ps ss)).snd.ps (mdF c k a b (Md.mk true [] ps ss)).snd.ss).ps =
    (Md.mk true [] ps ss).ps ∧ (Md.mk true [] (mdF c k a b (Md.mk true [] ps ss)).snd.ps (mdF c k a b (Md.mk true [] ps ss)).snd.ss).ss = (Md.mk true [] ps ss).ss ∧ True) ∧ ((c == (8 :
    Int)) = false → ((c == (9 : Int)) = true → (OfNat.ofNat (145 : Nat) = OfNat.ofNat (145 : Nat) ∧ MapOk (Md.mk true [] ps ss).ps ∧ (0 : Int) ≤ k ∧ k ≤ (255 : Int)) ∧ ((mdF c k a b
    (Md.mk true [] ps ss)).snd.nilq = true ∧ (mdF c k a b (Md.mk true [] ps ss)).snd.q = []) ∧ (mdF c k a b (Md.mk true [] ps ss)).fst.fst = (floorI (Md.mk true [] ps ss).ps k).fst ∧
    (mdF c k a b (Md.mk true [] ps ss)).fst.snd = (floorI (Md.mk true [] ps ss).ps k).snd ∧ (True ∧ True ∧ True ∧ True) ∧ (Md.mk true [] (mdF c k a b (Md.mk true [] ps ss)).snd.ps (mdF
    c k a b (Md.mk true [] ps ss)).snd.ss).ps = (Md.mk true [] ps ss).ps ∧ (Md.mk true [] (mdF c k a b (Md.mk true [] ps ss)).snd.ps (mdF c k a b (Md.mk true [] ps ss)).snd.ss).ss =
    (Md.mk true [] ps ss).ss ∧ True) ∧ ((c == (9 : Int)) = false → ((!(look (Md.mk true [] ps ss).ps k).isSome) = true → ((mdF c k a b (Md.mk true [] ps ss)).snd.nilq = true ∧ (mdF c k
    a b (Md.mk true [] ps ss)).snd.q = []) ∧ (mdF c k a b (Md.mk true [] ps ss)).fst.fst = (1 : Int) ∧ (mdF c k a b (Md.mk true [] ps ss)).fst.snd = (0 : Int) ∧ (True ∧ True ∧ True ∧
    True) ∧ (Md.mk true [] (mdF c k a b (Md.mk true [] ps ss)).snd.ps (mdF c k a b (Md.mk true [] ps ss)).snd.ss).ps = (Md.mk true [] ps ss).ps ∧ (Md.mk true [] (mdF c k a b (Md.mk true
    [] ps ss)).snd.ps (mdF c k a b (Md.mk true [] ps ss)).snd.ss).ss = (Md.mk true [] ps ss).ss ∧ True) ∧ ((!(look (Md.mk true [] ps ss).ps k).isSome) = false → ((mdF c k a b (Md.mk
    true [] ps ss)).snd.nilq = true ∧ (mdF c k a b (Md.mk true [] ps ss)).snd.q = []) ∧ (mdF c k a b (Md.mk true [] ps ss)).fst.fst = (0 : Int) ∧ (mdF c k a b (Md.mk true [] ps
    ss)).fst.snd = lookI (Md.mk true [] ps ss).ps k ∧ (True ∧ True ∧ True ∧ True) ∧ (Md.mk true [] (mdF c k a b (Md.mk true [] ps ss)).snd.ps (mdF c k a b (Md.mk true [] ps
    ss)).snd.ss).ps = (Md.mk true [] ps ss).ps ∧ (Md.mk true [] (mdF c k a b (Md.mk true [] ps ss)).snd.ps (mdF c k a b (Md.mk true [] ps ss)).snd.ss).ss = (Md.mk true [] ps ss).ss ∧
    True))))))) ∧ True) ∧ (decide (c ≤ (9 : Int)) = false → ((∀ (y : Int × Value), List.Mem y (Md.mk true [] ps ss).ss → ∃ (n : Int), y.snd = Value.int IntKind.i64 n) ∧ ((c == (10 :
    Int)) = true → (((!(look (Md.mk true [] ps ss).ss k).isSome) = true → ((mdF c k a b (Md.mk true [] ps ss)).snd.nilq = true ∧ (mdF c k a b (Md.mk true [] ps ss)).snd.q = []) ∧ (mdF c
    k a b (Md.mk true [] ps ss)).fst.fst = (1 : Int) ∧ (mdF c k a b (Md.mk true [] ps ss)).fst.snd = (0 : Int) ∧ (True ∧ True ∧ True ∧ True) ∧ (Md.mk true [] (mdF c k a b (Md.mk true []
    ps ss)).snd.ps (mdF c k a b (Md.mk true [] ps ss)).snd.ss).ps = (Md.mk true [] ps ss).ps ∧ (Md.mk true [] (mdF c k a b (Md.mk true [] ps ss)).snd.ps (mdF c k a b (Md.mk true [] ps
    ss)).snd.ss).ss = updL (Md.mk true [] ps ss).ss k (Value.int IntKind.i64 a) ∧ True) ∧ ((!(look (Md.mk true [] ps ss).ss k).isSome) = false → ((mdF c k a b (Md.mk true [] ps
    ss)).snd.nilq = true ∧ (mdF c k a b (Md.mk true [] ps ss)).snd.q = []) ∧ (mdF c k a b (Md.mk true [] ps ss)).fst.fst = (0 : Int) ∧ (mdF c k a b (Md.mk true [] ps ss)).fst.snd =
    lookI (Md.mk true [] ps ss).ss k ∧ (True ∧ True ∧ True ∧ True) ∧ (Md.mk true [] (mdF c k a b (Md.mk true [] ps ss)).snd.ps (mdF c k a b (Md.mk true [] ps ss)).snd.ss).ps = (Md.mk
    true [] ps ss).ps ∧ (Md.mk true [] (mdF c k a b (Md.mk true [] ps ss)).snd.ps (mdF c k a b (Md.mk true [] ps ss)).snd.ss).ss = updL (Md.mk true [] ps ss).ss k (Value.int IntKind.i64
    a) ∧ True)) ∧ True) ∧ ((c == (10 : Int)) = false → ((c == (14 : Int)) = true → (((!(look (Md.mk true [] ps ss).ss k).isSome) = true → ((mdF c k a b (Md.mk true [] ps ss)).snd.nilq =
    true ∧ (mdF c k a b (Md.mk true [] ps ss)).snd.q = []) ∧ (mdF c k a b (Md.mk true [] ps ss)).fst.fst = (1 : Int) ∧ (mdF c k a b (Md.mk true [] ps ss)).fst.snd = (0 : Int) ∧ (True ∧
    True ∧ True ∧ True) ∧ (Md.mk true [] (mdF c k a b (Md.mk true [] ps ss)).snd.ps (mdF c k a b (Md.mk true [] ps ss)).snd.ss).ps = (Md.mk true [] ps ss).ps ∧ (Md.mk true [] (mdF c k a
    b (Md.mk true [] ps ss)).snd.ps (mdF c k a b (Md.mk true [] ps ss)).snd.ss).ss = delL (Md.mk true [] ps ss).ss k ∧ True) ∧ ((!(look (Md.mk true [] ps ss).ss k).isSome) = false →
    ((mdF c k a b (Md.mk true [] ps ss)).snd.nilq = true ∧ (mdF c k a b (Md.mk true [] ps ss)).snd.q = []) ∧ (mdF c k a b (Md.mk true [] ps ss)).fst.fst = (0 : Int) ∧ (mdF c k a b
    (Md.mk true [] ps ss)).fst.snd = lookI (Md.mk true [] ps ss).ss k ∧ (True ∧ True ∧ True ∧ True) ∧ (Md.mk true [] (mdF c k a b (Md.mk true [] ps ss)).snd.ps (mdF c k a b (Md.mk true
    [] ps ss)).snd.ss).ps = (Md.mk true [] ps ss).ps ∧ (Md.mk true [] (mdF c k a b (Md.mk true [] ps ss)).snd.ps (mdF c k a b (Md.mk true [] ps ss)).snd.ss).ss = delL (Md.mk true [] ps
    ss).ss k ∧ True)) ∧ True) ∧ ((c == (14 : Int)) = false → ((c == (11 : Int)) = true → ((look (Md.mk true [] ps ss).ss k).isSome = true → ((lookI (Md.mk true [] ps ss).ss k == (0 :
    Int)) = true → ((mdF c k a b (Md.mk true [] ps ss)).snd.nilq = true ∧ (mdF c k a b (Md.mk true [] ps ss)).snd.q = []) ∧ (mdF c k a b (Md.mk true [] ps ss)).fst.fst = (3 : Int) ∧
    (mdF c k a b (Md.mk true [] ps ss)).fst.snd = (0 : Int) ∧ (True ∧ True ∧ True ∧ True) ∧ (Md.mk true [] (mdF c k a b (Md.mk true [] ps ss)).snd.ps (mdF c k a b (Md.mk true [] ps
    ss)).snd.ss).ps = (Md.mk true [] ps ss).ps ∧ (Md.mk true [] (mdF c k a b (Md.mk true [] ps ss)).snd.ps (mdF c k a b (Md.mk true [] ps ss)).snd.ss).ss = (Md.mk true [] ps ss).ss ∧
    True) ∧ ((lookI (Md.mk true [] ps ss).ss k == (0 : Int)) = false → ((-9223372036854775808 : Int) ≤ lookI (Md.mk true [] ps ss).ss k + (-1 : Int) ∧ lookI (Md.mk true [] ps ss).ss k +
    (-1 : Int) ≤ (9223372036854775807 : Int)) ∧ ((-9223372036854775808 : Int) ≤ lookI (Md.mk true [] ps ss).ss k + (-1 : Int) ∧ lookI (Md.mk true [] ps ss).ss k + (-1 : Int) ≤
    (9223372036854775807 : Int)) ∧ ((mdF c k a b (Md.mk true [] ps ss)).snd.nilq = true ∧ (mdF c k a b (Md.mk true [] ps ss)).snd.q = []) ∧ (mdF c k a b (Md.mk true [] ps ss)).fst.fst =
    (0 : Int) ∧ (mdF c k a b (Md.mk true [] ps ss)).fst.snd = lookI (Md.mk true [] ps ss).ss k + (-1 : Int) ∧ (True ∧ True ∧ True ∧ True) ∧ (Md.mk true [] (mdF c k a b (Md.mk true [] ps
    ss)).snd.ps (mdF c k a b (Md.mk true [] ps ss)).snd.ss).ps = (Md.mk true [] ps ss).ps ∧ (Md.mk true [] (mdF c k a b (Md.mk true [] ps ss)).snd.ps (mdF c k a b (Md.mk true [] ps
    ss)).snd.ss).ss = updL (Md.mk true [] ps ss).ss k (Value.int IntKind.i64 (lookI (Md.mk true [] ps ss).ss k + Int.negSucc (0 : Nat))) ∧ True)) ∧ ((look (Md.mk true [] ps ss).ss
    k).isSome = false → ((c == (12 : Int)) = true → ((look (Md.mk true [] ps ss).ss k).isSome = true → ((lookI (Md.mk true [] ps ss).ss k == (1023 : Int)) = true → ((mdF c k a b (Md.mk
    true [] ps ss)).snd.nilq = true ∧ (mdF c k a b (Md.mk true [] ps ss)).snd.q = []) ∧ (mdF c k a b (Md.mk true [] ps ss)).fst.fst = (2 : Int) ∧ (mdF c k a b (Md.mk true [] ps
    ss)).fst.snd = (0 : Int) ∧ (True ∧ True ∧ True ∧ True) ∧ (Md.mk true [] (mdF c k a b (Md.mk true [] ps ss)).snd.ps (mdF c k a b (Md.mk true [] ps ss)).snd.ss).ps = (Md.mk true [] ps
    ss).ps ∧ (Md.mk true [] (mdF c k a b (Md.mk true [] ps ss)).snd.ps (mdF c k a b (Md.mk true [] ps ss)).snd.ss).ss = (Md.mk true [] ps ss).ss ∧ True) ∧ ((lookI (Md.mk true [] ps
    ss).ss k == (1023 : Int)) = false → ((-9223372036854775808 : Int) ≤ lookI (Md.mk true [] ps ss).ss k + (1 : Int) ∧ lookI (Md.mk true [] ps ss).ss k + (1 : Int) ≤
    (9223372036854775807 : Int)) ∧ ((-9223372036854775808 : Int) ≤ lookI (Md.mk true [] ps ss).ss k + (1 : Int) ∧ lookI (Md.mk true [] ps ss).ss k + (1 : Int) ≤ (9223372036854775807 :
    Int)) ∧ ((mdF c k a b (Md.mk true [] ps ss)).snd.nilq = true ∧ (mdF c k a b (Md.mk true [] ps ss)).snd.q = []) ∧ (mdF c k a b (Md.mk true [] ps ss)).fst.fst = (0 : Int) ∧ (mdF c k a
    b (Md.mk true [] ps ss)).fst.snd = lookI (Md.mk true [] ps ss).ss k + (1 : Int) ∧ (True ∧ True ∧ True ∧ True) ∧ (Md.mk true [] (mdF c k a b (Md.mk true [] ps ss)).snd.ps (mdF c k a
    b (Md.mk true [] ps ss)).snd.ss).ps = (Md.mk true [] ps ss).ps ∧ (Md.mk true [] (mdF c k a b (Md.mk true [] ps ss)).snd.ps (mdF c k a b (Md.mk true [] ps ss)).snd.ss).ss = updL
    (Md.mk true [] ps ss).ss k (Value.int IntKind.i64 (lookI (Md.mk true [] ps ss).ss k + Int.ofNat ((0 : Nat) + (1 : Nat)))) ∧ True)) ∧ ((look (Md.mk true [] ps ss).ss k).isSome =
    false → ((!(look (Md.mk true [] ps ss).ss k).isSome) = true → ((mdF c k a b (Md.mk true [] ps ss)).snd.nilq = true ∧ (mdF c k a b (Md.mk true [] ps ss)).snd.q = []) ∧ (mdF c k a b
    (Md.mk true [] ps ss)).fst.fst = (1 : Int) ∧ (mdF c k a b (Md.mk true [] ps ss)).fst.snd = (0 : Int) ∧ (True ∧ True ∧ True ∧ True) ∧ (Md.mk true [] (mdF c k a b (Md.mk true [] ps
    ss)).snd.ps (mdF c k a b (Md.mk true [] ps ss)).snd.ss).ps = (Md.mk true [] ps ss).ps ∧ (Md.mk true [] (mdF c k a b (Md.mk true [] ps ss)).snd.ps (mdF c k a b (Md.mk true [] ps
    ss)).snd.ss).ss = (Md.mk true [] ps ss).ss ∧ True) ∧ ((!(look (Md.mk true [] ps ss).ss k).isSome) = false → ((mdF c k a b (Md.mk true [] ps ss)).snd.nilq = true ∧ (mdF c k a b
    (Md.mk true [] ps ss)).snd.q = []) ∧ (mdF c k a b (Md.mk true [] ps ss)).fst.fst = (0 : Int) ∧ (mdF c k a b (Md.mk true [] ps ss)).fst.snd = lookI (Md.mk true [] ps ss).ss k ∧ (True
    ∧ True ∧ True ∧ True) ∧ (Md.mk true [] (mdF c k a b (Md.mk true [] ps ss)).snd.ps (mdF c k a b (Md.mk true [] ps ss)).snd.ss).ps = (Md.mk true [] ps ss).ps ∧ (Md.mk true [] (mdF c k
    a b (Md.mk true [] ps ss)).snd.ps (mdF c k a b (Md.mk true [] ps ss)).snd.ss).ss = (Md.mk true [] ps ss).ss ∧ True))) ∧ ((c == (12 : Int)) = false → ((!(look (Md.mk true [] ps
    ss).ss k).isSome) = true → ((mdF c k a b (Md.mk true [] ps ss)).snd.nilq = true ∧ (mdF c k a b (Md.mk true [] ps ss)).snd.q = []) ∧ (mdF c k a b (Md.mk true [] ps ss)).fst.fst = (1
    : Int) ∧ (mdF c k a b (Md.mk true [] ps ss)).fst.snd = (0 : Int) ∧ (True ∧ True ∧ True ∧ True) ∧ (Md.mk true [] (mdF c k a b (Md.mk true [] ps ss)).snd.ps (mdF c k a b (Md.mk true
    [] ps ss)).snd.ss).ps = (Md.mk true [] ps ss).ps ∧ (Md.mk true [] (mdF c k a b (Md.mk true [] ps ss)).snd.ps (mdF c k a b (Md.mk true [] ps ss)).snd.ss).ss = (Md.mk true [] ps
    ss).ss ∧ True) ∧ ((!(look (Md.mk true [] ps ss).ss k).isSome) = false → ((mdF c k a b (Md.mk true [] ps ss)).snd.nilq = true ∧ (mdF c k a b (Md.mk true [] ps ss)).snd.q = []) ∧ (mdF
    c k a b (Md.mk true [] ps ss)).fst.fst = (0 : Int) ∧ (mdF c k a b (Md.mk true [] ps ss)).fst.snd = lookI (Md.mk true [] ps ss).ss k ∧ (True ∧ True ∧ True ∧ True) ∧ (Md.mk true []
    (mdF c k a b (Md.mk true [] ps ss)).snd.ps (mdF c k a b (Md.mk true [] ps ss)).snd.ss).ps = (Md.mk true [] ps ss).ps ∧ (Md.mk true [] (mdF c k a b (Md.mk true [] ps ss)).snd.ps (mdF
    c k a b (Md.mk true [] ps ss)).snd.ss).ss = (Md.mk true [] ps ss).ss ∧ True)))) ∧ ((c == (11 : Int)) = false → ((c == (12 : Int)) = true → ((look (Md.mk true [] ps ss).ss k).isSome
    = true → ((lookI (Md.mk true [] ps ss).ss k == (1023 : Int)) = true → ((mdF c k a b (Md.mk true [] ps ss)).snd.nilq = true ∧ (mdF c k a b (Md.mk true [] ps ss)).snd.q = []) ∧ (mdF c
    k a b (Md.mk true [] ps ss)).fst.fst = (2 : Int) ∧ (mdF c k a b (Md.mk true [] ps ss)).fst.snd = (0 : Int) ∧ (True ∧ True ∧ True ∧ True) ∧ (Md.mk true [] (mdF c k a b (Md.mk true []
    ps ss)).snd.ps (mdF c k a b (Md.mk true [] ps ss)).snd.ss).ps = (Md.mk true [] ps ss).ps ∧ (Md.mk true [] (mdF c k a b (Md.mk true [] ps ss)).snd.ps (mdF c k a b (Md.mk true [] ps
    ss)).snd.ss).ss = (Md.mk true [] ps ss).ss ∧ True) ∧ ((lookI (Md.mk true [] ps ss).ss k == (1023 : Int)) = false → ((-9223372036854775808 : Int) ≤ lookI (Md.mk true [] ps ss).ss k +
    (1 : Int) ∧ lookI (Md.mk true [] ps ss).ss k + (1 : Int) ≤ (9223372036854775807 : Int)) ∧ ((-9223372036854775808 : Int) ≤ lookI (Md.mk true [] ps ss).ss k + (1 : Int) ∧ lookI (Md.mk
    true [] ps ss).ss k + (1 : Int) ≤ (9223372036854775807 : Int)) ∧ ((mdF c k a b (Md.mk true [] ps ss)).snd.nilq = true ∧ (mdF c k a b (Md.mk true [] ps ss)).snd.q = []) ∧ (mdF c k a
    b (Md.mk true [] ps ss)).fst.fst = (0 : Int) ∧ (mdF c k a b (Md.mk true [] ps ss)).fst.snd = lookI (Md.mk true [] ps ss).ss k + (1 : Int) ∧ (True ∧ True ∧ True ∧ True) ∧ (Md.mk true
    [] (mdF c k a b (Md.mk true [] ps ss)).snd.ps (mdF c k a b (Md.mk true [] ps ss)).snd.ss).ps = (Md.mk true [] ps ss).ps ∧ (Md.mk true [] (mdF c k a b (Md.mk true [] ps ss)).snd.ps
    (mdF c k a b (Md.mk true [] ps ss)).snd.ss).ss = updL (Md.mk true [] ps ss).ss k (Value.int IntKind.i64 (lookI (Md.mk true [] ps ss).ss k + Int.ofNat ((0 : Nat) + (1 : Nat)))) ∧
    True)) ∧ ((look (Md.mk true [] ps ss).ss k).isSome = false → ((!(look (Md.mk true [] ps ss).ss k).isSome) = true → ((mdF c k a b (Md.mk true [] ps ss)).snd.nilq = true ∧ (mdF c k a
    b (Md.mk true [] ps ss)).snd.q = []) ∧ (mdF c k a b (Md.mk true [] ps ss)).fst.fst = (1 : Int) ∧ (mdF c k a b (Md.mk true [] ps ss)).fst.snd = (0 : Int) ∧ (True ∧ True ∧ True ∧
    True) ∧ (Md.mk true [] (mdF c k a b (Md.mk true [] ps ss)).snd.ps (mdF c k a b (Md.mk true [] ps ss)).snd.ss).ps = (Md.mk true [] ps ss).ps ∧ (Md.mk true [] (mdF c k a b (Md.mk true
    [] ps ss)).snd.ps (mdF c k a b (Md.mk true [] ps ss)).snd.ss).ss = (Md.mk true [] ps ss).ss ∧ True) ∧ ((!(look (Md.mk true [] ps ss).ss k).isSome) = false → ((mdF c k a b (Md.mk
    true [] ps ss)).snd.nilq = true ∧ (mdF c k a b (Md.mk true [] ps ss)).snd.q = []) ∧ (mdF c k a b (Md.mk true [] ps ss)).fst.fst = (0 : Int) ∧ (mdF c k a b (Md.mk true [] ps
    ss)).fst.snd = lookI (Md.mk true [] ps ss).ss k ∧ (True ∧ True ∧ True ∧ True) ∧ (Md.mk true [] (mdF c k a b (Md.mk true [] ps ss)).snd.ps (mdF c k a b (Md.mk true [] ps
    ss)).snd.ss).ps = (Md.mk true [] ps ss).ps ∧ (Md.mk true [] (mdF c k a b (Md.mk true [] ps ss)).snd.ps (mdF c k a b (Md.mk true [] ps ss)).snd.ss).ss = (Md.mk true [] ps ss).ss ∧
    True))) ∧ ((c == (12 : Int)) = false → ((!(look (Md.mk true [] ps ss).ss k).isSome) = true → ((mdF c k a b (Md.mk true [] ps ss)).snd.nilq = true ∧ (mdF c k a b (Md.mk true [] ps
    ss)).snd.q = []) ∧ (mdF c k a b (Md.mk true [] ps ss)).fst.fst = (1 : Int) ∧ (mdF c k a b (Md.mk true [] ps ss)).fst.snd = (0 : Int) ∧ (True ∧ True ∧ True ∧ True) ∧ (Md.mk true []
    (mdF c k a b (Md.mk true [] ps ss)).snd.ps (mdF c k a b (Md.mk true [] ps ss)).snd.ss).ps = (Md.mk true [] ps ss).ps ∧ (Md.mk true [] (mdF c k a b (Md.mk true [] ps ss)).snd.ps (mdF
    c k a b (Md.mk true [] ps ss)).snd.ss).ss = (Md.mk true [] ps ss).ss ∧ True) ∧ ((!(look (Md.mk true [] ps ss).ss k).isSome) = false → ((mdF c k a b (Md.mk true [] ps ss)).snd.nilq =
    true ∧ (mdF c k a b (Md.mk true [] ps ss)).snd.q = []) ∧ (mdF c k a b (Md.mk true [] ps ss)).fst.fst = (0 : Int) ∧ (mdF c k a b (Md.mk true [] ps ss)).fst.snd = lookI (Md.mk true []
    ps ss).ss k ∧ (True ∧ True ∧ True ∧ True) ∧ (Md.mk true [] (mdF c k a b (Md.mk true [] ps ss)).snd.ps (mdF c k a b (Md.mk true [] ps ss)).snd.ss).ps = (Md.mk true [] ps ss).ps ∧
    (Md.mk true [] (mdF c k a b (Md.mk true [] ps ss)).snd.ps (mdF c k a b (Md.mk true [] ps ss)).snd.ss).ss = (Md.mk true [] ps ss).ss ∧ True)))))) ∧ True))))) ∧ True) := by
  kernel_rfl
theorem mdapply1_run (c k a b : Int) (ps ss : List (Int × Value)) (z : Nat) (hc : MdOk (⟨true, [], ps, ss⟩ : Md)) : Run (callN Try.prog ([rightS, floorS] : List (Smry Try.prog XN)) (fun _ _ => false) 100 20 34 [.c (.ptr 0 0), .agg [.int false .i64 c, .int false .i64 k, .int false .i64 a, .int false .i64 b]] ⟨mdHeap (⟨true, [], ps, ss⟩ : Md) z, 100⟩ (bN 16) (fun v m _ => mdPost (respV (mdF c k a b (⟨true, [], ps, ss⟩ : Md)).1) (mdF c k a b (⟨true, [], ps, ss⟩ : Md)).2 v m)) := by
  constructor
  rw [mdapply1_vc]
  have i1 := hc.ps.ints
  have i2 := hc.ss.ints
  have b1 := hc.ps
  have b2 := hc.ss
  have b3 := hc.ql
  have b4 : 0 ≤ lookI ss k ∧ lookI ss k ≤ 1023 := hc.ss.at k
  have fk : RightO c k a b → floorI ps k = floorF ps k.toNat := fun h => by unfold floorI; rw [if_neg (by have := h.k0; omega)]
  repeat' first
    | with_reducible apply And.intro
    | with_reducible exact trivial
    | with_reducible exact Eq.refl _
    | (with_reducible refine fun (h : decide _ = true) => ?_; replace h := of_decide_eq_true h)
    | (with_reducible refine fun (h : decide _ = false) => ?_; replace h := of_decide_eq_false h)
    | (with_reducible refine fun (h : (!decide _) = true) => ?_; replace h := of_decide_eq_false (notT h))
    | (with_reducible refine fun (h : (!decide _) = false) => ?_; replace h := of_decide_eq_true (notF h))
    | (with_reducible refine fun (h : (_ == _) = true) => ?_; replace h := eq_of_beq h)
    | (with_reducible refine fun (h : (_ == _) = false) => ?_; replace h := beq_eq_false_iff_ne.1 h)
    | (rename_i cap hcap; with_reducible refine (Exists.intro cap ?_ : ∃ z' : Nat, _))
    | (with_reducible refine (Exists.intro z ?_ : ∃ z' : Nat, _))
    | exact i1
    | exact i2
    | intro _
  all_goals (try dsimp only at *)
  all_goals first
    | exact i1
    | exact i2
    | exact b1
    | omega
    | (exfalso; omega)
    | exact (‹RightO c k a b›).k0
    | exact (‹RightO c k a b›).k1
    | (have hr := ‹RightO c k a b›; rw [fk hr]; clear fk b4; simp_all [mdF, mdM]; done)
    | (clear fk b4; simp_all [mdF, mdQ, mdM, mdS, stepS, hadF, atK_lookI, intV]; done)
    | (clear fk b4; simp_all [mdF, mdQ, mdM, mdS, stepS, hadF, atK_lookI, intV, qF]; done)
    | (have h4 : c = 4 := by omega
       subst h4; clear fk b4; simp_all [mdF, mdM, hadF, atK_lookI]; done)
    | (have h4 : c = 13 := by have := (‹RightO c k a b›).c1; omega
       subst h4; clear fk b4; simp_all [mdF, mdS, hadF, atK_lookI]; done)
    | skip
end Go.Proofs.Ytaflaaiomlijbaa
