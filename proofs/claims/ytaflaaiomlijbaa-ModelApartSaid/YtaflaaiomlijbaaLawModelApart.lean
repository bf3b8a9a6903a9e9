/- ModelApart: for all steps and operations the law returns true and turns nothing; condition: the steps are read as numbers. -/
import Derived.Test.YtaflaaiomlijbaaMdlM
import Derived.Test.YtaflaaiomlijbaaMdlG
import Derived.Test.YtaflaaiomlijbaaFirst06
set_option linter.all false
namespace Go.Proofs.Ytaflaaiomlijbaa
open Go Go.RowKit
set_option maxRecDepth 1000000
set_option maxHeartbeats 0
abbrev rw6 (ρ : Nat → Value) (n : Nat) : SV := .c (.raw (ρ n))
abbrev N6 := ST.node
abbrev n6 : ST := .nil
abbrev lf6 (x : SV) : ST := .node x .nil .nil
abbrev i6 (n : Int) (b : Bd n := .any) : SC := .int false .i64 n b
abbrev ob6 (m : Md) : (XN.hid mdH).X := HO.obj (E := XN) (H := mdH) [] m
def tbl6 : List (Smry Try.prog XM6) := [firstS 29 (fun W => by have h := law_true1 (first06_run trivial) W; exact h), greatS.lift, mdNewS, mdCloneS, mdSizeS, mdApplyS, mdSameS, rrespS.lift, partS.lift]
def allN6 : List Nat := (List.range 1500).map (· + 1)
structure MdS where
  m : Md
  ok : MdOk m
  wf : MdWf m
abbrev mdO (y : MdS) : SO XM6 := .ext (HO.obj [] y.m)
def MdS.new : MdS := ⟨⟨true, [], [], []⟩, MdOk.new, fun _ => rfl⟩
def MdS.app (c k a b : Int) (y : MdS) : MdS := ⟨(mdF c k a b y.m).2, (mdF_ok y.ok).2.1, mdF_wf y.wf⟩
structure HY1 (len : Nat) where
  i : Nat
  hi : i ≤ len
  s : MdS
def aI (c k a b c' k' a' b' : Int) (len n : Nat) (y : HY1 len) : List (Nat × SV) × List (Nat × SO XM6) := ([(4, .c (.ptr (n + 1) 0)), (5, .c (.ptr (n + 2) 0)), (7, .c (.ptr n 0)), (39, .c (.int false .i64 (y.i : Int)))], [(n, mdO y.s), (n + 1, .cells [.int false .i64 c, .int false .i64 k, .int false .i64 a, .int false .i64 b] 26), (n + 2, .cells [.int false .i64 c', .int false .i64 k', .int false .i64 a', .int false .i64 b'] 26)])
def aMain (c k a b c' k' a' b' : Int) (len : Nat) : Scr XM6 := .inv (liveL [4, 5, 7, 37, 38, 39]) allN6 (HY1 len) (aI c k a b c' k' a' b' len) (fun y => len - y.i) fun _ => .both .nil (.t (.t .nil))
def aScr (c k a b c' k' a' b' : Int) (len : Nat) : Scr XM6 := .both .nil (.both .nil (.both .nil (.both .nil (aMain c k a b c' k' a' b' len))))
/-- What the executor leaves to be shown of roundelay/roundelaylaw06.ModelApart, written out. -/
theorem mapart_vc (W : World) (p : Option Addr) (len cap : Nat) (c k a b c' k' a' b' : Int) : (callN Try.prog (tbl6 : List (Smry Try.prog XM6)) (fun _ _ => false) 100 20 8 [.c (.sliv p false len cap), .agg [.int false .i64 c, .int false .i64 k, .int false .i64 a, .int false .i64 b], .agg [.int false .i64 c', .int false .i64 k', .int false .i64 a', .int false .i64 b']] ⟨[(0, .seen W)], 1⟩ (aScr c k a b c' k' a' b' len) (fun v m _ => retSeen W v m)) = (
    (((0 < len → p.isSome = true) ∧ (∀ (j : Nat), j < len → (∃ (x : Addr), addOpt (addOpt p (j * 7)) 0 = some x ∧ W.cell? x = some (Value.int IntKind.i64 (seenInt IntKind.i64 W (addOpt
    (addOpt p (j * 7)) 0)))) ∧ (∃ (x : Addr), addOpt (addOpt p (j * 7)) (0 + 1) = some x ∧ W.cell? x = some (Value.int IntKind.i64 (seenInt IntKind.i64 W (addOpt (addOpt p (j * 7))
    1)))) ∧ (∃ (x : Addr), addOpt (addOpt p (j * 7)) (0 + 1 + 1) = some x ∧ W.cell? x = some (Value.int IntKind.u16 (seenInt IntKind.u16 W (addOpt (addOpt p (j * 7)) 2)))) ∧ (∃ (x :
    Addr), addOpt (addOpt p (j * 7)) (0 + 1 + 1 + 1) = some x ∧ W.cell? x = some (Value.int IntKind.i64 (seenInt IntKind.i64 W (addOpt (addOpt p (j * 7)) 3)))) ∧ (∃ (x : Addr), addOpt
    (addOpt p (j * 7)) (0 + 1 + 1 + 1 + 1) = some x ∧ W.cell? x = some (Value.int IntKind.i64 (seenInt IntKind.i64 W (addOpt (addOpt p (j * 7)) 4)))) ∧ (∃ (x : Addr), addOpt (addOpt p
    (j * 7)) (0 + 1 + 1 + 1 + 1 + 1) = some x ∧ W.cell? x = some (Value.int IntKind.i64 (seenInt IntKind.i64 W (addOpt (addOpt p (j * 7)) 5)))) ∧ (∃ (x : Addr), addOpt (addOpt p (j *
    7)) (0 + 1 + 1 + 1 + 1 + 1 + 1) = some x ∧ W.cell? x = some (Value.int IntKind.i64 (seenInt IntKind.i64 W (addOpt (addOpt p (j * 7)) 6)))) ∧ True) ∧ len ≤ 9223372036854775807) ∧ ∀
    (b_1 : Bool), W = W ∧ c = c ∧ k = k ∧ a = a ∧ b = b ∧ c' = c' ∧ k' = k' ∧ a' = a' ∧ b' = b' ∧ (b_1 = true → true = true ∧ some W = some W) ∧ (b_1 = false → (True ∧ (∀ (z : Un), True
    → W = W ∧ c = c ∧ k = k ∧ a = a ∧ b = b ∧ c' = c' ∧ k' = k' ∧ a' = a' ∧ b' = b' ∧ ((partF c k a b == (0 : Int)) = true → true = true ∧ some W = some W) ∧ ((partF c k a b == (0 :
    Int)) = false → (True ∧ (∀ (z : Un), True → W = W ∧ c = c ∧ k = k ∧ a = a ∧ b = b ∧ c' = c' ∧ k' = k' ∧ a' = a' ∧ b' = b' ∧ ((partF c' k' a' b' == (0 : Int)) = true → true = true ∧
    some W = some W) ∧ ((partF c' k' a' b' == (0 : Int)) = false → (True ∧ (∀ (z : Un), True → W = W ∧ c = c ∧ k = k ∧ a = a ∧ b = b ∧ c' = c' ∧ k' = k' ∧ a' = a' ∧ b' = b' ∧ (True ∧ (∀
    (z : Un), True → W = W ∧ c = c ∧ k = k ∧ a = a ∧ b = b ∧ c' = c' ∧ k' = k' ∧ a' = a' ∧ b' = b' ∧ ((partF c k a b == partF c' k' a' b') = true → true = true ∧ some W = some W) ∧
    ((partF c k a b == partF c' k' a' b') = false → True ∧ (∃ (y : HY1 len), p = p ∧ len = len ∧ cap = cap ∧ (↑len : Int) = (↑len : Int) ∧ W = W ∧ (↑y.i : Int) = (0 : Int) ∧ y.s.m =
    Md.mk true [] [] [] ∧ (c = c ∧ k = k ∧ a = a ∧ b = b ∧ True) ∧ (c' = c' ∧ k' = k' ∧ a' = a' ∧ b' = b' ∧ True) ∧ True) ∧ ∀ (y : HY1 len) (ρ : Nat → Value), (decide ((↑y.i : Int) <
    (↑len : Int)) = true → ((0 : Int) ≤ (↑y.i : Int) ∧ (↑y.i : Int) < (↑len : Int) ∧ p.isSome = true) ∧ ((∃ (x : Addr), addOpt (addOpt p ((↑y.i : Int).toNat * Try.prog.types[85].size))
    0 = some x ∧ W.cell? x = some (Value.int IntKind.i64 (seenInt IntKind.i64 W (addOpt (addOpt p ((↑y.i : Int).toNat * 7)) 0)))) ∧ (∃ (x : Addr), addOpt (addOpt p ((↑y.i : Int).toNat *
    Try.prog.types[85].size)) (0 + 1) = some x ∧ W.cell? x = some (Value.int IntKind.i64 (seenInt IntKind.i64 W (addOpt (addOpt p ((↑y.i : Int).toNat * 7)) 1)))) ∧ (∃ (x : Addr), addOpt
    (addOpt p ((↑y.i : Int).toNat * Try.prog.types[85].size)) (0 + 1 + 1) = some x ∧ W.cell? x = some (Value.int IntKind.u16 (seenInt IntKind.u16 W (addOpt (addOpt p ((↑y.i : Int).toNat
    * 7)) 2)))) ∧ (∃ (x : Addr), addOpt (addOpt p ((↑y.i : Int).toNat * Try.prog.types[85].size)) (0 + 1 + 1 + 1) = some x ∧ W.cell? x = some (Value.int IntKind.i64 (seenInt IntKind.i64
    W (addOpt (addOpt p ((↑y.i : Int).toNat * 7)) 3)))) ∧ (∃ (x : Addr), addOpt (addOpt p ((↑y.i : Int).toNat * Try.prog.types[85].size)) (0 + 1 + 1 + 1 + 1) = some x ∧ W.cell? x = some
    (Value.int IntKind.i64 (seenInt IntKind.i64 W (addOpt (addOpt p ((↑y.i : Int).toNat * 7)) 4)))) ∧ (∃ (x : Addr), addOpt (addOpt p ((↑y.i : Int).toNat * Try.prog.types[85].size)) (0
    + 1 + 1 + 1 + 1 + 1) = some x ∧ W.cell? x = some (Value.int IntKind.i64 (seenInt IntKind.i64 W (addOpt (addOpt p ((↑y.i : Int).toNat * 7)) 5)))) ∧ (∃ (x : Addr), addOpt (addOpt p
    ((↑y.i : Int).toNat * Try.prog.types[85].size)) (0 + 1 + 1 + 1 + 1 + 1 + 1) = some x ∧ W.cell? x = some (Value.int IntKind.i64 (seenInt IntKind.i64 W (addOpt (addOpt p ((↑y.i :
    Int).toNat * 7)) 6)))) ∧ True) ∧ (MdOk y.s.m ∧ (y.s.m.nilq = true → y.s.m.q = [])) ∧ ((-9223372036854775808 : Int) ≤ (↑y.i : Int) + (1 : Int) ∧ (↑y.i : Int) + (1 : Int) ≤
    (9223372036854775807 : Int)) ∧ ∃ (y' : HY1 len), len - y'.i < len - y.i ∧ p = p ∧ len = len ∧ cap = cap ∧ (↑len : Int) = (↑len : Int) ∧ W = W ∧ (↑y'.i : Int) = (↑y.i : Int) + (1 :
    Int) ∧ y'.s.m = (mdF (seenInt IntKind.i64 W (addOpt (addOpt p ((↑y.i : Int).toNat * Try.prog.types[85].size)) (0 + 1 + 1 + 1)), seenInt IntKind.i64 W (addOpt (addOpt p ((↑y.i :
    Int).toNat * Try.prog.types[85].size)) (0 + 1 + 1 + 1 + 1)), seenInt IntKind.i64 W (addOpt (addOpt p ((↑y.i : Int).toNat * Try.prog.types[85].size)) (0 + 1 + 1 + 1 + 1 + 1)),
    seenInt IntKind.i64 W (addOpt (addOpt p ((↑y.i : Int).toNat * Try.prog.types[85].size)) (0 + 1 + 1 + 1 + 1 + 1 + 1))).fst (seenInt IntKind.i64 W (addOpt (addOpt p ((↑y.i :
    Int).toNat * Try.prog.types[85].size)) (0 + 1 + 1 + 1)), seenInt IntKind.i64 W (addOpt (addOpt p ((↑y.i : Int).toNat * Try.prog.types[85].size)) (0 + 1 + 1 + 1 + 1)), seenInt
    IntKind.i64 W (addOpt (addOpt p ((↑y.i : Int).toNat * Try.prog.types[85].size)) (0 + 1 + 1 + 1 + 1 + 1)), seenInt IntKind.i64 W (addOpt (addOpt p ((↑y.i : Int).toNat *
    Try.prog.types[85].size)) (0 + 1 + 1 + 1 + 1 + 1 + 1))).snd.fst (seenInt IntKind.i64 W (addOpt (addOpt p ((↑y.i : Int).toNat * Try.prog.types[85].size)) (0 + 1 + 1 + 1)), seenInt
    IntKind.i64 W (addOpt (addOpt p ((↑y.i : Int).toNat * Try.prog.types[85].size)) (0 + 1 + 1 + 1 + 1)), seenInt IntKind.i64 W (addOpt (addOpt p ((↑y.i : Int).toNat *
    Try.prog.types[85].size)) (0 + 1 + 1 + 1 + 1 + 1)), seenInt IntKind.i64 W (addOpt (addOpt p ((↑y.i : Int).toNat * Try.prog.types[85].size)) (0 + 1 + 1 + 1 + 1 + 1 + 1))).snd.snd.fst
    (seenInt IntKind.i64 W (addOpt (addOpt p ((↑y.i : Int).toNat * Try.prog.types[85].size)) (0 + 1 + 1 + 1)), seenInt IntKind.i64 W (addOpt (addOpt p ((↑y.i : Int).toNat *
    Try.prog.types[85].size)) (0 + 1 + 1 + 1 + 1)), seenInt IntKind.i64 W (addOpt (addOpt p ((↑y.i : Int).toNat * Try.prog.types[85].size)) (0 + 1 + 1 + 1 + 1 + 1)), seenInt IntKind.i64
    W (addOpt (addOpt p ((↑y.i : Int).toNat * Try.prog.types[85].size)) (0 + 1 + 1 + 1 + 1 + 1 + 1))).snd.snd.snd y.s.m).snd ∧ (c = c ∧ k = k ∧ a = a ∧ b = b ∧ True) ∧ (c' = c' ∧ k' =
    k' ∧ a' = a' ∧ b' = b' ∧ True) ∧ True) ∧ (decide ((↑y.i : Int) < (↑len : Int)) = false → (MdOk y.s.m ∧ (y.s.m.nilq = true → y.s.m.q = [])) ∧ ((MdOk y.s.m ∧ (y.s.m.nilq = true →
    y.s.m.q = [])) ∧ c = c ∧ k = k ∧ a = a ∧ b = b ∧ c' = c' ∧ k' = k' ∧ a' = a' ∧ b' = b' ∧ W = W ∧ ((MdOk (mdF c k a b y.s.m).snd ∧ ((mdF c k a b y.s.m).snd.nilq = true → (mdF c k a b
    y.s.m).snd.q = [])) ∧ c = c ∧ k = k ∧ a = a ∧ b = b ∧ c' = c' ∧ k' = k' ∧ a' = a' ∧ b' = b' ∧ W = W ∧ (c = c ∧ k = k ∧ a = a ∧ b = b ∧ c' = c' ∧ k' = k' ∧ a' = a' ∧ b' = b' ∧ W = W
    ∧ (c = c ∧ k = k ∧ a = a ∧ b = b ∧ c' = c' ∧ k' = k' ∧ a' = a' ∧ b' = b' ∧ W = W ∧ (c = c ∧ k = k ∧ a = a ∧ b = b ∧ c' = c' ∧ k' = k' ∧ a' = a' ∧ b' = b' ∧ W = W ∧ (((MdOk y.s.m ∧
    (y.s.m.nilq = true → y.s.m.q = [])) ∧ c = c ∧ k = k ∧ a = a ∧ b = b ∧ c' = c' ∧ k' = k' ∧ a' = a' ∧ b' = b' ∧ W = W ∧ ((MdOk (mdF c' k' a' b' y.s.m).snd ∧ ((mdF c' k' a' b'
    y.s.m).snd.nilq = true → (mdF c' k' a' b' y.s.m).snd.q = [])) ∧ c = c ∧ k = k ∧ a = a ∧ b = b ∧ c' = c' ∧ k' = k' ∧ a' = a' ∧ b' = b' ∧ W = W ∧ (c = c ∧ k = k ∧ a = a ∧ b = b ∧ c' =
    c' ∧ k' = k' ∧ a' = a' ∧ b' = b' ∧ W = W ∧ (c = c ∧ k = k ∧ a = a ∧ b = b ∧ c' = c' ∧ k' = k' ∧ a' = a' ∧ b' = b' ∧ W = W ∧ (c = c ∧ k = k ∧ a = a ∧ b = b ∧ c' = c' ∧ k' = k' ∧ a' =
    a' ∧ b' = b' ∧ W = W ∧ ((true == ((mdF c k a b y.s.m).fst.fst == (mdF c k a b (mdF c' k' a' b' y.s.m).snd).fst.fst && ((mdF c k a b y.s.m).fst.snd == (mdF c k a b (mdF c' k' a' b'
    y.s.m).snd).fst.snd && true))) = true ∧ (true == ((mdF c' k' a' b' (mdF c k a b y.s.m).snd).fst.fst == (mdF c' k' a' b' y.s.m).fst.fst && ((mdF c' k' a' b' (mdF c k a b
    y.s.m).snd).fst.snd == (mdF c' k' a' b' y.s.m).fst.snd && true))) = true ∧ ((MdOk (mdF c' k' a' b' (mdF c k a b y.s.m).snd).snd ∧ ((mdF c' k' a' b' (mdF c k a b y.s.m).snd).snd.nilq
    = true → (mdF c' k' a' b' (mdF c k a b y.s.m).snd).snd.q = [])) ∧ MdOk (mdF c k a b (mdF c' k' a' b' y.s.m).snd).snd ∧ ((mdF c k a b (mdF c' k' a' b' y.s.m).snd).snd.nilq = true →
    (mdF c k a b (mdF c' k' a' b' y.s.m).snd).snd.q = [])) ∧ sameB (mdF c' k' a' b' (mdF c k a b y.s.m).snd).snd (mdF c k a b (mdF c' k' a' b' y.s.m).snd).snd = true ∧ some W = some W)
    ∧ True) ∧ True) ∧ True) ∧ (∀ (K : KO XM6), (fun X0 : Prop => c = c ∧ k = k ∧ a = a ∧ b = b ∧ c' = c' ∧ k' = k' ∧ a' = a' ∧ b' = b' ∧ W = W ∧ (c = c ∧ k = k ∧ a = a ∧ b = b ∧ c' = c'
    ∧ k' = k' ∧ a' = a' ∧ b' = b' ∧ W = W ∧ (c = c ∧ k = k ∧ a = a ∧ b = b ∧ c' = c' ∧ k' = k' ∧ a' = a' ∧ b' = b' ∧ W = W ∧ X0 ∧ True) ∧ True) ∧ True → c = c ∧ k = k ∧ a = a ∧ b = b ∧
    c' = c' ∧ k' = k' ∧ a' = a' ∧ b' = b' ∧ W = W ∧ (c = c ∧ k = k ∧ a = a ∧ b = b ∧ c' = c' ∧ k' = k' ∧ a' = a' ∧ b' = b' ∧ W = W ∧ (c = c ∧ k = k ∧ a = a ∧ b = b ∧ c' = c' ∧ k' = k' ∧
    a' = a' ∧ b' = b' ∧ W = W ∧ X0 ∧ True) ∧ True) ∧ True) (K (SF.mk 75 (N6 (rw6 ρ 0) (N6 (rw6 ρ 1) (N6 (rw6 ρ 3) (N6 (SV.c (SC.ptr 31 0)) (N6 (rw6 ρ 15) (N6 (rw6 ρ 31) (lf6 (rw6 ρ 63))
    n6) (lf6 (rw6 ρ 47))) (N6 (rw6 ρ 23) (N6 (SV.c (i6 (↑y.i : Int))) (lf6 (rw6 ρ 71)) n6) (N6 (SV.agg [i6 (mdF c' k' a' b' (mdF c k a b y.s.m).snd).fst.fst, i6 (mdF c' k' a' b' (mdF c
    k a b y.s.m).snd).fst.snd]) n6 n6))) (N6 (SV.c (SC.ptr 74 0)) (N6 (rw6 ρ 19) (N6 (rw6 ρ 35) (lf6 (rw6 ρ 67)) n6) (lf6 (SV.agg [i6 c, i6 k, i6 a, i6 b]))) (N6 (rw6 ρ 27) (lf6 (rw6 ρ
    43)) (N6 (SV.c (SC.ptr 67 0)) n6 n6)))) (N6 (SV.c (SC.ptr 33 0)) (N6 (rw6 ρ 9) (N6 (rw6 ρ 17) (N6 (rw6 ρ 33) (lf6 (rw6 ρ 65)) n6) (N6 (SV.c (SC.ptr 67 0)) n6 n6)) (N6 (rw6 ρ 25) (N6
    (rw6 ρ 41) (lf6 (rw6 ρ 73)) n6) (lf6 (SV.agg [i6 c', i6 k', i6 a', i6 b'])))) (N6 (SV.c (SC.ptr 84 0)) (N6 (rw6 ρ 21) (N6 (SV.c (SC.sliv p false len cap)) (lf6 (rw6 ρ 69)) n6) (N6
    (SV.c (SC.ptr 31 0)) n6 n6)) (N6 (rw6 ρ 29) (lf6 (rw6 ρ 45)) (N6 (SV.agg [i6 (mdF c k a b (mdF c' k' a' b' y.s.m).snd).fst.fst, i6 (mdF c k a b (mdF c' k' a' b'
    y.s.m).snd).fst.snd]) n6 n6))))) (N6 (rw6 ρ 2) (N6 (SV.c (SC.ptr 32 0)) (N6 (rw6 ρ 8) (N6 (rw6 ρ 16) (N6 (rw6 ρ 32) (lf6 (rw6 ρ 64)) n6) (N6 (SV.c (SC.ptr 31 0)) n6 n6)) (N6 (rw6 ρ
    24) (N6 (SV.c (SC.boo true false)) (lf6 (rw6 ρ 72)) n6) (N6 (SV.c (SC.ptr 67 0)) n6 n6))) (N6 (SV.c (SC.ptr 75 0)) (N6 (rw6 ρ 20) (N6 (rw6 ρ 36) (lf6 (rw6 ρ 68)) n6) (N6 (SV.agg [i6
    (mdF c k a b y.s.m).fst.fst, i6 (mdF c k a b y.s.m).fst.snd]) n6 n6)) (N6 (rw6 ρ 28) (lf6 (rw6 ρ 44)) (lf6 (SV.agg [i6 c, i6 k, i6 a, i6 b]))))) (N6 (rw6 ρ 6) (N6 (SV.c (SC.ptr 67
    0)) (N6 (rw6 ρ 18) (N6 (rw6 ρ 34) (lf6 (rw6 ρ 66)) n6) (N6 (SV.c (SC.ptr 31 0)) n6 n6)) (N6 (rw6 ρ 26) (N6 (rw6 ρ 42) (lf6 (rw6 ρ 74)) n6) (N6 (SV.agg [i6 (mdF c' k' a' b'
    y.s.m).fst.fst, i6 (mdF c' k' a' b' y.s.m).fst.snd]) n6 n6))) (N6 (SV.c (SC.ptr 85 0)) (N6 (rw6 ρ 22) (N6 (SV.c (i6 (↑len : Int))) (lf6 (rw6 ρ 70)) n6) (lf6 (SV.agg [i6 c', i6 k',
    i6 a', i6 b']))) (N6 (rw6 ρ 30) (lf6 (rw6 ρ 46)) (lf6 (rw6 ρ 62))))))) []) (Mem.mk [(31, SO.ext (ob6 (mdF c' k' a' b' (mdF c k a b y.s.m).snd).snd)), (32, SO.cells [i6 c, i6 k, i6
    a, i6 b] (OfNat.ofNat 26)), (33, SO.cells [i6 c', i6 k', i6 a', i6 b'] (OfNat.ofNat 26)), (0, SO.seen W), (67, SO.ext (ob6 (mdF c k a b (mdF c' k' a' b' y.s.m).snd).snd)), (74,
    SO.cells [i6 (mdF c k a b y.s.m).fst.fst, i6 (mdF c k a b y.s.m).fst.snd] 33), (75, SO.cells [i6 (mdF c' k' a' b' (mdF c k a b y.s.m).snd).fst.fst, i6 (mdF c' k' a' b' (mdF c k a b
    y.s.m).snd).fst.snd] 33), (84, SO.cells [i6 (mdF c' k' a' b' y.s.m).fst.fst, i6 (mdF c' k' a' b' y.s.m).fst.snd] 33), (85, SO.cells [i6 (mdF c k a b (mdF c' k' a' b'
    y.s.m).snd).fst.fst, i6 (mdF c k a b (mdF c' k' a' b' y.s.m).snd).fst.snd] 33)] 88) Scr.nil.t.t)) ∧ True) ∧ (∀ (K : KO XM6), (fun X0 : Prop => (MdOk (mdF c' k' a' b' y.s.m).snd ∧
    ((mdF c' k' a' b' y.s.m).snd.nilq = true → (mdF c' k' a' b' y.s.m).snd.q = [])) ∧ c = c ∧ k = k ∧ a = a ∧ b = b ∧ c' = c' ∧ k' = k' ∧ a' = a' ∧ b' = b' ∧ W = W ∧ (c = c ∧ k = k ∧ a
    = a ∧ b = b ∧ c' = c' ∧ k' = k' ∧ a' = a' ∧ b' = b' ∧ W = W ∧ (c = c ∧ k = k ∧ a = a ∧ b = b ∧ c' = c' ∧ k' = k' ∧ a' = a' ∧ b' = b' ∧ W = W ∧ (c = c ∧ k = k ∧ a = a ∧ b = b ∧ c' =
    c' ∧ k' = k' ∧ a' = a' ∧ b' = b' ∧ W = W ∧ X0 ∧ True) ∧ True) ∧ True) ∧ (∀ (K : KO XM6), (fun X1 : Prop => c = c ∧ k = k ∧ a = a ∧ b = b ∧ c' = c' ∧ k' = k' ∧ a' = a' ∧ b' = b' ∧ W
    = W ∧ (c = c ∧ k = k ∧ a = a ∧ b = b ∧ c' = c' ∧ k' = k' ∧ a' = a' ∧ b' = b' ∧ W = W ∧ (c = c ∧ k = k ∧ a = a ∧ b = b ∧ c' = c' ∧ k' = k' ∧ a' = a' ∧ b' = b' ∧ W = W ∧ X1 ∧ True) ∧
    True) ∧ True → c = c ∧ k = k ∧ a = a ∧ b = b ∧ c' = c' ∧ k' = k' ∧ a' = a' ∧ b' = b' ∧ W = W ∧ (c = c ∧ k = k ∧ a = a ∧ b = b ∧ c' = c' ∧ k' = k' ∧ a' = a' ∧ b' = b' ∧ W = W ∧ (c =
    c ∧ k = k ∧ a = a ∧ b = b ∧ c' = c' ∧ k' = k' ∧ a' = a' ∧ b' = b' ∧ W = W ∧ X1 ∧ True) ∧ True) ∧ True) (K (SF.mk 75 (N6 (rw6 ρ 0) (N6 (rw6 ρ 1) (N6 (rw6 ρ 3) (N6 (SV.c (SC.ptr 31
    0)) (N6 (rw6 ρ 15) (N6 (rw6 ρ 31) (lf6 (rw6 ρ 63)) n6) (lf6 (rw6 ρ 47))) (N6 (rw6 ρ 23) (N6 (SV.c (i6 (↑y.i : Int))) (lf6 (rw6 ρ 71)) n6) (N6 (SV.agg [i6 (mdF c' k' a' b' (mdF c k a
    b y.s.m).snd).fst.fst, i6 (mdF c' k' a' b' (mdF c k a b y.s.m).snd).fst.snd]) n6 n6))) (N6 (SV.c (SC.ptr 74 0)) (N6 (rw6 ρ 19) (N6 (rw6 ρ 35) (lf6 (rw6 ρ 67)) n6) (lf6 (SV.agg [i6
    c, i6 k, i6 a, i6 b]))) (N6 (rw6 ρ 27) (lf6 (rw6 ρ 43)) (N6 (SV.c (SC.ptr 67 0)) n6 n6)))) (N6 (SV.c (SC.ptr 33 0)) (N6 (rw6 ρ 9) (N6 (rw6 ρ 17) (N6 (rw6 ρ 33) (lf6 (rw6 ρ 65)) n6)
    (N6 (SV.c (SC.ptr 67 0)) n6 n6)) (N6 (rw6 ρ 25) (N6 (rw6 ρ 41) (lf6 (rw6 ρ 73)) n6) (lf6 (SV.agg [i6 c', i6 k', i6 a', i6 b'])))) (N6 (SV.c (SC.ptr 84 0)) (N6 (rw6 ρ 21) (N6 (SV.c
    (SC.sliv p false len cap)) (lf6 (rw6 ρ 69)) n6) (N6 (SV.c (SC.ptr 31 0)) n6 n6)) (N6 (rw6 ρ 29) (lf6 (rw6 ρ 45)) (N6 (SV.agg [i6 (mdF c k a b (mdF c' k' a' b' y.s.m).snd).fst.fst,
    i6 (mdF c k a b (mdF c' k' a' b' y.s.m).snd).fst.snd]) n6 n6))))) (N6 (rw6 ρ 2) (N6 (SV.c (SC.ptr 32 0)) (N6 (rw6 ρ 8) (N6 (rw6 ρ 16) (N6 (rw6 ρ 32) (lf6 (rw6 ρ 64)) n6) (N6 (SV.c
    (SC.ptr 31 0)) n6 n6)) (N6 (rw6 ρ 24) (N6 (SV.c (SC.boo true false)) (lf6 (rw6 ρ 72)) n6) (N6 (SV.c (SC.ptr 67 0)) n6 n6))) (N6 (SV.c (SC.ptr 75 0)) (N6 (rw6 ρ 20) (N6 (rw6 ρ 36)
    (lf6 (rw6 ρ 68)) n6) (N6 (SV.agg [i6 (mdF c k a b y.s.m).fst.fst, i6 (mdF c k a b y.s.m).fst.snd]) n6 n6)) (N6 (rw6 ρ 28) (lf6 (rw6 ρ 44)) (lf6 (SV.agg [i6 c, i6 k, i6 a, i6 b])))))
    (N6 (rw6 ρ 6) (N6 (SV.c (SC.ptr 67 0)) (N6 (rw6 ρ 18) (N6 (rw6 ρ 34) (lf6 (rw6 ρ 66)) n6) (N6 (SV.c (SC.ptr 31 0)) n6 n6)) (N6 (rw6 ρ 26) (N6 (rw6 ρ 42) (lf6 (rw6 ρ 74)) n6) (N6
    (SV.agg [i6 (mdF c' k' a' b' y.s.m).fst.fst, i6 (mdF c' k' a' b' y.s.m).fst.snd]) n6 n6))) (N6 (SV.c (SC.ptr 85 0)) (N6 (rw6 ρ 22) (N6 (SV.c (i6 (↑len : Int))) (lf6 (rw6 ρ 70)) n6)
    (lf6 (SV.agg [i6 c', i6 k', i6 a', i6 b']))) (N6 (rw6 ρ 30) (lf6 (rw6 ρ 46)) (lf6 (rw6 ρ 62))))))) []) (Mem.mk [(31, SO.ext (ob6 (mdF c' k' a' b' (mdF c k a b y.s.m).snd).snd)),
    (32, SO.cells [i6 c, i6 k, i6 a, i6 b] (OfNat.ofNat 26)), (33, SO.cells [i6 c', i6 k', i6 a', i6 b'] (OfNat.ofNat 26)), (0, SO.seen W), (67, SO.ext (ob6 (mdF c k a b (mdF c' k' a'
    b' y.s.m).snd).snd)), (74, SO.cells [i6 (mdF c k a b y.s.m).fst.fst, i6 (mdF c k a b y.s.m).fst.snd] 33), (75, SO.cells [i6 (mdF c' k' a' b' (mdF c k a b y.s.m).snd).fst.fst, i6
    (mdF c' k' a' b' (mdF c k a b y.s.m).snd).fst.snd] 33), (84, SO.cells [i6 (mdF c' k' a' b' y.s.m).fst.fst, i6 (mdF c' k' a' b' y.s.m).fst.snd] 33), (85, SO.cells [i6 (mdF c k a b
    (mdF c' k' a' b' y.s.m).snd).fst.fst, i6 (mdF c k a b (mdF c' k' a' b' y.s.m).snd).fst.snd] 33)] 88) Scr.nil.t.t)) ∧ True → c = c ∧ k = k ∧ a = a ∧ b = b ∧ c' = c' ∧ k' = k' ∧ a' =
    a' ∧ b' = b' ∧ W = W ∧ ((MdOk (mdF c' k' a' b' y.s.m).snd ∧ ((mdF c' k' a' b' y.s.m).snd.nilq = true → (mdF c' k' a' b' y.s.m).snd.q = [])) ∧ c = c ∧ k = k ∧ a = a ∧ b = b ∧ c' = c'
    ∧ k' = k' ∧ a' = a' ∧ b' = b' ∧ W = W ∧ (c = c ∧ k = k ∧ a = a ∧ b = b ∧ c' = c' ∧ k' = k' ∧ a' = a' ∧ b' = b' ∧ W = W ∧ (c = c ∧ k = k ∧ a = a ∧ b = b ∧ c' = c' ∧ k' = k' ∧ a' = a'
    ∧ b' = b' ∧ W = W ∧ X0 ∧ True) ∧ True) ∧ True) ∧ (∀ (K : KO XM6), (fun X1 : Prop => (MdOk (mdF c' k' a' b' y.s.m).snd ∧ ((mdF c' k' a' b' y.s.m).snd.nilq = true → (mdF c' k' a' b'
    y.s.m).snd.q = [])) ∧ c = c ∧ k = k ∧ a = a ∧ b = b ∧ c' = c' ∧ k' = k' ∧ a' = a' ∧ b' = b' ∧ W = W ∧ (c = c ∧ k = k ∧ a = a ∧ b = b ∧ c' = c' ∧ k' = k' ∧ a' = a' ∧ b' = b' ∧ W = W
    ∧ (c = c ∧ k = k ∧ a = a ∧ b = b ∧ c' = c' ∧ k' = k' ∧ a' = a' ∧ b' = b' ∧ W = W ∧ X1 ∧ True) ∧ True) ∧ True → c = c ∧ k = k ∧ a = a ∧ b = b ∧ c' = c' ∧ k' = k' ∧ a' = a' ∧ b' = b'
    ∧ W = W ∧ ((MdOk (mdF c' k' a' b' y.s.m).snd ∧ ((mdF c' k' a' b' y.s.m).snd.nilq = true → (mdF c' k' a' b' y.s.m).snd.q = [])) ∧ c = c ∧ k = k ∧ a = a ∧ b = b ∧ c' = c' ∧ k' = k' ∧
    a' = a' ∧ b' = b' ∧ W = W ∧ (c = c ∧ k = k ∧ a = a ∧ b = b ∧ c' = c' ∧ k' = k' ∧ a' = a' ∧ b' = b' ∧ W = W ∧ X1 ∧ True) ∧ True) ∧ True) (K (SF.mk 75 (N6 (rw6 ρ 0) (N6 (rw6 ρ 1) (N6
    (rw6 ρ 3) (N6 (SV.c (SC.ptr 31 0)) (N6 (rw6 ρ 15) (N6 (rw6 ρ 31) (lf6 (rw6 ρ 63)) n6) (lf6 (rw6 ρ 47))) (N6 (rw6 ρ 23) (N6 (SV.c (i6 (↑y.i : Int))) (lf6 (rw6 ρ 71)) n6) (N6 (SV.agg
    [i6 (mdF c' k' a' b' (mdF c k a b y.s.m).snd).fst.fst, i6 (mdF c' k' a' b' (mdF c k a b y.s.m).snd).fst.snd]) n6 n6))) (N6 (SV.c (SC.ptr 74 0)) (N6 (rw6 ρ 19) (N6 (rw6 ρ 35) (lf6
    (rw6 ρ 67)) n6) (lf6 (SV.agg [i6 c, i6 k, i6 a, i6 b]))) (N6 (rw6 ρ 27) (lf6 (rw6 ρ 43)) (N6 (SV.c (SC.ptr 67 0)) n6 n6)))) (N6 (SV.c (SC.ptr 33 0)) (N6 (rw6 ρ 9) (N6 (rw6 ρ 17) (N6
    (rw6 ρ 33) (lf6 (rw6 ρ 65)) n6) (N6 (SV.c (SC.ptr 67 0)) n6 n6)) (N6 (rw6 ρ 25) (N6 (rw6 ρ 41) (lf6 (rw6 ρ 73)) n6) (lf6 (SV.agg [i6 c', i6 k', i6 a', i6 b'])))) (N6 (SV.c (SC.ptr
    84 0)) (N6 (rw6 ρ 21) (N6 (SV.c (SC.sliv p false len cap)) (lf6 (rw6 ρ 69)) n6) (N6 (SV.c (SC.ptr 31 0)) n6 n6)) (N6 (rw6 ρ 29) (lf6 (rw6 ρ 45)) (N6 (SV.agg [i6 (mdF c k a b (mdF c'
    k' a' b' y.s.m).snd).fst.fst, i6 (mdF c k a b (mdF c' k' a' b' y.s.m).snd).fst.snd]) n6 n6))))) (N6 (rw6 ρ 2) (N6 (SV.c (SC.ptr 32 0)) (N6 (rw6 ρ 8) (N6 (rw6 ρ 16) (N6 (rw6 ρ 32)
    (lf6 (rw6 ρ 64)) n6) (N6 (SV.c (SC.ptr 31 0)) n6 n6)) (N6 (rw6 ρ 24) (N6 (SV.c (SC.boo true false)) (lf6 (rw6 ρ 72)) n6) (N6 (SV.c (SC.ptr 67 0)) n6 n6))) (N6 (SV.c (SC.ptr 75 0))
    (N6 (rw6 ρ 20) (N6 (rw6 ρ 36) (lf6 (rw6 ρ 68)) n6) (N6 (SV.agg [i6 (mdF c k a b y.s.m).fst.fst, i6 (mdF c k a b y.s.m).fst.snd]) n6 n6)) (N6 (rw6 ρ 28) (lf6 (rw6 ρ 44)) (lf6 (SV.agg
    [i6 c, i6 k, i6 a, i6 b]))))) (N6 (rw6 ρ 6) (N6 (SV.c (SC.ptr 67 0)) (N6 (rw6 ρ 18) (N6 (rw6 ρ 34) (lf6 (rw6 ρ 66)) n6) (N6 (SV.c (SC.ptr 31 0)) n6 n6)) (N6 (rw6 ρ 26) (N6 (rw6 ρ
    42) (lf6 (rw6 ρ 74)) n6) (N6 (SV.agg [i6 (mdF c' k' a' b' y.s.m).fst.fst, i6 (mdF c' k' a' b' y.s.m).fst.snd]) n6 n6))) (N6 (SV.c (SC.ptr 85 0)) (N6 (rw6 ρ 22) (N6 (SV.c (i6 (↑len :
    Int))) (lf6 (rw6 ρ 70)) n6) (lf6 (SV.agg [i6 c', i6 k', i6 a', i6 b']))) (N6 (rw6 ρ 30) (lf6 (rw6 ρ 46)) (lf6 (rw6 ρ 62))))))) []) (Mem.mk [(31, SO.ext (ob6 (mdF c' k' a' b' (mdF c
    k a b y.s.m).snd).snd)), (32, SO.cells [i6 c, i6 k, i6 a, i6 b] (OfNat.ofNat 26)), (33, SO.cells [i6 c', i6 k', i6 a', i6 b'] (OfNat.ofNat 26)), (0, SO.seen W), (67, SO.ext (ob6
    (mdF c k a b (mdF c' k' a' b' y.s.m).snd).snd)), (74, SO.cells [i6 (mdF c k a b y.s.m).fst.fst, i6 (mdF c k a b y.s.m).fst.snd] 33), (75, SO.cells [i6 (mdF c' k' a' b' (mdF c k a b
    y.s.m).snd).fst.fst, i6 (mdF c' k' a' b' (mdF c k a b y.s.m).snd).fst.snd] 33), (84, SO.cells [i6 (mdF c' k' a' b' y.s.m).fst.fst, i6 (mdF c' k' a' b' y.s.m).fst.snd] 33), (85,
    SO.cells [i6 (mdF c k a b (mdF c' k' a' b' y.s.m).snd).fst.fst, i6 (mdF c k a b (mdF c' k' a' b' y.s.m).snd).fst.snd] 33)] 88) Scr.nil.t.t)) ∧ True) (K (SF.mk 75 (N6 (rw6 ρ 0) (N6
    (rw6 ρ 1) (N6 (rw6 ρ 3) (N6 (SV.c (SC.ptr 31 0)) (N6 (rw6 ρ 15) (N6 (rw6 ρ 31) (lf6 (rw6 ρ 63)) n6) (lf6 (rw6 ρ 47))) (N6 (rw6 ρ 23) (N6 (SV.c (i6 (↑y.i : Int))) (lf6 (rw6 ρ 71))
    n6) (N6 (SV.agg [i6 (mdF c' k' a' b' (mdF c k a b y.s.m).snd).fst.fst, i6 (mdF c' k' a' b' (mdF c k a b y.s.m).snd).fst.snd]) n6 n6))) (N6 (SV.c (SC.ptr 74 0)) (N6 (rw6 ρ 19) (N6
    (rw6 ρ 35) (lf6 (rw6 ρ 67)) n6) (lf6 (SV.agg [i6 c, i6 k, i6 a, i6 b]))) (N6 (rw6 ρ 27) (lf6 (rw6 ρ 43)) (N6 (SV.c (SC.ptr 67 0)) n6 n6)))) (N6 (SV.c (SC.ptr 33 0)) (N6 (rw6 ρ 9)
    (N6 (rw6 ρ 17) (N6 (rw6 ρ 33) (lf6 (rw6 ρ 65)) n6) (N6 (SV.c (SC.ptr 67 0)) n6 n6)) (N6 (rw6 ρ 25) (N6 (rw6 ρ 41) (lf6 (rw6 ρ 73)) n6) (lf6 (SV.agg [i6 c', i6 k', i6 a', i6 b']))))
    (N6 (SV.c (SC.ptr 84 0)) (N6 (rw6 ρ 21) (N6 (SV.c (SC.sliv p false len cap)) (lf6 (rw6 ρ 69)) n6) (N6 (SV.c (SC.ptr 31 0)) n6 n6)) (N6 (rw6 ρ 29) (lf6 (rw6 ρ 45)) (N6 (SV.agg [i6
    (mdF c k a b (mdF c' k' a' b' y.s.m).snd).fst.fst, i6 (mdF c k a b (mdF c' k' a' b' y.s.m).snd).fst.snd]) n6 n6))))) (N6 (rw6 ρ 2) (N6 (SV.c (SC.ptr 32 0)) (N6 (rw6 ρ 8) (N6 (rw6 ρ
    16) (N6 (rw6 ρ 32) (lf6 (rw6 ρ 64)) n6) (N6 (SV.c (SC.ptr 31 0)) n6 n6)) (N6 (rw6 ρ 24) (N6 (SV.c (SC.boo true false)) (lf6 (rw6 ρ 72)) n6) (N6 (SV.c (SC.ptr 67 0)) n6 n6))) (N6
    (SV.c (SC.ptr 75 0)) (N6 (rw6 ρ 20) (N6 (rw6 ρ 36) (lf6 (rw6 ρ 68)) n6) (N6 (SV.agg [i6 (mdF c k a b y.s.m).fst.fst, i6 (mdF c k a b y.s.m).fst.snd]) n6 n6)) (N6 (rw6 ρ 28) (lf6
    (rw6 ρ 44)) (lf6 (SV.agg [i6 c, i6 k, i6 a, i6 b]))))) (N6 (rw6 ρ 6) (N6 (SV.c (SC.ptr 67 0)) (N6 (rw6 ρ 18) (N6 (rw6 ρ 34) (lf6 (rw6 ρ 66)) n6) (N6 (SV.c (SC.ptr 31 0)) n6 n6)) (N6
    (rw6 ρ 26) (N6 (rw6 ρ 42) (lf6 (rw6 ρ 74)) n6) (N6 (SV.agg [i6 (mdF c' k' a' b' y.s.m).fst.fst, i6 (mdF c' k' a' b' y.s.m).fst.snd]) n6 n6))) (N6 (SV.c (SC.ptr 85 0)) (N6 (rw6 ρ 22)
    (N6 (SV.c (i6 (↑len : Int))) (lf6 (rw6 ρ 70)) n6) (lf6 (SV.agg [i6 c', i6 k', i6 a', i6 b']))) (N6 (rw6 ρ 30) (lf6 (rw6 ρ 46)) (lf6 (rw6 ρ 62))))))) []) (Mem.mk [(31, SO.ext (ob6
    (mdF c' k' a' b' (mdF c k a b y.s.m).snd).snd)), (32, SO.cells [i6 c, i6 k, i6 a, i6 b] (OfNat.ofNat 26)), (33, SO.cells [i6 c', i6 k', i6 a', i6 b'] (OfNat.ofNat 26)), (0, SO.seen
    W), (67, SO.ext (ob6 (mdF c k a b (mdF c' k' a' b' y.s.m).snd).snd)), (74, SO.cells [i6 (mdF c k a b y.s.m).fst.fst, i6 (mdF c k a b y.s.m).fst.snd] 33), (75, SO.cells [i6 (mdF c'
    k' a' b' (mdF c k a b y.s.m).snd).fst.fst, i6 (mdF c' k' a' b' (mdF c k a b y.s.m).snd).fst.snd] 33), (84, SO.cells [i6 (mdF c' k' a' b' y.s.m).fst.fst, i6 (mdF c' k' a' b'
    y.s.m).fst.snd] 33), (85, SO.cells [i6 (mdF c k a b (mdF c' k' a' b' y.s.m).snd).fst.fst, i6 (mdF c k a b (mdF c' k' a' b' y.s.m).snd).fst.snd] 33)] 88) Scr.nil.t.t)) ∧ (∀ (K : KO
    XM6), (fun X0 : Prop => (MdOk (mdF c' k' a' b' y.s.m).snd ∧ ((mdF c' k' a' b' y.s.m).snd.nilq = true → (mdF c' k' a' b' y.s.m).snd.q = [])) ∧ c = c ∧ k = k ∧ a = a ∧ b = b ∧ c' = c'
    ∧ k' = k' ∧ a' = a' ∧ b' = b' ∧ W = W ∧ (c = c ∧ k = k ∧ a = a ∧ b = b ∧ c' = c' ∧ k' = k' ∧ a' = a' ∧ b' = b' ∧ W = W ∧ (c = c ∧ k = k ∧ a = a ∧ b = b ∧ c' = c' ∧ k' = k' ∧ a' = a'
    ∧ b' = b' ∧ W = W ∧ (c = c ∧ k = k ∧ a = a ∧ b = b ∧ c' = c' ∧ k' = k' ∧ a' = a' ∧ b' = b' ∧ W = W ∧ X0 ∧ True) ∧ True) ∧ True) ∧ (∀ (K : KO XM6), (fun X1 : Prop => c = c ∧ k = k ∧
    a = a ∧ b = b ∧ c' = c' ∧ k' = k' ∧ a' = a' ∧ b' = b' ∧ W = W ∧ (c = c ∧ k = k ∧ a = a ∧ b = b ∧ c' = c' ∧ k' = k' ∧ a' = a' ∧ b' = b' ∧ W = W ∧ (c = c ∧ k = k ∧ a = a ∧ b = b ∧ c'
    = c' ∧ k' = k' ∧ a' = a' ∧ b' = b' ∧ W = W ∧ X1 ∧ True) ∧ True) ∧ True → c = c ∧ k = k ∧ a = a ∧ b = b ∧ c' = c' ∧ k' = k' ∧ a' = a' ∧ b' = b' ∧ W = W ∧ (c = c ∧ k = k ∧ a = a ∧ b =
    b ∧ c' = c' ∧ k' = k' ∧ a' = a' ∧ b' = b' ∧ W = W ∧ (c = c ∧ k = k ∧ a = a ∧ b = b ∧ c' = c' ∧ k' = k' ∧ a' = a' ∧ b' = b' ∧ W = W ∧ X1 ∧ True) ∧ True) ∧ True) (K (SF.mk 75 (N6 (rw6
    ρ 0) (N6 (rw6 ρ 1) (N6 (rw6 ρ 3) (N6 (SV.c (SC.ptr 31 0)) (N6 (rw6 ρ 15) (N6 (rw6 ρ 31) (lf6 (rw6 ρ 63)) n6) (lf6 (rw6 ρ 47))) (N6 (rw6 ρ 23) (N6 (SV.c (i6 (↑y.i : Int))) (lf6 (rw6
    ρ 71)) n6) (N6 (SV.agg [i6 (mdF c' k' a' b' (mdF c k a b y.s.m).snd).fst.fst, i6 (mdF c' k' a' b' (mdF c k a b y.s.m).snd).fst.snd]) n6 n6))) (N6 (SV.c (SC.ptr 74 0)) (N6 (rw6 ρ 19)
    (N6 (rw6 ρ 35) (lf6 (rw6 ρ 67)) n6) (lf6 (SV.agg [i6 c, i6 k, i6 a, i6 b]))) (N6 (rw6 ρ 27) (lf6 (rw6 ρ 43)) (N6 (SV.c (SC.ptr 67 0)) n6 n6)))) (N6 (SV.c (SC.ptr 33 0)) (N6 (rw6 ρ
    9) (N6 (rw6 ρ 17) (N6 (rw6 ρ 33) (lf6 (rw6 ρ 65)) n6) (N6 (SV.c (SC.ptr 67 0)) n6 n6)) (N6 (rw6 ρ 25) (N6 (rw6 ρ 41) (lf6 (rw6 ρ 73)) n6) (lf6 (SV.agg [i6 c', i6 k', i6 a', i6
    b'])))) (N6 (SV.c (SC.ptr 84 0)) (N6 (rw6 ρ 21) (N6 (SV.c (SC.sliv p false len cap)) (lf6 (rw6 ρ 69)) n6) (N6 (SV.c (SC.ptr 31 0)) n6 n6)) (N6 (rw6 ρ 29) (lf6 (rw6 ρ 45)) (N6
    (SV.agg [i6 (mdF c k a b (mdF c' k' a' b' y.s.m).snd).fst.fst, i6 (mdF c k a b (mdF c' k' a' b' y.s.m).snd).fst.snd]) n6 n6))))) (N6 (rw6 ρ 2) (N6 (SV.c (SC.ptr 32 0)) (N6 (rw6 ρ 8)
    (N6 (rw6 ρ 16) (N6 (rw6 ρ 32) (lf6 (rw6 ρ 64)) n6) (N6 (SV.c (SC.ptr 31 0)) n6 n6)) (N6 (rw6 ρ 24) (N6 (SV.c (SC.boo true false)) (lf6 (rw6 ρ 72)) n6) (N6 (SV.c (SC.ptr 67 0)) n6
    n6))) (N6 (SV.c (SC.ptr 75 0)) (N6 (rw6 ρ 20) (N6 (rw6 ρ 36) (lf6 (rw6 ρ 68)) n6) (N6 (SV.agg [i6 (mdF c k a b y.s.m).fst.fst, i6 (mdF c k a b y.s.m).fst.snd]) n6 n6)) (N6 (rw6 ρ
    28) (lf6 (rw6 ρ 44)) (lf6 (SV.agg [i6 c, i6 k, i6 a, i6 b]))))) (N6 (rw6 ρ 6) (N6 (SV.c (SC.ptr 67 0)) (N6 (rw6 ρ 18) (N6 (rw6 ρ 34) (lf6 (rw6 ρ 66)) n6) (N6 (SV.c (SC.ptr 31 0)) n6
    n6)) (N6 (rw6 ρ 26) (N6 (rw6 ρ 42) (lf6 (rw6 ρ 74)) n6) (N6 (SV.agg [i6 (mdF c' k' a' b' y.s.m).fst.fst, i6 (mdF c' k' a' b' y.s.m).fst.snd]) n6 n6))) (N6 (SV.c (SC.ptr 85 0)) (N6
    (rw6 ρ 22) (N6 (SV.c (i6 (↑len : Int))) (lf6 (rw6 ρ 70)) n6) (lf6 (SV.agg [i6 c', i6 k', i6 a', i6 b']))) (N6 (rw6 ρ 30) (lf6 (rw6 ρ 46)) (lf6 (rw6 ρ 62))))))) []) (Mem.mk [(31,
    SO.ext (ob6 (mdF c' k' a' b' (mdF c k a b y.s.m).snd).snd)), (32, SO.cells [i6 c, i6 k, i6 a, i6 b] (OfNat.ofNat 26)), (33, SO.cells [i6 c', i6 k', i6 a', i6 b'] (OfNat.ofNat 26)),
    (0, SO.seen W), (67, SO.ext (ob6 (mdF c k a b (mdF c' k' a' b' y.s.m).snd).snd)), (74, SO.cells [i6 (mdF c k a b y.s.m).fst.fst, i6 (mdF c k a b y.s.m).fst.snd] 33), (75, SO.cells
    [i6 (mdF c' k' a' b' (mdF c k a b y.s.m).snd).fst.fst, i6 (mdF c' k' a' b' (mdF c k a b y.s.m).snd).fst.snd] 33), (84, SO.cells [i6 (mdF c' k' a' b' y.s.m).fst.fst, i6 (mdF c' k' a'
    b' y.s.m).fst.snd] 33), (85, SO.cells [i6 (mdF c k a b (mdF c' k' a' b' y.s.m).snd).fst.fst, i6 (mdF c k a b (mdF c' k' a' b' y.s.m).snd).fst.snd] 33)] 88) Scr.nil.t.t)) ∧ True → c
    = c ∧ k = k ∧ a = a ∧ b = b ∧ c' = c' ∧ k' = k' ∧ a' = a' ∧ b' = b' ∧ W = W ∧ ((MdOk (mdF c' k' a' b' y.s.m).snd ∧ ((mdF c' k' a' b' y.s.m).snd.nilq = true → (mdF c' k' a' b'
    y.s.m).snd.q = [])) ∧ c = c ∧ k = k ∧ a = a ∧ b = b ∧ c' = c' ∧ k' = k' ∧ a' = a' ∧ b' = b' ∧ W = W ∧ (c = c ∧ k = k ∧ a = a ∧ b = b ∧ c' = c' ∧ k' = k' ∧ a' = a' ∧ b' = b' ∧ W = W
    ∧ (c = c ∧ k = k ∧ a = a ∧ b = b ∧ c' = c' ∧ k' = k' ∧ a' = a' ∧ b' = b' ∧ W = W ∧ X0 ∧ True) ∧ True) ∧ True) ∧ (∀ (K : KO XM6), (fun X1 : Prop => (MdOk (mdF c' k' a' b' y.s.m).snd
    ∧ ((mdF c' k' a' b' y.s.m).snd.nilq = true → (mdF c' k' a' b' y.s.m).snd.q = [])) ∧ c = c ∧ k = k ∧ a = a ∧ b = b ∧ c' = c' ∧ k' = k' ∧ a' = a' ∧ b' = b' ∧ W = W ∧ (c = c ∧ k = k ∧
    a = a ∧ b = b ∧ c' = c' ∧ k' = k' ∧ a' = a' ∧ b' = b' ∧ W = W ∧ (c = c ∧ k = k ∧ a = a ∧ b = b ∧ c' = c' ∧ k' = k' ∧ a' = a' ∧ b' = b' ∧ W = W ∧ X1 ∧ True) ∧ True) ∧ True → c = c ∧
    k = k ∧ a = a ∧ b = b ∧ c' = c' ∧ k' = k' ∧ a' = a' ∧ b' = b' ∧ W = W ∧ ((MdOk (mdF c' k' a' b' y.s.m).snd ∧ ((mdF c' k' a' b' y.s.m).snd.nilq = true → (mdF c' k' a' b' y.s.m).snd.q
    = [])) ∧ c = c ∧ k = k ∧ a = a ∧ b = b ∧ c' = c' ∧ k' = k' ∧ a' = a' ∧ b' = b' ∧ W = W ∧ (c = c ∧ k = k ∧ a = a ∧ b = b ∧ c' = c' ∧ k' = k' ∧ a' = a' ∧ b' = b' ∧ W = W ∧ X1 ∧ True)
    ∧ True) ∧ True) (K (SF.mk 75 (N6 (rw6 ρ 0) (N6 (rw6 ρ 1) (N6 (rw6 ρ 3) (N6 (SV.c (SC.ptr 31 0)) (N6 (rw6 ρ 15) (N6 (rw6 ρ 31) (lf6 (rw6 ρ 63)) n6) (lf6 (rw6 ρ 47))) (N6 (rw6 ρ 23)
    (N6 (SV.c (i6 (↑y.i : Int))) (lf6 (rw6 ρ 71)) n6) (N6 (SV.agg [i6 (mdF c' k' a' b' (mdF c k a b y.s.m).snd).fst.fst, i6 (mdF c' k' a' b' (mdF c k a b y.s.m).snd).fst.snd]) n6 n6)))
    (N6 (SV.c (SC.ptr 74 0)) (N6 (rw6 ρ 19) (N6 (rw6 ρ 35) (lf6 (rw6 ρ 67)) n6) (lf6 (SV.agg [i6 c, i6 k, i6 a, i6 b]))) (N6 (rw6 ρ 27) (lf6 (rw6 ρ 43)) (N6 (SV.c (SC.ptr 67 0)) n6
    n6)))) (N6 (SV.c (SC.ptr 33 0)) (N6 (rw6 ρ 9) (N6 (rw6 ρ 17) (N6 (rw6 ρ 33) (lf6 (rw6 ρ 65)) n6) (N6 (SV.c (SC.ptr 67 0)) n6 n6)) (N6 (rw6 ρ 25) (N6 (rw6 ρ 41) (lf6 (rw6 ρ 73)) n6)
    (lf6 (SV.agg [i6 c', i6 k', i6 a', i6 b'])))) (N6 (SV.c (SC.ptr 84 0)) (N6 (rw6 ρ 21) (N6 (SV.c (SC.sliv p false len cap)) (lf6 (rw6 ρ 69)) n6) (N6 (SV.c (SC.ptr 31 0)) n6 n6)) (N6
    (rw6 ρ 29) (lf6 (rw6 ρ 45)) (N6 (SV.agg [i6 (mdF c k a b (mdF c' k' a' b' y.s.m).snd).fst.fst, i6 (mdF c k a b (mdF c' k' a' b' y.s.m).snd).fst.snd]) n6 n6))))) (N6 (rw6 ρ 2) (N6
    (SV.c (SC.ptr 32 0)) (N6 (rw6 ρ 8) (N6 (rw6 ρ 16) (N6 (rw6 ρ 32) (lf6 (rw6 ρ 64)) n6) (N6 (SV.c (SC.ptr 31 0)) n6 n6)) (N6 (rw6 ρ 24) (N6 (SV.c (SC.boo true false)) (lf6 (rw6 ρ 72))
    n6) (N6 (SV.c (SC.ptr 67 0)) n6 n6))) (N6 (SV.c (SC.ptr 75 0)) (N6 (rw6 ρ 20) (N6 (rw6 ρ 36) (lf6 (rw6 ρ 68)) n6) (N6 (SV.agg [i6 (mdF c k a b y.s.m).fst.fst, i6 (mdF c k a b
    y.s.m).fst.snd]) n6 n6)) (N6 (rw6 ρ 28) (lf6 (rw6 ρ 44)) (lf6 (SV.agg [i6 c, i6 k, i6 a, i6 b]))))) (N6 (rw6 ρ 6) (N6 (SV.c (SC.ptr 67 0)) (N6 (rw6 ρ 18) (N6 (rw6 ρ 34) (lf6 (rw6 ρ
    66)) n6) (N6 (SV.c (SC.ptr 31 0)) n6 n6)) (N6 (rw6 ρ 26) (N6 (rw6 ρ 42) (lf6 (rw6 ρ 74)) n6) (N6 (SV.agg [i6 (mdF c' k' a' b' y.s.m).fst.fst, i6 (mdF c' k' a' b' y.s.m).fst.snd]) n6
    n6))) (N6 (SV.c (SC.ptr 85 0)) (N6 (rw6 ρ 22) (N6 (SV.c (i6 (↑len : Int))) (lf6 (rw6 ρ 70)) n6) (lf6 (SV.agg [i6 c', i6 k', i6 a', i6 b']))) (N6 (rw6 ρ 30) (lf6 (rw6 ρ 46)) (lf6
    (rw6 ρ 62))))))) []) (Mem.mk [(31, SO.ext (ob6 (mdF c' k' a' b' (mdF c k a b y.s.m).snd).snd)), (32, SO.cells [i6 c, i6 k, i6 a, i6 b] (OfNat.ofNat 26)), (33, SO.cells [i6 c', i6
    k', i6 a', i6 b'] (OfNat.ofNat 26)), (0, SO.seen W), (67, SO.ext (ob6 (mdF c k a b (mdF c' k' a' b' y.s.m).snd).snd)), (74, SO.cells [i6 (mdF c k a b y.s.m).fst.fst, i6 (mdF c k a b
    y.s.m).fst.snd] 33), (75, SO.cells [i6 (mdF c' k' a' b' (mdF c k a b y.s.m).snd).fst.fst, i6 (mdF c' k' a' b' (mdF c k a b y.s.m).snd).fst.snd] 33), (84, SO.cells [i6 (mdF c' k' a'
    b' y.s.m).fst.fst, i6 (mdF c' k' a' b' y.s.m).fst.snd] 33), (85, SO.cells [i6 (mdF c k a b (mdF c' k' a' b' y.s.m).snd).fst.fst, i6 (mdF c k a b (mdF c' k' a' b'
    y.s.m).snd).fst.snd] 33)] 88) Scr.nil.t.t)) ∧ True) (K (SF.mk 75 (N6 (rw6 ρ 0) (N6 (rw6 ρ 1) (N6 (rw6 ρ 3) (N6 (SV.c (SC.ptr 31 0)) (N6 (rw6 ρ 15) (N6 (rw6 ρ 31) (lf6 (rw6 ρ 63))
    n6) (lf6 (rw6 ρ 47))) (N6 (rw6 ρ 23) (N6 (SV.c (i6 (↑y.i : Int))) (lf6 (rw6 ρ 71)) n6) (N6 (SV.agg [i6 (mdF c' k' a' b' (mdF c k a b y.s.m).snd).fst.fst, i6 (mdF c' k' a' b' (mdF c
    k a b y.s.m).snd).fst.snd]) n6 n6))) (N6 (SV.c (SC.ptr 74 0)) (N6 (rw6 ρ 19) (N6 (rw6 ρ 35) (lf6 (rw6 ρ 67)) n6) (lf6 (SV.agg [i6 c, i6 k, i6 a, i6 b]))) (N6 (rw6 ρ 27) (lf6 (rw6 ρ
    43)) (N6 (SV.c (SC.ptr 67 0)) n6 n6)))) (N6 (SV.c (SC.ptr 33 0)) (N6 (rw6 ρ 9) (N6 (rw6 ρ 17) (N6 (rw6 ρ 33) (lf6 (rw6 ρ 65)) n6) (N6 (SV.c (SC.ptr 67 0)) n6 n6)) (N6 (rw6 ρ 25) (N6
    (rw6 ρ 41) (lf6 (rw6 ρ 73)) n6) (lf6 (SV.agg [i6 c', i6 k', i6 a', i6 b'])))) (N6 (SV.c (SC.ptr 84 0)) (N6 (rw6 ρ 21) (N6 (SV.c (SC.sliv p false len cap)) (lf6 (rw6 ρ 69)) n6) (N6
    (SV.c (SC.ptr 31 0)) n6 n6)) (N6 (rw6 ρ 29) (lf6 (rw6 ρ 45)) (N6 (SV.agg [i6 (mdF c k a b (mdF c' k' a' b' y.s.m).snd).fst.fst, i6 (mdF c k a b (mdF c' k' a' b'
    y.s.m).snd).fst.snd]) n6 n6))))) (N6 (rw6 ρ 2) (N6 (SV.c (SC.ptr 32 0)) (N6 (rw6 ρ 8) (N6 (rw6 ρ 16) (N6 (rw6 ρ 32) (lf6 (rw6 ρ 64)) n6) (N6 (SV.c (SC.ptr 31 0)) n6 n6)) (N6 (rw6 ρ
    24) (N6 (SV.c (SC.boo true false)) (lf6 (rw6 ρ 72)) n6) (N6 (SV.c (SC.ptr 67 0)) n6 n6))) (N6 (SV.c (SC.ptr 75 0)) (N6 (rw6 ρ 20) (N6 (rw6 ρ 36) (lf6 (rw6 ρ 68)) n6) (N6 (SV.agg [i6
    (mdF c k a b y.s.m).fst.fst, i6 (mdF c k a b y.s.m).fst.snd]) n6 n6)) (N6 (rw6 ρ 28) (lf6 (rw6 ρ 44)) (lf6 (SV.agg [i6 c, i6 k, i6 a, i6 b]))))) (N6 (rw6 ρ 6) (N6 (SV.c (SC.ptr 67
    0)) (N6 (rw6 ρ 18) (N6 (rw6 ρ 34) (lf6 (rw6 ρ 66)) n6) (N6 (SV.c (SC.ptr 31 0)) n6 n6)) (N6 (rw6 ρ 26) (N6 (rw6 ρ 42) (lf6 (rw6 ρ 74)) n6) (N6 (SV.agg [i6 (mdF c' k' a' b'
    y.s.m).fst.fst, i6 (mdF c' k' a' b' y.s.m).fst.snd]) n6 n6))) (N6 (SV.c (SC.ptr 85 0)) (N6 (rw6 ρ 22) (N6 (SV.c (i6 (↑len : Int))) (lf6 (rw6 ρ 70)) n6) (lf6 (SV.agg [i6 c', i6 k',
    i6 a', i6 b']))) (N6 (rw6 ρ 30) (lf6 (rw6 ρ 46)) (lf6 (rw6 ρ 62))))))) []) (Mem.mk [(31, SO.ext (ob6 (mdF c' k' a' b' (mdF c k a b y.s.m).snd).snd)), (32, SO.cells [i6 c, i6 k, i6
    a, i6 b] (OfNat.ofNat 26)), (33, SO.cells [i6 c', i6 k', i6 a', i6 b'] (OfNat.ofNat 26)), (0, SO.seen W), (67, SO.ext (ob6 (mdF c k a b (mdF c' k' a' b' y.s.m).snd).snd)), (74,
    SO.cells [i6 (mdF c k a b y.s.m).fst.fst, i6 (mdF c k a b y.s.m).fst.snd] 33), (75, SO.cells [i6 (mdF c' k' a' b' (mdF c k a b y.s.m).snd).fst.fst, i6 (mdF c' k' a' b' (mdF c k a b
    y.s.m).snd).fst.snd] 33), (84, SO.cells [i6 (mdF c' k' a' b' y.s.m).fst.fst, i6 (mdF c' k' a' b' y.s.m).fst.snd] 33), (85, SO.cells [i6 (mdF c k a b (mdF c' k' a' b'
    y.s.m).snd).fst.fst, i6 (mdF c k a b (mdF c' k' a' b' y.s.m).snd).fst.snd] 33)] 88) Scr.nil.t.t)) ∧ True) ∧ (∀ (K : KO XM6), (fun X0 : Prop => (MdOk y.s.m ∧ (y.s.m.nilq = true →
    y.s.m.q = [])) ∧ c = c ∧ k = k ∧ a = a ∧ b = b ∧ c' = c' ∧ k' = k' ∧ a' = a' ∧ b' = b' ∧ W = W ∧ ((MdOk (mdF c' k' a' b' y.s.m).snd ∧ ((mdF c' k' a' b' y.s.m).snd.nilq = true → (mdF
    c' k' a' b' y.s.m).snd.q = [])) ∧ c = c ∧ k = k ∧ a = a ∧ b = b ∧ c' = c' ∧ k' = k' ∧ a' = a' ∧ b' = b' ∧ W = W ∧ (c = c ∧ k = k ∧ a = a ∧ b = b ∧ c' = c' ∧ k' = k' ∧ a' = a' ∧ b' =
    b' ∧ W = W ∧ (c = c ∧ k = k ∧ a = a ∧ b = b ∧ c' = c' ∧ k' = k' ∧ a' = a' ∧ b' = b' ∧ W = W ∧ (c = c ∧ k = k ∧ a = a ∧ b = b ∧ c' = c' ∧ k' = k' ∧ a' = a' ∧ b' = b' ∧ W = W ∧ X0 ∧
    True) ∧ True) ∧ True) ∧ (∀ (K : KO XM6), (fun X1 : Prop => c = c ∧ k = k ∧ a = a ∧ b = b ∧ c' = c' ∧ k' = k' ∧ a' = a' ∧ b' = b' ∧ W = W ∧ (c = c ∧ k = k ∧ a = a ∧ b = b ∧ c' = c' ∧
    k' = k' ∧ a' = a' ∧ b' = b' ∧ W = W ∧ (c = c ∧ k = k ∧ a = a ∧ b = b ∧ c' = c' ∧ k' = k' ∧ a' = a' ∧ b' = b' ∧ W = W ∧ X1 ∧ True) ∧ True) ∧ True → c = c ∧ k = k ∧ a = a ∧ b = b ∧ c'
    = c' ∧ k' = k' ∧ a' = a' ∧ b' = b' ∧ W = W ∧ (c = c ∧ k = k ∧ a = a ∧ b = b ∧ c' = c' ∧ k' = k' ∧ a' = a' ∧ b' = b' ∧ W = W ∧ (c = c ∧ k = k ∧ a = a ∧ b = b ∧ c' = c' ∧ k' = k' ∧ a'
    = a' ∧ b' = b' ∧ W = W ∧ X1 ∧ True) ∧ True) ∧ True) (K (SF.mk 75 (N6 (rw6 ρ 0) (N6 (rw6 ρ 1) (N6 (rw6 ρ 3) (N6 (SV.c (SC.ptr 31 0)) (N6 (rw6 ρ 15) (N6 (rw6 ρ 31) (lf6 (rw6 ρ 63))
    n6) (lf6 (rw6 ρ 47))) (N6 (rw6 ρ 23) (N6 (SV.c (i6 (↑y.i : Int))) (lf6 (rw6 ρ 71)) n6) (N6 (SV.agg [i6 (mdF c' k' a' b' (mdF c k a b y.s.m).snd).fst.fst, i6 (mdF c' k' a' b' (mdF c
    k a b y.s.m).snd).fst.snd]) n6 n6))) (N6 (SV.c (SC.ptr 74 0)) (N6 (rw6 ρ 19) (N6 (rw6 ρ 35) (lf6 (rw6 ρ 67)) n6) (lf6 (SV.agg [i6 c, i6 k, i6 a, i6 b]))) (N6 (rw6 ρ 27) (lf6 (rw6 ρ
    43)) (N6 (SV.c (SC.ptr 67 0)) n6 n6)))) (N6 (SV.c (SC.ptr 33 0)) (N6 (rw6 ρ 9) (N6 (rw6 ρ 17) (N6 (rw6 ρ 33) (lf6 (rw6 ρ 65)) n6) (N6 (SV.c (SC.ptr 67 0)) n6 n6)) (N6 (rw6 ρ 25) (N6
    (rw6 ρ 41) (lf6 (rw6 ρ 73)) n6) (lf6 (SV.agg [i6 c', i6 k', i6 a', i6 b'])))) (N6 (SV.c (SC.ptr 84 0)) (N6 (rw6 ρ 21) (N6 (SV.c (SC.sliv p false len cap)) (lf6 (rw6 ρ 69)) n6) (N6
    (SV.c (SC.ptr 31 0)) n6 n6)) (N6 (rw6 ρ 29) (lf6 (rw6 ρ 45)) (N6 (SV.agg [i6 (mdF c k a b (mdF c' k' a' b' y.s.m).snd).fst.fst, i6 (mdF c k a b (mdF c' k' a' b'
    y.s.m).snd).fst.snd]) n6 n6))))) (N6 (rw6 ρ 2) (N6 (SV.c (SC.ptr 32 0)) (N6 (rw6 ρ 8) (N6 (rw6 ρ 16) (N6 (rw6 ρ 32) (lf6 (rw6 ρ 64)) n6) (N6 (SV.c (SC.ptr 31 0)) n6 n6)) (N6 (rw6 ρ
    24) (N6 (SV.c (SC.boo true false)) (lf6 (rw6 ρ 72)) n6) (N6 (SV.c (SC.ptr 67 0)) n6 n6))) (N6 (SV.c (SC.ptr 75 0)) (N6 (rw6 ρ 20) (N6 (rw6 ρ 36) (lf6 (rw6 ρ 68)) n6) (N6 (SV.agg [i6
    (mdF c k a b y.s.m).fst.fst, i6 (mdF c k a b y.s.m).fst.snd]) n6 n6)) (N6 (rw6 ρ 28) (lf6 (rw6 ρ 44)) (lf6 (SV.agg [i6 c, i6 k, i6 a, i6 b]))))) (N6 (rw6 ρ 6) (N6 (SV.c (SC.ptr 67
    0)) (N6 (rw6 ρ 18) (N6 (rw6 ρ 34) (lf6 (rw6 ρ 66)) n6) (N6 (SV.c (SC.ptr 31 0)) n6 n6)) (N6 (rw6 ρ 26) (N6 (rw6 ρ 42) (lf6 (rw6 ρ 74)) n6) (N6 (SV.agg [i6 (mdF c' k' a' b'
    y.s.m).fst.fst, i6 (mdF c' k' a' b' y.s.m).fst.snd]) n6 n6))) (N6 (SV.c (SC.ptr 85 0)) (N6 (rw6 ρ 22) (N6 (SV.c (i6 (↑len : Int))) (lf6 (rw6 ρ 70)) n6) (lf6 (SV.agg [i6 c', i6 k',
    i6 a', i6 b']))) (N6 (rw6 ρ 30) (lf6 (rw6 ρ 46)) (lf6 (rw6 ρ 62))))))) []) (Mem.mk [(31, SO.ext (ob6 (mdF c' k' a' b' (mdF c k a b y.s.m).snd).snd)), (32, SO.cells [i6 c, i6 k, i6
    a, i6 b] (OfNat.ofNat 26)), (33, SO.cells [i6 c', i6 k', i6 a', i6 b'] (OfNat.ofNat 26)), (0, SO.seen W), (67, SO.ext (ob6 (mdF c k a b (mdF c' k' a' b' y.s.m).snd).snd)), (74,
    SO.cells [i6 (mdF c k a b y.s.m).fst.fst, i6 (mdF c k a b y.s.m).fst.snd] 33), (75, SO.cells [i6 (mdF c' k' a' b' (mdF c k a b y.s.m).snd).fst.fst, i6 (mdF c' k' a' b' (mdF c k a b
    y.s.m).snd).fst.snd] 33), (84, SO.cells [i6 (mdF c' k' a' b' y.s.m).fst.fst, i6 (mdF c' k' a' b' y.s.m).fst.snd] 33), (85, SO.cells [i6 (mdF c k a b (mdF c' k' a' b'
    y.s.m).snd).fst.fst, i6 (mdF c k a b (mdF c' k' a' b' y.s.m).snd).fst.snd] 33)] 88) Scr.nil.t.t)) ∧ True) ∧ (∀ (K : KO XM6), (fun X1 : Prop => (MdOk (mdF c' k' a' b' y.s.m).snd ∧
    ((mdF c' k' a' b' y.s.m).snd.nilq = true → (mdF c' k' a' b' y.s.m).snd.q = [])) ∧ c = c ∧ k = k ∧ a = a ∧ b = b ∧ c' = c' ∧ k' = k' ∧ a' = a' ∧ b' = b' ∧ W = W ∧ (c = c ∧ k = k ∧ a
    = a ∧ b = b ∧ c' = c' ∧ k' = k' ∧ a' = a' ∧ b' = b' ∧ W = W ∧ (c = c ∧ k = k ∧ a = a ∧ b = b ∧ c' = c' ∧ k' = k' ∧ a' = a' ∧ b' = b' ∧ W = W ∧ (c = c ∧ k = k ∧ a = a ∧ b = b ∧ c' =
    c' ∧ k' = k' ∧ a' = a' ∧ b' = b' ∧ W = W ∧ X1 ∧ True) ∧ True) ∧ True) ∧ (∀ (K : KO XM6), (fun X2 : Prop => c = c ∧ k = k ∧ a = a ∧ b = b ∧ c' = c' ∧ k' = k' ∧ a' = a' ∧ b' = b' ∧ W
    = W ∧ (c = c ∧ k = k ∧ a = a ∧ b = b ∧ c' = c' ∧ k' = k' ∧ a' = a' ∧ b' = b' ∧ W = W ∧ (c = c ∧ k = k ∧ a = a ∧ b = b ∧ c' = c' ∧ k' = k' ∧ a' = a' ∧ b' = b' ∧ W = W ∧ X2 ∧ True) ∧
    True) ∧ True → c = c ∧ k = k ∧ a = a ∧ b = b ∧ c' = c' ∧ k' = k' ∧ a' = a' ∧ b' = b' ∧ W = W ∧ (c = c ∧ k = k ∧ a = a ∧ b = b ∧ c' = c' ∧ k' = k' ∧ a' = a' ∧ b' = b' ∧ W = W ∧ (c =
    c ∧ k = k ∧ a = a ∧ b = b ∧ c' = c' ∧ k' = k' ∧ a' = a' ∧ b' = b' ∧ W = W ∧ X2 ∧ True) ∧ True) ∧ True) (K (SF.mk 75 (N6 (rw6 ρ 0) (N6 (rw6 ρ 1) (N6 (rw6 ρ 3) (N6 (SV.c (SC.ptr 31
    0)) (N6 (rw6 ρ 15) (N6 (rw6 ρ 31) (lf6 (rw6 ρ 63)) n6) (lf6 (rw6 ρ 47))) (N6 (rw6 ρ 23) (N6 (SV.c (i6 (↑y.i : Int))) (lf6 (rw6 ρ 71)) n6) (N6 (SV.agg [i6 (mdF c' k' a' b' (mdF c k a
    b y.s.m).snd).fst.fst, i6 (mdF c' k' a' b' (mdF c k a b y.s.m).snd).fst.snd]) n6 n6))) (N6 (SV.c (SC.ptr 74 0)) (N6 (rw6 ρ 19) (N6 (rw6 ρ 35) (lf6 (rw6 ρ 67)) n6) (lf6 (SV.agg [i6
    c, i6 k, i6 a, i6 b]))) (N6 (rw6 ρ 27) (lf6 (rw6 ρ 43)) (N6 (SV.c (SC.ptr 67 0)) n6 n6)))) (N6 (SV.c (SC.ptr 33 0)) (N6 (rw6 ρ 9) (N6 (rw6 ρ 17) (N6 (rw6 ρ 33) (lf6 (rw6 ρ 65)) n6)
    (N6 (SV.c (SC.ptr 67 0)) n6 n6)) (N6 (rw6 ρ 25) (N6 (rw6 ρ 41) (lf6 (rw6 ρ 73)) n6) (lf6 (SV.agg [i6 c', i6 k', i6 a', i6 b'])))) (N6 (SV.c (SC.ptr 84 0)) (N6 (rw6 ρ 21) (N6 (SV.c
    (SC.sliv p false len cap)) (lf6 (rw6 ρ 69)) n6) (N6 (SV.c (SC.ptr 31 0)) n6 n6)) (N6 (rw6 ρ 29) (lf6 (rw6 ρ 45)) (N6 (SV.agg [i6 (mdF c k a b (mdF c' k' a' b' y.s.m).snd).fst.fst,
    i6 (mdF c k a b (mdF c' k' a' b' y.s.m).snd).fst.snd]) n6 n6))))) (N6 (rw6 ρ 2) (N6 (SV.c (SC.ptr 32 0)) (N6 (rw6 ρ 8) (N6 (rw6 ρ 16) (N6 (rw6 ρ 32) (lf6 (rw6 ρ 64)) n6) (N6 (SV.c
    (SC.ptr 31 0)) n6 n6)) (N6 (rw6 ρ 24) (N6 (SV.c (SC.boo true false)) (lf6 (rw6 ρ 72)) n6) (N6 (SV.c (SC.ptr 67 0)) n6 n6))) (N6 (SV.c (SC.ptr 75 0)) (N6 (rw6 ρ 20) (N6 (rw6 ρ 36)
    (lf6 (rw6 ρ 68)) n6) (N6 (SV.agg [i6 (mdF c k a b y.s.m).fst.fst, i6 (mdF c k a b y.s.m).fst.snd]) n6 n6)) (N6 (rw6 ρ 28) (lf6 (rw6 ρ 44)) (lf6 (SV.agg [i6 c, i6 k, i6 a, i6 b])))))
    (N6 (rw6 ρ 6) (N6 (SV.c (SC.ptr 67 0)) (N6 (rw6 ρ 18) (N6 (rw6 ρ 34) (lf6 (rw6 ρ 66)) n6) (N6 (SV.c (SC.ptr 31 0)) n6 n6)) (N6 (rw6 ρ 26) (N6 (rw6 ρ 42) (lf6 (rw6 ρ 74)) n6) (N6
    (SV.agg [i6 (mdF c' k' a' b' y.s.m).fst.fst, i6 (mdF c' k' a' b' y.s.m).fst.snd]) n6 n6))) (N6 (SV.c (SC.ptr 85 0)) (N6 (rw6 ρ 22) (N6 (SV.c (i6 (↑len : Int))) (lf6 (rw6 ρ 70)) n6)
    (lf6 (SV.agg [i6 c', i6 k', i6 a', i6 b']))) (N6 (rw6 ρ 30) (lf6 (rw6 ρ 46)) (lf6 (rw6 ρ 62))))))) []) (Mem.mk [(31, SO.ext (ob6 (mdF c' k' a' b' (mdF c k a b y.s.m).snd).snd)),
    (32, SO.cells [i6 c, i6 k, i6 a, i6 b] (OfNat.ofNat 26)), (33, SO.cells [i6 c', i6 k', i6 a', i6 b'] (OfNat.ofNat 26)), (0, SO.seen W), (67, SO.ext (ob6 (mdF c k a b (mdF c' k' a'
    b' y.s.m).snd).snd)), (74, SO.cells [i6 (mdF c k a b y.s.m).fst.fst, i6 (mdF c k a b y.s.m).fst.snd] 33), (75, SO.cells [i6 (mdF c' k' a' b' (mdF c k a b y.s.m).snd).fst.fst, i6
    (mdF c' k' a' b' (mdF c k a b y.s.m).snd).fst.snd] 33), (84, SO.cells [i6 (mdF c' k' a' b' y.s.m).fst.fst, i6 (mdF c' k' a' b' y.s.m).fst.snd] 33), (85, SO.cells [i6 (mdF c k a b
    (mdF c' k' a' b' y.s.m).snd).fst.fst, i6 (mdF c k a b (mdF c' k' a' b' y.s.m).snd).fst.snd] 33)] 88) Scr.nil.t.t)) ∧ True → c = c ∧ k = k ∧ a = a ∧ b = b ∧ c' = c' ∧ k' = k' ∧ a' =
    a' ∧ b' = b' ∧ W = W ∧ ((MdOk (mdF c' k' a' b' y.s.m).snd ∧ ((mdF c' k' a' b' y.s.m).snd.nilq = true → (mdF c' k' a' b' y.s.m).snd.q = [])) ∧ c = c ∧ k = k ∧ a = a ∧ b = b ∧ c' = c'
    ∧ k' = k' ∧ a' = a' ∧ b' = b' ∧ W = W ∧ (c = c ∧ k = k ∧ a = a ∧ b = b ∧ c' = c' ∧ k' = k' ∧ a' = a' ∧ b' = b' ∧ W = W ∧ (c = c ∧ k = k ∧ a = a ∧ b = b ∧ c' = c' ∧ k' = k' ∧ a' = a'
    ∧ b' = b' ∧ W = W ∧ X1 ∧ True) ∧ True) ∧ True) ∧ (∀ (K : KO XM6), (fun X2 : Prop => (MdOk (mdF c' k' a' b' y.s.m).snd ∧ ((mdF c' k' a' b' y.s.m).snd.nilq = true → (mdF c' k' a' b'
    y.s.m).snd.q = [])) ∧ c = c ∧ k = k ∧ a = a ∧ b = b ∧ c' = c' ∧ k' = k' ∧ a' = a' ∧ b' = b' ∧ W = W ∧ (c = c ∧ k = k ∧ a = a ∧ b = b ∧ c' = c' ∧ k' = k' ∧ a' = a' ∧ b' = b' ∧ W = W
    ∧ (c = c ∧ k = k ∧ a = a ∧ b = b ∧ c' = c' ∧ k' = k' ∧ a' = a' ∧ b' = b' ∧ W = W ∧ X2 ∧ True) ∧ True) ∧ True → c = c ∧ k = k ∧ a = a ∧ b = b ∧ c' = c' ∧ k' = k' ∧ a' = a' ∧ b' = b'
    ∧ W = W ∧ ((MdOk (mdF c' k' a' b' y.s.m).snd ∧ ((mdF c' k' a' b' y.s.m).snd.nilq = true → (mdF c' k' a' b' y.s.m).snd.q = [])) ∧ c = c ∧ k = k ∧ a = a ∧ b = b ∧ c' = c' ∧ k' = k' ∧
    a' = a' ∧ b' = b' ∧ W = W ∧ (c = c ∧ k = k ∧ a = a ∧ b = b ∧ c' = c' ∧ k' = k' ∧ a' = a' ∧ b' = b' ∧ W = W ∧ X2 ∧ True) ∧ True) ∧ True) (K (SF.mk 75 (N6 (rw6 ρ 0) (N6 (rw6 ρ 1) (N6
    (rw6 ρ 3) (N6 (SV.c (SC.ptr 31 0)) (N6 (rw6 ρ 15) (N6 (rw6 ρ 31) (lf6 (rw6 ρ 63)) n6) (lf6 (rw6 ρ 47))) (N6 (rw6 ρ 23) (N6 (SV.c (i6 (↑y.i : Int))) (lf6 (rw6 ρ 71)) n6) (N6 (SV.agg
    [i6 (mdF c' k' a' b' (mdF c k a b y.s.m).snd).fst.fst, i6 (mdF c' k' a' b' (mdF c k a b y.s.m).snd).fst.snd]) n6 n6))) (N6 (SV.c (SC.ptr 74 0)) (N6 (rw6 ρ 19) (N6 (rw6 ρ 35) (lf6
    (rw6 ρ 67)) n6) (lf6 (SV.agg [i6 c, i6 k, i6 a, i6 b]))) (N6 (rw6 ρ 27) (lf6 (rw6 ρ 43)) (N6 (SV.c (SC.ptr 67 0)) n6 n6)))) (N6 (SV.c (SC.ptr 33 0)) (N6 (rw6 ρ 9) (N6 (rw6 ρ 17) (N6
    (rw6 ρ 33) (lf6 (rw6 ρ 65)) n6) (N6 (SV.c (SC.ptr 67 0)) n6 n6)) (N6 (rw6 ρ 25) (N6 (rw6 ρ 41) (lf6 (rw6 ρ 73)) n6) (lf6 (SV.agg [i6 c', i6 k', i6 a', i6 b'])))) (N6 (SV.c (SC.ptr
    84 0)) (N6 (rw6 ρ 21) (N6 (SV.c (SC.sliv p false len cap)) (lf6 (rw6 ρ 69)) n6) (N6 (SV.c (SC.ptr 31 0)) n6 n6)) (N6 (rw6 ρ 29) (lf6 (rw6 ρ 45)) (N6 (SV.agg [i6 (mdF c k a b (mdF c'
    k' a' b' y.s.m).snd).fst.fst, i6 (mdF c k a b (mdF c' k' a' b' y.s.m).snd).fst.snd]) n6 n6))))) (N6 (rw6 ρ 2) (N6 (SV.c (SC.ptr 32 0)) (N6 (rw6 ρ 8) (N6 (rw6 ρ 16) (N6 (rw6 ρ 32)
    (lf6 (rw6 ρ 64)) n6) (N6 (SV.c (SC.ptr 31 0)) n6 n6)) (N6 (rw6 ρ 24) (N6 (SV.c (SC.boo true false)) (lf6 (rw6 ρ 72)) n6) (N6 (SV.c (SC.ptr 67 0)) n6 n6))) (N6 (SV.c (SC.ptr 75 0))
    (N6 (rw6 ρ 20) (N6 (rw6 ρ 36) (lf6 (rw6 ρ 68)) n6) (N6 (SV.agg [i6 (mdF c k a b y.s.m).fst.fst, i6 (mdF c k a b y.s.m).fst.snd]) n6 n6)) (N6 (rw6 ρ 28) (lf6 (rw6 ρ 44)) (lf6 (SV.agg
    [i6 c, i6 k, i6 a, i6 b]))))) (N6 (rw6 ρ 6) (N6 (SV.c (SC.ptr 67 0)) (N6 (rw6 ρ 18) (N6 (rw6 ρ 34) (lf6 (rw6 ρ 66)) n6) (N6 (SV.c (SC.ptr 31 0)) n6 n6)) (N6 (rw6 ρ 26) (N6 (rw6 ρ
    42) (lf6 (rw6 ρ 74)) n6) (N6 (SV.agg [i6 (mdF c' k' a' b' y.s.m).fst.fst, i6 (mdF c' k' a' b' y.s.m).fst.snd]) n6 n6))) (N6 (SV.c (SC.ptr 85 0)) (N6 (rw6 ρ 22) (N6 (SV.c (i6 (↑len :
    Int))) (lf6 (rw6 ρ 70)) n6) (lf6 (SV.agg [i6 c', i6 k', i6 a', i6 b']))) (N6 (rw6 ρ 30) (lf6 (rw6 ρ 46)) (lf6 (rw6 ρ 62))))))) []) (Mem.mk [(31, SO.ext (ob6 (mdF c' k' a' b' (mdF c
    k a b y.s.m).snd).snd)), (32, SO.cells [i6 c, i6 k, i6 a, i6 b] (OfNat.ofNat 26)), (33, SO.cells [i6 c', i6 k', i6 a', i6 b'] (OfNat.ofNat 26)), (0, SO.seen W), (67, SO.ext (ob6
    (mdF c k a b (mdF c' k' a' b' y.s.m).snd).snd)), (74, SO.cells [i6 (mdF c k a b y.s.m).fst.fst, i6 (mdF c k a b y.s.m).fst.snd] 33), (75, SO.cells [i6 (mdF c' k' a' b' (mdF c k a b
    y.s.m).snd).fst.fst, i6 (mdF c' k' a' b' (mdF c k a b y.s.m).snd).fst.snd] 33), (84, SO.cells [i6 (mdF c' k' a' b' y.s.m).fst.fst, i6 (mdF c' k' a' b' y.s.m).fst.snd] 33), (85,
    SO.cells [i6 (mdF c k a b (mdF c' k' a' b' y.s.m).snd).fst.fst, i6 (mdF c k a b (mdF c' k' a' b' y.s.m).snd).fst.snd] 33)] 88) Scr.nil.t.t)) ∧ True) (K (SF.mk 75 (N6 (rw6 ρ 0) (N6
    (rw6 ρ 1) (N6 (rw6 ρ 3) (N6 (SV.c (SC.ptr 31 0)) (N6 (rw6 ρ 15) (N6 (rw6 ρ 31) (lf6 (rw6 ρ 63)) n6) (lf6 (rw6 ρ 47))) (N6 (rw6 ρ 23) (N6 (SV.c (i6 (↑y.i : Int))) (lf6 (rw6 ρ 71))
    n6) (N6 (SV.agg [i6 (mdF c' k' a' b' (mdF c k a b y.s.m).snd).fst.fst, i6 (mdF c' k' a' b' (mdF c k a b y.s.m).snd).fst.snd]) n6 n6))) (N6 (SV.c (SC.ptr 74 0)) (N6 (rw6 ρ 19) (N6
    (rw6 ρ 35) (lf6 (rw6 ρ 67)) n6) (lf6 (SV.agg [i6 c, i6 k, i6 a, i6 b]))) (N6 (rw6 ρ 27) (lf6 (rw6 ρ 43)) (N6 (SV.c (SC.ptr 67 0)) n6 n6)))) (N6 (SV.c (SC.ptr 33 0)) (N6 (rw6 ρ 9)
    (N6 (rw6 ρ 17) (N6 (rw6 ρ 33) (lf6 (rw6 ρ 65)) n6) (N6 (SV.c (SC.ptr 67 0)) n6 n6)) (N6 (rw6 ρ 25) (N6 (rw6 ρ 41) (lf6 (rw6 ρ 73)) n6) (lf6 (SV.agg [i6 c', i6 k', i6 a', i6 b']))))
    (N6 (SV.c (SC.ptr 84 0)) (N6 (rw6 ρ 21) (N6 (SV.c (SC.sliv p false len cap)) (lf6 (rw6 ρ 69)) n6) (N6 (SV.c (SC.ptr 31 0)) n6 n6)) (N6 (rw6 ρ 29) (lf6 (rw6 ρ 45)) (N6 (SV.agg [i6
    (mdF c k a b (mdF c' k' a' b' y.s.m).snd).fst.fst, i6 (mdF c k a b (mdF c' k' a' b' y.s.m).snd).fst.snd]) n6 n6))))) (N6 (rw6 ρ 2) (N6 (SV.c (SC.ptr 32 0)) (N6 (rw6 ρ 8) (N6 (rw6 ρ
    16) (N6 (rw6 ρ 32) (lf6 (rw6 ρ 64)) n6) (N6 (SV.c (SC.ptr 31 0)) n6 n6)) (N6 (rw6 ρ 24) (N6 (SV.c (SC.boo true false)) (lf6 (rw6 ρ 72)) n6) (N6 (SV.c (SC.ptr 67 0)) n6 n6))) (N6
    (SV.c (SC.ptr 75 0)) (N6 (rw6 ρ 20) (N6 (rw6 ρ 36) (lf6 (rw6 ρ 68)) n6) (N6 (SV.agg [i6 (mdF c k a b y.s.m).fst.fst, i6 (mdF c k a b y.s.m).fst.snd]) n6 n6)) (N6 (rw6 ρ 28) (lf6
    (rw6 ρ 44)) (lf6 (SV.agg [i6 c, i6 k, i6 a, i6 b]))))) (N6 (rw6 ρ 6) (N6 (SV.c (SC.ptr 67 0)) (N6 (rw6 ρ 18) (N6 (rw6 ρ 34) (lf6 (rw6 ρ 66)) n6) (N6 (SV.c (SC.ptr 31 0)) n6 n6)) (N6
    (rw6 ρ 26) (N6 (rw6 ρ 42) (lf6 (rw6 ρ 74)) n6) (N6 (SV.agg [i6 (mdF c' k' a' b' y.s.m).fst.fst, i6 (mdF c' k' a' b' y.s.m).fst.snd]) n6 n6))) (N6 (SV.c (SC.ptr 85 0)) (N6 (rw6 ρ 22)
    (N6 (SV.c (i6 (↑len : Int))) (lf6 (rw6 ρ 70)) n6) (lf6 (SV.agg [i6 c', i6 k', i6 a', i6 b']))) (N6 (rw6 ρ 30) (lf6 (rw6 ρ 46)) (lf6 (rw6 ρ 62))))))) []) (Mem.mk [(31, SO.ext (ob6
    (mdF c' k' a' b' (mdF c k a b y.s.m).snd).snd)), (32, SO.cells [i6 c, i6 k, i6 a, i6 b] (OfNat.ofNat 26)), (33, SO.cells [i6 c', i6 k', i6 a', i6 b'] (OfNat.ofNat 26)), (0, SO.seen
    W), (67, SO.ext (ob6 (mdF c k a b (mdF c' k' a' b' y.s.m).snd).snd)), (74, SO.cells [i6 (mdF c k a b y.s.m).fst.fst, i6 (mdF c k a b y.s.m).fst.snd] 33), (75, SO.cells [i6 (mdF c'
    k' a' b' (mdF c k a b y.s.m).snd).fst.fst, i6 (mdF c' k' a' b' (mdF c k a b y.s.m).snd).fst.snd] 33), (84, SO.cells [i6 (mdF c' k' a' b' y.s.m).fst.fst, i6 (mdF c' k' a' b'
    y.s.m).fst.snd] 33), (85, SO.cells [i6 (mdF c k a b (mdF c' k' a' b' y.s.m).snd).fst.fst, i6 (mdF c k a b (mdF c' k' a' b' y.s.m).snd).fst.snd] 33)] 88) Scr.nil.t.t)) ∧ (∀ (K : KO
    XM6), (fun X1 : Prop => (MdOk (mdF c' k' a' b' y.s.m).snd ∧ ((mdF c' k' a' b' y.s.m).snd.nilq = true → (mdF c' k' a' b' y.s.m).snd.q = [])) ∧ c = c ∧ k = k ∧ a = a ∧ b = b ∧ c' = c'
    ∧ k' = k' ∧ a' = a' ∧ b' = b' ∧ W = W ∧ (c = c ∧ k = k ∧ a = a ∧ b = b ∧ c' = c' ∧ k' = k' ∧ a' = a' ∧ b' = b' ∧ W = W ∧ (c = c ∧ k = k ∧ a = a ∧ b = b ∧ c' = c' ∧ k' = k' ∧ a' = a'
    ∧ b' = b' ∧ W = W ∧ (c = c ∧ k = k ∧ a = a ∧ b = b ∧ c' = c' ∧ k' = k' ∧ a' = a' ∧ b' = b' ∧ W = W ∧ X1 ∧ True) ∧ True) ∧ True) ∧ (∀ (K : KO XM6), (fun X2 : Prop => c = c ∧ k = k ∧
    a = a ∧ b = b ∧ c' = c' ∧ k' = k' ∧ a' = a' ∧ b' = b' ∧ W = W ∧ (c = c ∧ k = k ∧ a = a ∧ b = b ∧ c' = c' ∧ k' = k' ∧ a' = a' ∧ b' = b' ∧ W = W ∧ (c = c ∧ k = k ∧ a = a ∧ b = b ∧ c'
    = c' ∧ k' = k' ∧ a' = a' ∧ b' = b' ∧ W = W ∧ X2 ∧ True) ∧ True) ∧ True → c = c ∧ k = k ∧ a = a ∧ b = b ∧ c' = c' ∧ k' = k' ∧ a' = a' ∧ b' = b' ∧ W = W ∧ (c = c ∧ k = k ∧ a = a ∧ b =
    b ∧ c' = c' ∧ k' = k' ∧ a' = a' ∧ b' = b' ∧ W = W ∧ (c = c ∧ k = k ∧ a = a ∧ b = b ∧ c' = c' ∧ k' = k' ∧ a' = a' ∧ b' = b' ∧ W = W ∧ X2 ∧ True) ∧ True) ∧ True) (K (SF.mk 75 (N6 (rw6
    ρ 0) (N6 (rw6 ρ 1) (N6 (rw6 ρ 3) (N6 (SV.c (SC.ptr 31 0)) (N6 (rw6 ρ 15) (N6 (rw6 ρ 31) (lf6 (rw6 ρ 63)) n6) (lf6 (rw6 ρ 47))) (N6 (rw6 ρ 23) (N6 (SV.c (i6 (↑y.i : Int))) (lf6 (rw6
    ρ 71)) n6) (N6 (SV.agg [i6 (mdF c' k' a' b' (mdF c k a b y.s.m).snd).fst.fst, i6 (mdF c' k' a' b' (mdF c k a b y.s.m).snd).fst.snd]) n6 n6))) (N6 (SV.c (SC.ptr 74 0)) (N6 (rw6 ρ 19)
    (N6 (rw6 ρ 35) (lf6 (rw6 ρ 67)) n6) (lf6 (SV.agg [i6 c, i6 k, i6 a, i6 b]))) (N6 (rw6 ρ 27) (lf6 (rw6 ρ 43)) (N6 (SV.c (SC.ptr 67 0)) n6 n6)))) (N6 (SV.c (SC.ptr 33 0)) (N6 (rw6 ρ
    9) (N6 (rw6 ρ 17) (N6 (rw6 ρ 33) (lf6 (rw6 ρ 65)) n6) (N6 (SV.c (SC.ptr 67 0)) n6 n6)) (N6 (rw6 ρ 25) (N6 (rw6 ρ 41) (lf6 (rw6 ρ 73)) n6) (lf6 (SV.agg [i6 c', i6 k', i6 a', i6
    b'])))) (N6 (SV.c (SC.ptr 84 0)) (N6 (rw6 ρ 21) (N6 (SV.c (SC.sliv p false len cap)) (lf6 (rw6 ρ 69)) n6) (N6 (SV.c (SC.ptr 31 0)) n6 n6)) (N6 (rw6 ρ 29) (lf6 (rw6 ρ 45)) (N6
    (SV.agg [i6 (mdF c k a b (mdF c' k' a' b' y.s.m).snd).fst.fst, i6 (mdF c k a b (mdF c' k' a' b' y.s.m).snd).fst.snd]) n6 n6))))) (N6 (rw6 ρ 2) (N6 (SV.c (SC.ptr 32 0)) (N6 (rw6 ρ 8)
    (N6 (rw6 ρ 16) (N6 (rw6 ρ 32) (lf6 (rw6 ρ 64)) n6) (N6 (SV.c (SC.ptr 31 0)) n6 n6)) (N6 (rw6 ρ 24) (N6 (SV.c (SC.boo true false)) (lf6 (rw6 ρ 72)) n6) (N6 (SV.c (SC.ptr 67 0)) n6
    n6))) (N6 (SV.c (SC.ptr 75 0)) (N6 (rw6 ρ 20) (N6 (rw6 ρ 36) (lf6 (rw6 ρ 68)) n6) (N6 (SV.agg [i6 (mdF c k a b y.s.m).fst.fst, i6 (mdF c k a b y.s.m).fst.snd]) n6 n6)) (N6 (rw6 ρ
    28) (lf6 (rw6 ρ 44)) (lf6 (SV.agg [i6 c, i6 k, i6 a, i6 b]))))) (N6 (rw6 ρ 6) (N6 (SV.c (SC.ptr 67 0)) (N6 (rw6 ρ 18) (N6 (rw6 ρ 34) (lf6 (rw6 ρ 66)) n6) (N6 (SV.c (SC.ptr 31 0)) n6
    n6)) (N6 (rw6 ρ 26) (N6 (rw6 ρ 42) (lf6 (rw6 ρ 74)) n6) (N6 (SV.agg [i6 (mdF c' k' a' b' y.s.m).fst.fst, i6 (mdF c' k' a' b' y.s.m).fst.snd]) n6 n6))) (N6 (SV.c (SC.ptr 85 0)) (N6
    (rw6 ρ 22) (N6 (SV.c (i6 (↑len : Int))) (lf6 (rw6 ρ 70)) n6) (lf6 (SV.agg [i6 c', i6 k', i6 a', i6 b']))) (N6 (rw6 ρ 30) (lf6 (rw6 ρ 46)) (lf6 (rw6 ρ 62))))))) []) (Mem.mk [(31,
    SO.ext (ob6 (mdF c' k' a' b' (mdF c k a b y.s.m).snd).snd)), (32, SO.cells [i6 c, i6 k, i6 a, i6 b] (OfNat.ofNat 26)), (33, SO.cells [i6 c', i6 k', i6 a', i6 b'] (OfNat.ofNat 26)),
    (0, SO.seen W), (67, SO.ext (ob6 (mdF c k a b (mdF c' k' a' b' y.s.m).snd).snd)), (74, SO.cells [i6 (mdF c k a b y.s.m).fst.fst, i6 (mdF c k a b y.s.m).fst.snd] 33), (75, SO.cells
    [i6 (mdF c' k' a' b' (mdF c k a b y.s.m).snd).fst.fst, i6 (mdF c' k' a' b' (mdF c k a b y.s.m).snd).fst.snd] 33), (84, SO.cells [i6 (mdF c' k' a' b' y.s.m).fst.fst, i6 (mdF c' k' a'
    b' y.s.m).fst.snd] 33), (85, SO.cells [i6 (mdF c k a b (mdF c' k' a' b' y.s.m).snd).fst.fst, i6 (mdF c k a b (mdF c' k' a' b' y.s.m).snd).fst.snd] 33)] 88) Scr.nil.t.t)) ∧ True → c
    = c ∧ k = k ∧ a = a ∧ b = b ∧ c' = c' ∧ k' = k' ∧ a' = a' ∧ b' = b' ∧ W = W ∧ ((MdOk (mdF c' k' a' b' y.s.m).snd ∧ ((mdF c' k' a' b' y.s.m).snd.nilq = true → (mdF c' k' a' b'
    y.s.m).snd.q = [])) ∧ c = c ∧ k = k ∧ a = a ∧ b = b ∧ c' = c' ∧ k' = k' ∧ a' = a' ∧ b' = b' ∧ W = W ∧ (c = c ∧ k = k ∧ a = a ∧ b = b ∧ c' = c' ∧ k' = k' ∧ a' = a' ∧ b' = b' ∧ W = W
    ∧ (c = c ∧ k = k ∧ a = a ∧ b = b ∧ c' = c' ∧ k' = k' ∧ a' = a' ∧ b' = b' ∧ W = W ∧ X1 ∧ True) ∧ True) ∧ True) ∧ (∀ (K : KO XM6), (fun X2 : Prop => (MdOk (mdF c' k' a' b' y.s.m).snd
    ∧ ((mdF c' k' a' b' y.s.m).snd.nilq = true → (mdF c' k' a' b' y.s.m).snd.q = [])) ∧ c = c ∧ k = k ∧ a = a ∧ b = b ∧ c' = c' ∧ k' = k' ∧ a' = a' ∧ b' = b' ∧ W = W ∧ (c = c ∧ k = k ∧
    a = a ∧ b = b ∧ c' = c' ∧ k' = k' ∧ a' = a' ∧ b' = b' ∧ W = W ∧ (c = c ∧ k = k ∧ a = a ∧ b = b ∧ c' = c' ∧ k' = k' ∧ a' = a' ∧ b' = b' ∧ W = W ∧ X2 ∧ True) ∧ True) ∧ True → c = c ∧
    k = k ∧ a = a ∧ b = b ∧ c' = c' ∧ k' = k' ∧ a' = a' ∧ b' = b' ∧ W = W ∧ ((MdOk (mdF c' k' a' b' y.s.m).snd ∧ ((mdF c' k' a' b' y.s.m).snd.nilq = true → (mdF c' k' a' b' y.s.m).snd.q
    = [])) ∧ c = c ∧ k = k ∧ a = a ∧ b = b ∧ c' = c' ∧ k' = k' ∧ a' = a' ∧ b' = b' ∧ W = W ∧ (c = c ∧ k = k ∧ a = a ∧ b = b ∧ c' = c' ∧ k' = k' ∧ a' = a' ∧ b' = b' ∧ W = W ∧ X2 ∧ True)
    ∧ True) ∧ True) (K (SF.mk 75 (N6 (rw6 ρ 0) (N6 (rw6 ρ 1) (N6 (rw6 ρ 3) (N6 (SV.c (SC.ptr 31 0)) (N6 (rw6 ρ 15) (N6 (rw6 ρ 31) (lf6 (rw6 ρ 63)) n6) (lf6 (rw6 ρ 47))) (N6 (rw6 ρ 23)
    (N6 (SV.c (i6 (↑y.i : Int))) (lf6 (rw6 ρ 71)) n6) (N6 (SV.agg [i6 (mdF c' k' a' b' (mdF c k a b y.s.m).snd).fst.fst, i6 (mdF c' k' a' b' (mdF c k a b y.s.m).snd).fst.snd]) n6 n6)))
    (N6 (SV.c (SC.ptr 74 0)) (N6 (rw6 ρ 19) (N6 (rw6 ρ 35) (lf6 (rw6 ρ 67)) n6) (lf6 (SV.agg [i6 c, i6 k, i6 a, i6 b]))) (N6 (rw6 ρ 27) (lf6 (rw6 ρ 43)) (N6 (SV.c (SC.ptr 67 0)) n6
    n6)))) (N6 (SV.c (SC.ptr 33 0)) (N6 (rw6 ρ 9) (N6 (rw6 ρ 17) (N6 (rw6 ρ 33) (lf6 (rw6 ρ 65)) n6) (N6 (SV.c (SC.ptr 67 0)) n6 n6)) (N6 (rw6 ρ 25) (N6 (rw6 ρ 41) (lf6 (rw6 ρ 73)) n6)
    (lf6 (SV.agg [i6 c', i6 k', i6 a', i6 b'])))) (N6 (SV.c (SC.ptr 84 0)) (N6 (rw6 ρ 21) (N6 (SV.c (SC.sliv p false len cap)) (lf6 (rw6 ρ 69)) n6) (N6 (SV.c (SC.ptr 31 0)) n6 n6)) (N6
    (rw6 ρ 29) (lf6 (rw6 ρ 45)) (N6 (SV.agg [i6 (mdF c k a b (mdF c' k' a' b' y.s.m).snd).fst.fst, i6 (mdF c k a b (mdF c' k' a' b' y.s.m).snd).fst.snd]) n6 n6))))) (N6 (rw6 ρ 2) (N6
    (SV.c (SC.ptr 32 0)) (N6 (rw6 ρ 8) (N6 (rw6 ρ 16) (N6 (rw6 ρ 32) (lf6 (rw6 ρ 64)) n6) (N6 (SV.c (SC.ptr 31 0)) n6 n6)) (N6 (rw6 ρ 24) (N6 (SV.c (SC.boo true false)) (lf6 (rw6 ρ 72))
    n6) (N6 (SV.c (SC.ptr 67 0)) n6 n6))) (N6 (SV.c (SC.ptr 75 0)) (N6 (rw6 ρ 20) (N6 (rw6 ρ 36) (lf6 (rw6 ρ 68)) n6) (N6 (SV.agg [i6 (mdF c k a b y.s.m).fst.fst, i6 (mdF c k a b
    y.s.m).fst.snd]) n6 n6)) (N6 (rw6 ρ 28) (lf6 (rw6 ρ 44)) (lf6 (SV.agg [i6 c, i6 k, i6 a, i6 b]))))) (N6 (rw6 ρ 6) (N6 (SV.c (SC.ptr 67 0)) (N6 (rw6 ρ 18) (N6 (rw6 ρ 34) (lf6 (rw6 ρ
    66)) n6) (N6 (SV.c (SC.ptr 31 0)) n6 n6)) (N6 (rw6 ρ 26) (N6 (rw6 ρ 42) (lf6 (rw6 ρ 74)) n6) (N6 (SV.agg [i6 (mdF c' k' a' b' y.s.m).fst.fst, i6 (mdF c' k' a' b' y.s.m).fst.snd]) n6
    n6))) (N6 (SV.c (SC.ptr 85 0)) (N6 (rw6 ρ 22) (N6 (SV.c (i6 (↑len : Int))) (lf6 (rw6 ρ 70)) n6) (lf6 (SV.agg [i6 c', i6 k', i6 a', i6 b']))) (N6 (rw6 ρ 30) (lf6 (rw6 ρ 46)) (lf6
    (rw6 ρ 62))))))) []) (Mem.mk [(31, SO.ext (ob6 (mdF c' k' a' b' (mdF c k a b y.s.m).snd).snd)), (32, SO.cells [i6 c, i6 k, i6 a, i6 b] (OfNat.ofNat 26)), (33, SO.cells [i6 c', i6
    k', i6 a', i6 b'] (OfNat.ofNat 26)), (0, SO.seen W), (67, SO.ext (ob6 (mdF c k a b (mdF c' k' a' b' y.s.m).snd).snd)), (74, SO.cells [i6 (mdF c k a b y.s.m).fst.fst, i6 (mdF c k a b
    y.s.m).fst.snd] 33), (75, SO.cells [i6 (mdF c' k' a' b' (mdF c k a b y.s.m).snd).fst.fst, i6 (mdF c' k' a' b' (mdF c k a b y.s.m).snd).fst.snd] 33), (84, SO.cells [i6 (mdF c' k' a'
    b' y.s.m).fst.fst, i6 (mdF c' k' a' b' y.s.m).fst.snd] 33), (85, SO.cells [i6 (mdF c k a b (mdF c' k' a' b' y.s.m).snd).fst.fst, i6 (mdF c k a b (mdF c' k' a' b'
    y.s.m).snd).fst.snd] 33)] 88) Scr.nil.t.t)) ∧ True) (K (SF.mk 75 (N6 (rw6 ρ 0) (N6 (rw6 ρ 1) (N6 (rw6 ρ 3) (N6 (SV.c (SC.ptr 31 0)) (N6 (rw6 ρ 15) (N6 (rw6 ρ 31) (lf6 (rw6 ρ 63))
    n6) (lf6 (rw6 ρ 47))) (N6 (rw6 ρ 23) (N6 (SV.c (i6 (↑y.i : Int))) (lf6 (rw6 ρ 71)) n6) (N6 (SV.agg [i6 (mdF c' k' a' b' (mdF c k a b y.s.m).snd).fst.fst, i6 (mdF c' k' a' b' (mdF c
    k a b y.s.m).snd).fst.snd]) n6 n6))) (N6 (SV.c (SC.ptr 74 0)) (N6 (rw6 ρ 19) (N6 (rw6 ρ 35) (lf6 (rw6 ρ 67)) n6) (lf6 (SV.agg [i6 c, i6 k, i6 a, i6 b]))) (N6 (rw6 ρ 27) (lf6 (rw6 ρ
    43)) (N6 (SV.c (SC.ptr 67 0)) n6 n6)))) (N6 (SV.c (SC.ptr 33 0)) (N6 (rw6 ρ 9) (N6 (rw6 ρ 17) (N6 (rw6 ρ 33) (lf6 (rw6 ρ 65)) n6) (N6 (SV.c (SC.ptr 67 0)) n6 n6)) (N6 (rw6 ρ 25) (N6
    (rw6 ρ 41) (lf6 (rw6 ρ 73)) n6) (lf6 (SV.agg [i6 c', i6 k', i6 a', i6 b'])))) (N6 (SV.c (SC.ptr 84 0)) (N6 (rw6 ρ 21) (N6 (SV.c (SC.sliv p false len cap)) (lf6 (rw6 ρ 69)) n6) (N6
    (SV.c (SC.ptr 31 0)) n6 n6)) (N6 (rw6 ρ 29) (lf6 (rw6 ρ 45)) (N6 (SV.agg [i6 (mdF c k a b (mdF c' k' a' b' y.s.m).snd).fst.fst, i6 (mdF c k a b (mdF c' k' a' b'
    y.s.m).snd).fst.snd]) n6 n6))))) (N6 (rw6 ρ 2) (N6 (SV.c (SC.ptr 32 0)) (N6 (rw6 ρ 8) (N6 (rw6 ρ 16) (N6 (rw6 ρ 32) (lf6 (rw6 ρ 64)) n6) (N6 (SV.c (SC.ptr 31 0)) n6 n6)) (N6 (rw6 ρ
    24) (N6 (SV.c (SC.boo true false)) (lf6 (rw6 ρ 72)) n6) (N6 (SV.c (SC.ptr 67 0)) n6 n6))) (N6 (SV.c (SC.ptr 75 0)) (N6 (rw6 ρ 20) (N6 (rw6 ρ 36) (lf6 (rw6 ρ 68)) n6) (N6 (SV.agg [i6
    (mdF c k a b y.s.m).fst.fst, i6 (mdF c k a b y.s.m).fst.snd]) n6 n6)) (N6 (rw6 ρ 28) (lf6 (rw6 ρ 44)) (lf6 (SV.agg [i6 c, i6 k, i6 a, i6 b]))))) (N6 (rw6 ρ 6) (N6 (SV.c (SC.ptr 67
    0)) (N6 (rw6 ρ 18) (N6 (rw6 ρ 34) (lf6 (rw6 ρ 66)) n6) (N6 (SV.c (SC.ptr 31 0)) n6 n6)) (N6 (rw6 ρ 26) (N6 (rw6 ρ 42) (lf6 (rw6 ρ 74)) n6) (N6 (SV.agg [i6 (mdF c' k' a' b'
    y.s.m).fst.fst, i6 (mdF c' k' a' b' y.s.m).fst.snd]) n6 n6))) (N6 (SV.c (SC.ptr 85 0)) (N6 (rw6 ρ 22) (N6 (SV.c (i6 (↑len : Int))) (lf6 (rw6 ρ 70)) n6) (lf6 (SV.agg [i6 c', i6 k',
    i6 a', i6 b']))) (N6 (rw6 ρ 30) (lf6 (rw6 ρ 46)) (lf6 (rw6 ρ 62))))))) []) (Mem.mk [(31, SO.ext (ob6 (mdF c' k' a' b' (mdF c k a b y.s.m).snd).snd)), (32, SO.cells [i6 c, i6 k, i6
    a, i6 b] (OfNat.ofNat 26)), (33, SO.cells [i6 c', i6 k', i6 a', i6 b'] (OfNat.ofNat 26)), (0, SO.seen W), (67, SO.ext (ob6 (mdF c k a b (mdF c' k' a' b' y.s.m).snd).snd)), (74,
    SO.cells [i6 (mdF c k a b y.s.m).fst.fst, i6 (mdF c k a b y.s.m).fst.snd] 33), (75, SO.cells [i6 (mdF c' k' a' b' (mdF c k a b y.s.m).snd).fst.fst, i6 (mdF c' k' a' b' (mdF c k a b
    y.s.m).snd).fst.snd] 33), (84, SO.cells [i6 (mdF c' k' a' b' y.s.m).fst.fst, i6 (mdF c' k' a' b' y.s.m).fst.snd] 33), (85, SO.cells [i6 (mdF c k a b (mdF c' k' a' b'
    y.s.m).snd).fst.fst, i6 (mdF c k a b (mdF c' k' a' b' y.s.m).snd).fst.snd] 33)] 88) Scr.nil.t.t)) ∧ True → c = c ∧ k = k ∧ a = a ∧ b = b ∧ c' = c' ∧ k' = k' ∧ a' = a' ∧ b' = b' ∧ W
    = W ∧ ((MdOk y.s.m ∧ (y.s.m.nilq = true → y.s.m.q = [])) ∧ c = c ∧ k = k ∧ a = a ∧ b = b ∧ c' = c' ∧ k' = k' ∧ a' = a' ∧ b' = b' ∧ W = W ∧ ((MdOk (mdF c' k' a' b' y.s.m).snd ∧ ((mdF
    c' k' a' b' y.s.m).snd.nilq = true → (mdF c' k' a' b' y.s.m).snd.q = [])) ∧ c = c ∧ k = k ∧ a = a ∧ b = b ∧ c' = c' ∧ k' = k' ∧ a' = a' ∧ b' = b' ∧ W = W ∧ (c = c ∧ k = k ∧ a = a ∧
    b = b ∧ c' = c' ∧ k' = k' ∧ a' = a' ∧ b' = b' ∧ W = W ∧ (c = c ∧ k = k ∧ a = a ∧ b = b ∧ c' = c' ∧ k' = k' ∧ a' = a' ∧ b' = b' ∧ W = W ∧ X0 ∧ True) ∧ True) ∧ True) ∧ (∀ (K : KO
    XM6), (fun X1 : Prop => (MdOk (mdF c' k' a' b' y.s.m).snd ∧ ((mdF c' k' a' b' y.s.m).snd.nilq = true → (mdF c' k' a' b' y.s.m).snd.q = [])) ∧ c = c ∧ k = k ∧ a = a ∧ b = b ∧ c' = c'
    ∧ k' = k' ∧ a' = a' ∧ b' = b' ∧ W = W ∧ (c = c ∧ k = k ∧ a = a ∧ b = b ∧ c' = c' ∧ k' = k' ∧ a' = a' ∧ b' = b' ∧ W = W ∧ (c = c ∧ k = k ∧ a = a ∧ b = b ∧ c' = c' ∧ k' = k' ∧ a' = a'
    ∧ b' = b' ∧ W = W ∧ X1 ∧ True) ∧ True) ∧ True → c = c ∧ k = k ∧ a = a ∧ b = b ∧ c' = c' ∧ k' = k' ∧ a' = a' ∧ b' = b' ∧ W = W ∧ ((MdOk (mdF c' k' a' b' y.s.m).snd ∧ ((mdF c' k' a'
    b' y.s.m).snd.nilq = true → (mdF c' k' a' b' y.s.m).snd.q = [])) ∧ c = c ∧ k = k ∧ a = a ∧ b = b ∧ c' = c' ∧ k' = k' ∧ a' = a' ∧ b' = b' ∧ W = W ∧ (c = c ∧ k = k ∧ a = a ∧ b = b ∧
    c' = c' ∧ k' = k' ∧ a' = a' ∧ b' = b' ∧ W = W ∧ X1 ∧ True) ∧ True) ∧ True) (K (SF.mk 75 (N6 (rw6 ρ 0) (N6 (rw6 ρ 1) (N6 (rw6 ρ 3) (N6 (SV.c (SC.ptr 31 0)) (N6 (rw6 ρ 15) (N6 (rw6 ρ
    31) (lf6 (rw6 ρ 63)) n6) (lf6 (rw6 ρ 47))) (N6 (rw6 ρ 23) (N6 (SV.c (i6 (↑y.i : Int))) (lf6 (rw6 ρ 71)) n6) (N6 (SV.agg [i6 (mdF c' k' a' b' (mdF c k a b y.s.m).snd).fst.fst, i6
    (mdF c' k' a' b' (mdF c k a b y.s.m).snd).fst.snd]) n6 n6))) (N6 (SV.c (SC.ptr 74 0)) (N6 (rw6 ρ 19) (N6 (rw6 ρ 35) (lf6 (rw6 ρ 67)) n6) (lf6 (SV.agg [i6 c, i6 k, i6 a, i6 b]))) (N6
    (rw6 ρ 27) (lf6 (rw6 ρ 43)) (N6 (SV.c (SC.ptr 67 0)) n6 n6)))) (N6 (SV.c (SC.ptr 33 0)) (N6 (rw6 ρ 9) (N6 (rw6 ρ 17) (N6 (rw6 ρ 33) (lf6 (rw6 ρ 65)) n6) (N6 (SV.c (SC.ptr 67 0)) n6
    n6)) (N6 (rw6 ρ 25) (N6 (rw6 ρ 41) (lf6 (rw6 ρ 73)) n6) (lf6 (SV.agg [i6 c', i6 k', i6 a', i6 b'])))) (N6 (SV.c (SC.ptr 84 0)) (N6 (rw6 ρ 21) (N6 (SV.c (SC.sliv p false len cap))
    (lf6 (rw6 ρ 69)) n6) (N6 (SV.c (SC.ptr 31 0)) n6 n6)) (N6 (rw6 ρ 29) (lf6 (rw6 ρ 45)) (N6 (SV.agg [i6 (mdF c k a b (mdF c' k' a' b' y.s.m).snd).fst.fst, i6 (mdF c k a b (mdF c' k'
    a' b' y.s.m).snd).fst.snd]) n6 n6))))) (N6 (rw6 ρ 2) (N6 (SV.c (SC.ptr 32 0)) (N6 (rw6 ρ 8) (N6 (rw6 ρ 16) (N6 (rw6 ρ 32) (lf6 (rw6 ρ 64)) n6) (N6 (SV.c (SC.ptr 31 0)) n6 n6)) (N6
    (rw6 ρ 24) (N6 (SV.c (SC.boo true false)) (lf6 (rw6 ρ 72)) n6) (N6 (SV.c (SC.ptr 67 0)) n6 n6))) (N6 (SV.c (SC.ptr 75 0)) (N6 (rw6 ρ 20) (N6 (rw6 ρ 36) (lf6 (rw6 ρ 68)) n6) (N6
    (SV.agg [i6 (mdF c k a b y.s.m).fst.fst, i6 (mdF c k a b y.s.m).fst.snd]) n6 n6)) (N6 (rw6 ρ 28) (lf6 (rw6 ρ 44)) (lf6 (SV.agg [i6 c, i6 k, i6 a, i6 b]))))) (N6 (rw6 ρ 6) (N6 (SV.c
    (SC.ptr 67 0)) (N6 (rw6 ρ 18) (N6 (rw6 ρ 34) (lf6 (rw6 ρ 66)) n6) (N6 (SV.c (SC.ptr 31 0)) n6 n6)) (N6 (rw6 ρ 26) (N6 (rw6 ρ 42) (lf6 (rw6 ρ 74)) n6) (N6 (SV.agg [i6 (mdF c' k' a'
    b' y.s.m).fst.fst, i6 (mdF c' k' a' b' y.s.m).fst.snd]) n6 n6))) (N6 (SV.c (SC.ptr 85 0)) (N6 (rw6 ρ 22) (N6 (SV.c (i6 (↑len : Int))) (lf6 (rw6 ρ 70)) n6) (lf6 (SV.agg [i6 c', i6
    k', i6 a', i6 b']))) (N6 (rw6 ρ 30) (lf6 (rw6 ρ 46)) (lf6 (rw6 ρ 62))))))) []) (Mem.mk [(31, SO.ext (ob6 (mdF c' k' a' b' (mdF c k a b y.s.m).snd).snd)), (32, SO.cells [i6 c, i6 k,
    i6 a, i6 b] (OfNat.ofNat 26)), (33, SO.cells [i6 c', i6 k', i6 a', i6 b'] (OfNat.ofNat 26)), (0, SO.seen W), (67, SO.ext (ob6 (mdF c k a b (mdF c' k' a' b' y.s.m).snd).snd)), (74,
    SO.cells [i6 (mdF c k a b y.s.m).fst.fst, i6 (mdF c k a b y.s.m).fst.snd] 33), (75, SO.cells [i6 (mdF c' k' a' b' (mdF c k a b y.s.m).snd).fst.fst, i6 (mdF c' k' a' b' (mdF c k a b
    y.s.m).snd).fst.snd] 33), (84, SO.cells [i6 (mdF c' k' a' b' y.s.m).fst.fst, i6 (mdF c' k' a' b' y.s.m).fst.snd] 33), (85, SO.cells [i6 (mdF c k a b (mdF c' k' a' b'
    y.s.m).snd).fst.fst, i6 (mdF c k a b (mdF c' k' a' b' y.s.m).snd).fst.snd] 33)] 88) Scr.nil.t.t)) ∧ True) ∧ (∀ (K : KO XM6), (fun X1 : Prop => (MdOk y.s.m ∧ (y.s.m.nilq = true →
    y.s.m.q = [])) ∧ c = c ∧ k = k ∧ a = a ∧ b = b ∧ c' = c' ∧ k' = k' ∧ a' = a' ∧ b' = b' ∧ W = W ∧ ((MdOk (mdF c' k' a' b' y.s.m).snd ∧ ((mdF c' k' a' b' y.s.m).snd.nilq = true → (mdF
    c' k' a' b' y.s.m).snd.q = [])) ∧ c = c ∧ k = k ∧ a = a ∧ b = b ∧ c' = c' ∧ k' = k' ∧ a' = a' ∧ b' = b' ∧ W = W ∧ (c = c ∧ k = k ∧ a = a ∧ b = b ∧ c' = c' ∧ k' = k' ∧ a' = a' ∧ b' =
    b' ∧ W = W ∧ (c = c ∧ k = k ∧ a = a ∧ b = b ∧ c' = c' ∧ k' = k' ∧ a' = a' ∧ b' = b' ∧ W = W ∧ X1 ∧ True) ∧ True) ∧ True) ∧ (∀ (K : KO XM6), (fun X2 : Prop => (MdOk (mdF c' k' a' b'
    y.s.m).snd ∧ ((mdF c' k' a' b' y.s.m).snd.nilq = true → (mdF c' k' a' b' y.s.m).snd.q = [])) ∧ c = c ∧ k = k ∧ a = a ∧ b = b ∧ c' = c' ∧ k' = k' ∧ a' = a' ∧ b' = b' ∧ W = W ∧ (c = c
    ∧ k = k ∧ a = a ∧ b = b ∧ c' = c' ∧ k' = k' ∧ a' = a' ∧ b' = b' ∧ W = W ∧ (c = c ∧ k = k ∧ a = a ∧ b = b ∧ c' = c' ∧ k' = k' ∧ a' = a' ∧ b' = b' ∧ W = W ∧ X2 ∧ True) ∧ True) ∧ True
    → c = c ∧ k = k ∧ a = a ∧ b = b ∧ c' = c' ∧ k' = k' ∧ a' = a' ∧ b' = b' ∧ W = W ∧ ((MdOk (mdF c' k' a' b' y.s.m).snd ∧ ((mdF c' k' a' b' y.s.m).snd.nilq = true → (mdF c' k' a' b'
    y.s.m).snd.q = [])) ∧ c = c ∧ k = k ∧ a = a ∧ b = b ∧ c' = c' ∧ k' = k' ∧ a' = a' ∧ b' = b' ∧ W = W ∧ (c = c ∧ k = k ∧ a = a ∧ b = b ∧ c' = c' ∧ k' = k' ∧ a' = a' ∧ b' = b' ∧ W = W
    ∧ X2 ∧ True) ∧ True) ∧ True) (K (SF.mk 75 (N6 (rw6 ρ 0) (N6 (rw6 ρ 1) (N6 (rw6 ρ 3) (N6 (SV.c (SC.ptr 31 0)) (N6 (rw6 ρ 15) (N6 (rw6 ρ 31) (lf6 (rw6 ρ 63)) n6) (lf6 (rw6 ρ 47))) (N6
    (rw6 ρ 23) (N6 (SV.c (i6 (↑y.i : Int))) (lf6 (rw6 ρ 71)) n6) (N6 (SV.agg [i6 (mdF c' k' a' b' (mdF c k a b y.s.m).snd).fst.fst, i6 (mdF c' k' a' b' (mdF c k a b
    y.s.m).snd).fst.snd]) n6 n6))) (N6 (SV.c (SC.ptr 74 0)) (N6 (rw6 ρ 19) (N6 (rw6 ρ 35) (lf6 (rw6 ρ 67)) n6) (lf6 (SV.agg [i6 c, i6 k, i6 a, i6 b]))) (N6 (rw6 ρ 27) (lf6 (rw6 ρ 43))
    (N6 (SV.c (SC.ptr 67 0)) n6 n6)))) (N6 (SV.c (SC.ptr 33 0)) (N6 (rw6 ρ 9) (N6 (rw6 ρ 17) (N6 (rw6 ρ 33) (lf6 (rw6 ρ 65)) n6) (N6 (SV.c (SC.ptr 67 0)) n6 n6)) (N6 (rw6 ρ 25) (N6 (rw6
    ρ 41) (lf6 (rw6 ρ 73)) n6) (lf6 (SV.agg [i6 c', i6 k', i6 a', i6 b'])))) (N6 (SV.c (SC.ptr 84 0)) (N6 (rw6 ρ 21) (N6 (SV.c (SC.sliv p false len cap)) (lf6 (rw6 ρ 69)) n6) (N6 (SV.c
    (SC.ptr 31 0)) n6 n6)) (N6 (rw6 ρ 29) (lf6 (rw6 ρ 45)) (N6 (SV.agg [i6 (mdF c k a b (mdF c' k' a' b' y.s.m).snd).fst.fst, i6 (mdF c k a b (mdF c' k' a' b' y.s.m).snd).fst.snd]) n6
    n6))))) (N6 (rw6 ρ 2) (N6 (SV.c (SC.ptr 32 0)) (N6 (rw6 ρ 8) (N6 (rw6 ρ 16) (N6 (rw6 ρ 32) (lf6 (rw6 ρ 64)) n6) (N6 (SV.c (SC.ptr 31 0)) n6 n6)) (N6 (rw6 ρ 24) (N6 (SV.c (SC.boo
    true false)) (lf6 (rw6 ρ 72)) n6) (N6 (SV.c (SC.ptr 67 0)) n6 n6))) (N6 (SV.c (SC.ptr 75 0)) (N6 (rw6 ρ 20) (N6 (rw6 ρ 36) (lf6 (rw6 ρ 68)) n6) (N6 (SV.agg [i6 (mdF c k a b
    y.s.m).fst.fst, i6 (mdF c k a b y.s.m).fst.snd]) n6 n6)) (N6 (rw6 ρ 28) (lf6 (rw6 ρ 44)) (lf6 (SV.agg [i6 c, i6 k, i6 a, i6 b]))))) (N6 (rw6 ρ 6) (N6 (SV.c (SC.ptr 67 0)) (N6 (rw6 ρ
    18) (N6 (rw6 ρ 34) (lf6 (rw6 ρ 66)) n6) (N6 (SV.c (SC.ptr 31 0)) n6 n6)) (N6 (rw6 ρ 26) (N6 (rw6 ρ 42) (lf6 (rw6 ρ 74)) n6) (N6 (SV.agg [i6 (mdF c' k' a' b' y.s.m).fst.fst, i6 (mdF
    c' k' a' b' y.s.m).fst.snd]) n6 n6))) (N6 (SV.c (SC.ptr 85 0)) (N6 (rw6 ρ 22) (N6 (SV.c (i6 (↑len : Int))) (lf6 (rw6 ρ 70)) n6) (lf6 (SV.agg [i6 c', i6 k', i6 a', i6 b']))) (N6 (rw6
    ρ 30) (lf6 (rw6 ρ 46)) (lf6 (rw6 ρ 62))))))) []) (Mem.mk [(31, SO.ext (ob6 (mdF c' k' a' b' (mdF c k a b y.s.m).snd).snd)), (32, SO.cells [i6 c, i6 k, i6 a, i6 b] (OfNat.ofNat 26)),
    (33, SO.cells [i6 c', i6 k', i6 a', i6 b'] (OfNat.ofNat 26)), (0, SO.seen W), (67, SO.ext (ob6 (mdF c k a b (mdF c' k' a' b' y.s.m).snd).snd)), (74, SO.cells [i6 (mdF c k a b
    y.s.m).fst.fst, i6 (mdF c k a b y.s.m).fst.snd] 33), (75, SO.cells [i6 (mdF c' k' a' b' (mdF c k a b y.s.m).snd).fst.fst, i6 (mdF c' k' a' b' (mdF c k a b y.s.m).snd).fst.snd] 33),
    (84, SO.cells [i6 (mdF c' k' a' b' y.s.m).fst.fst, i6 (mdF c' k' a' b' y.s.m).fst.snd] 33), (85, SO.cells [i6 (mdF c k a b (mdF c' k' a' b' y.s.m).snd).fst.fst, i6 (mdF c k a b (mdF
    c' k' a' b' y.s.m).snd).fst.snd] 33)] 88) Scr.nil.t.t)) ∧ True → c = c ∧ k = k ∧ a = a ∧ b = b ∧ c' = c' ∧ k' = k' ∧ a' = a' ∧ b' = b' ∧ W = W ∧ ((MdOk y.s.m ∧ (y.s.m.nilq = true →
    y.s.m.q = [])) ∧ c = c ∧ k = k ∧ a = a ∧ b = b ∧ c' = c' ∧ k' = k' ∧ a' = a' ∧ b' = b' ∧ W = W ∧ ((MdOk (mdF c' k' a' b' y.s.m).snd ∧ ((mdF c' k' a' b' y.s.m).snd.nilq = true → (mdF
    c' k' a' b' y.s.m).snd.q = [])) ∧ c = c ∧ k = k ∧ a = a ∧ b = b ∧ c' = c' ∧ k' = k' ∧ a' = a' ∧ b' = b' ∧ W = W ∧ (c = c ∧ k = k ∧ a = a ∧ b = b ∧ c' = c' ∧ k' = k' ∧ a' = a' ∧ b' =
    b' ∧ W = W ∧ X1 ∧ True) ∧ True) ∧ True) ∧ True) (K (SF.mk 75 (N6 (rw6 ρ 0) (N6 (rw6 ρ 1) (N6 (rw6 ρ 3) (N6 (SV.c (SC.ptr 31 0)) (N6 (rw6 ρ 15) (N6 (rw6 ρ 31) (lf6 (rw6 ρ 63)) n6)
    (lf6 (rw6 ρ 47))) (N6 (rw6 ρ 23) (N6 (SV.c (i6 (↑y.i : Int))) (lf6 (rw6 ρ 71)) n6) (N6 (SV.agg [i6 (mdF c' k' a' b' (mdF c k a b y.s.m).snd).fst.fst, i6 (mdF c' k' a' b' (mdF c k a
    b y.s.m).snd).fst.snd]) n6 n6))) (N6 (SV.c (SC.ptr 74 0)) (N6 (rw6 ρ 19) (N6 (rw6 ρ 35) (lf6 (rw6 ρ 67)) n6) (lf6 (SV.agg [i6 c, i6 k, i6 a, i6 b]))) (N6 (rw6 ρ 27) (lf6 (rw6 ρ 43))
    (N6 (SV.c (SC.ptr 67 0)) n6 n6)))) (N6 (SV.c (SC.ptr 33 0)) (N6 (rw6 ρ 9) (N6 (rw6 ρ 17) (N6 (rw6 ρ 33) (lf6 (rw6 ρ 65)) n6) (N6 (SV.c (SC.ptr 67 0)) n6 n6)) (N6 (rw6 ρ 25) (N6 (rw6
    ρ 41) (lf6 (rw6 ρ 73)) n6) (lf6 (SV.agg [i6 c', i6 k', i6 a', i6 b'])))) (N6 (SV.c (SC.ptr 84 0)) (N6 (rw6 ρ 21) (N6 (SV.c (SC.sliv p false len cap)) (lf6 (rw6 ρ 69)) n6) (N6 (SV.c
    (SC.ptr 31 0)) n6 n6)) (N6 (rw6 ρ 29) (lf6 (rw6 ρ 45)) (N6 (SV.agg [i6 (mdF c k a b (mdF c' k' a' b' y.s.m).snd).fst.fst, i6 (mdF c k a b (mdF c' k' a' b' y.s.m).snd).fst.snd]) n6
    n6))))) (N6 (rw6 ρ 2) (N6 (SV.c (SC.ptr 32 0)) (N6 (rw6 ρ 8) (N6 (rw6 ρ 16) (N6 (rw6 ρ 32) (lf6 (rw6 ρ 64)) n6) (N6 (SV.c (SC.ptr 31 0)) n6 n6)) (N6 (rw6 ρ 24) (N6 (SV.c (SC.boo
    true false)) (lf6 (rw6 ρ 72)) n6) (N6 (SV.c (SC.ptr 67 0)) n6 n6))) (N6 (SV.c (SC.ptr 75 0)) (N6 (rw6 ρ 20) (N6 (rw6 ρ 36) (lf6 (rw6 ρ 68)) n6) (N6 (SV.agg [i6 (mdF c k a b
    y.s.m).fst.fst, i6 (mdF c k a b y.s.m).fst.snd]) n6 n6)) (N6 (rw6 ρ 28) (lf6 (rw6 ρ 44)) (lf6 (SV.agg [i6 c, i6 k, i6 a, i6 b]))))) (N6 (rw6 ρ 6) (N6 (SV.c (SC.ptr 67 0)) (N6 (rw6 ρ
    18) (N6 (rw6 ρ 34) (lf6 (rw6 ρ 66)) n6) (N6 (SV.c (SC.ptr 31 0)) n6 n6)) (N6 (rw6 ρ 26) (N6 (rw6 ρ 42) (lf6 (rw6 ρ 74)) n6) (N6 (SV.agg [i6 (mdF c' k' a' b' y.s.m).fst.fst, i6 (mdF
    c' k' a' b' y.s.m).fst.snd]) n6 n6))) (N6 (SV.c (SC.ptr 85 0)) (N6 (rw6 ρ 22) (N6 (SV.c (i6 (↑len : Int))) (lf6 (rw6 ρ 70)) n6) (lf6 (SV.agg [i6 c', i6 k', i6 a', i6 b']))) (N6 (rw6
    ρ 30) (lf6 (rw6 ρ 46)) (lf6 (rw6 ρ 62))))))) []) (Mem.mk [(31, SO.ext (ob6 (mdF c' k' a' b' (mdF c k a b y.s.m).snd).snd)), (32, SO.cells [i6 c, i6 k, i6 a, i6 b] (OfNat.ofNat 26)),
    (33, SO.cells [i6 c', i6 k', i6 a', i6 b'] (OfNat.ofNat 26)), (0, SO.seen W), (67, SO.ext (ob6 (mdF c k a b (mdF c' k' a' b' y.s.m).snd).snd)), (74, SO.cells [i6 (mdF c k a b
    y.s.m).fst.fst, i6 (mdF c k a b y.s.m).fst.snd] 33), (75, SO.cells [i6 (mdF c' k' a' b' (mdF c k a b y.s.m).snd).fst.fst, i6 (mdF c' k' a' b' (mdF c k a b y.s.m).snd).fst.snd] 33),
    (84, SO.cells [i6 (mdF c' k' a' b' y.s.m).fst.fst, i6 (mdF c' k' a' b' y.s.m).fst.snd] 33), (85, SO.cells [i6 (mdF c k a b (mdF c' k' a' b' y.s.m).snd).fst.fst, i6 (mdF c k a b (mdF
    c' k' a' b' y.s.m).snd).fst.snd] 33)] 88) Scr.nil.t.t)) ∧ True) (K (SF.mk 75 (N6 (rw6 ρ 0) (N6 (rw6 ρ 1) (N6 (rw6 ρ 3) (N6 (SV.c (SC.ptr 31 0)) (N6 (rw6 ρ 15) (N6 (rw6 ρ 31) (lf6
    (rw6 ρ 63)) n6) (lf6 (rw6 ρ 47))) (N6 (rw6 ρ 23) (N6 (SV.c (i6 (↑y.i : Int))) (lf6 (rw6 ρ 71)) n6) (N6 (SV.agg [i6 (mdF c' k' a' b' (mdF c k a b y.s.m).snd).fst.fst, i6 (mdF c' k'
    a' b' (mdF c k a b y.s.m).snd).fst.snd]) n6 n6))) (N6 (SV.c (SC.ptr 74 0)) (N6 (rw6 ρ 19) (N6 (rw6 ρ 35) (lf6 (rw6 ρ 67)) n6) (lf6 (SV.agg [i6 c, i6 k, i6 a, i6 b]))) (N6 (rw6 ρ 27)
    (lf6 (rw6 ρ 43)) (N6 (SV.c (SC.ptr 67 0)) n6 n6)))) (N6 (SV.c (SC.ptr 33 0)) (N6 (rw6 ρ 9) (N6 (rw6 ρ 17) (N6 (rw6 ρ 33) (lf6 (rw6 ρ 65)) n6) (N6 (SV.c (SC.ptr 67 0)) n6 n6)) (N6
    (rw6 ρ 25) (N6 (rw6 ρ 41) (lf6 (rw6 ρ 73)) n6) (lf6 (SV.agg [i6 c', i6 k', i6 a', i6 b'])))) (N6 (SV.c (SC.ptr 84 0)) (N6 (rw6 ρ 21) (N6 (SV.c (SC.sliv p false len cap)) (lf6 (rw6 ρ
    69)) n6) (N6 (SV.c (SC.ptr 31 0)) n6 n6)) (N6 (rw6 ρ 29) (lf6 (rw6 ρ 45)) (N6 (SV.agg [i6 (mdF c k a b (mdF c' k' a' b' y.s.m).snd).fst.fst, i6 (mdF c k a b (mdF c' k' a' b'
    y.s.m).snd).fst.snd]) n6 n6))))) (N6 (rw6 ρ 2) (N6 (SV.c (SC.ptr 32 0)) (N6 (rw6 ρ 8) (N6 (rw6 ρ 16) (N6 (rw6 ρ 32) (lf6 (rw6 ρ 64)) n6) (N6 (SV.c (SC.ptr 31 0)) n6 n6)) (N6 (rw6 ρ
    24) (N6 (SV.c (SC.boo true false)) (lf6 (rw6 ρ 72)) n6) (N6 (SV.c (SC.ptr 67 0)) n6 n6))) (N6 (SV.c (SC.ptr 75 0)) (N6 (rw6 ρ 20) (N6 (rw6 ρ 36) (lf6 (rw6 ρ 68)) n6) (N6 (SV.agg [i6
    (mdF c k a b y.s.m).fst.fst, i6 (mdF c k a b y.s.m).fst.snd]) n6 n6)) (N6 (rw6 ρ 28) (lf6 (rw6 ρ 44)) (lf6 (SV.agg [i6 c, i6 k, i6 a, i6 b]))))) (N6 (rw6 ρ 6) (N6 (SV.c (SC.ptr 67
    0)) (N6 (rw6 ρ 18) (N6 (rw6 ρ 34) (lf6 (rw6 ρ 66)) n6) (N6 (SV.c (SC.ptr 31 0)) n6 n6)) (N6 (rw6 ρ 26) (N6 (rw6 ρ 42) (lf6 (rw6 ρ 74)) n6) (N6 (SV.agg [i6 (mdF c' k' a' b'
    y.s.m).fst.fst, i6 (mdF c' k' a' b' y.s.m).fst.snd]) n6 n6))) (N6 (SV.c (SC.ptr 85 0)) (N6 (rw6 ρ 22) (N6 (SV.c (i6 (↑len : Int))) (lf6 (rw6 ρ 70)) n6) (lf6 (SV.agg [i6 c', i6 k',
    i6 a', i6 b']))) (N6 (rw6 ρ 30) (lf6 (rw6 ρ 46)) (lf6 (rw6 ρ 62))))))) []) (Mem.mk [(31, SO.ext (ob6 (mdF c' k' a' b' (mdF c k a b y.s.m).snd).snd)), (32, SO.cells [i6 c, i6 k, i6
    a, i6 b] (OfNat.ofNat 26)), (33, SO.cells [i6 c', i6 k', i6 a', i6 b'] (OfNat.ofNat 26)), (0, SO.seen W), (67, SO.ext (ob6 (mdF c k a b (mdF c' k' a' b' y.s.m).snd).snd)), (74,
    SO.cells [i6 (mdF c k a b y.s.m).fst.fst, i6 (mdF c k a b y.s.m).fst.snd] 33), (75, SO.cells [i6 (mdF c' k' a' b' (mdF c k a b y.s.m).snd).fst.fst, i6 (mdF c' k' a' b' (mdF c k a b
    y.s.m).snd).fst.snd] 33), (84, SO.cells [i6 (mdF c' k' a' b' y.s.m).fst.fst, i6 (mdF c' k' a' b' y.s.m).fst.snd] 33), (85, SO.cells [i6 (mdF c k a b (mdF c' k' a' b'
    y.s.m).snd).fst.fst, i6 (mdF c k a b (mdF c' k' a' b' y.s.m).snd).fst.snd] 33)] 88) Scr.nil.t.t)) ∧ (∀ (K : KO XM6), (fun X0 : Prop => (MdOk y.s.m ∧ (y.s.m.nilq = true → y.s.m.q =
    [])) ∧ c = c ∧ k = k ∧ a = a ∧ b = b ∧ c' = c' ∧ k' = k' ∧ a' = a' ∧ b' = b' ∧ W = W ∧ ((MdOk (mdF c' k' a' b' y.s.m).snd ∧ ((mdF c' k' a' b' y.s.m).snd.nilq = true → (mdF c' k' a'
    b' y.s.m).snd.q = [])) ∧ c = c ∧ k = k ∧ a = a ∧ b = b ∧ c' = c' ∧ k' = k' ∧ a' = a' ∧ b' = b' ∧ W = W ∧ (c = c ∧ k = k ∧ a = a ∧ b = b ∧ c' = c' ∧ k' = k' ∧ a' = a' ∧ b' = b' ∧ W =
    W ∧ (c = c ∧ k = k ∧ a = a ∧ b = b ∧ c' = c' ∧ k' = k' ∧ a' = a' ∧ b' = b' ∧ W = W ∧ (c = c ∧ k = k ∧ a = a ∧ b = b ∧ c' = c' ∧ k' = k' ∧ a' = a' ∧ b' = b' ∧ W = W ∧ X0 ∧ True) ∧
    True) ∧ True) ∧ (∀ (K : KO XM6), (fun X1 : Prop => c = c ∧ k = k ∧ a = a ∧ b = b ∧ c' = c' ∧ k' = k' ∧ a' = a' ∧ b' = b' ∧ W = W ∧ (c = c ∧ k = k ∧ a = a ∧ b = b ∧ c' = c' ∧ k' = k'
    ∧ a' = a' ∧ b' = b' ∧ W = W ∧ (c = c ∧ k = k ∧ a = a ∧ b = b ∧ c' = c' ∧ k' = k' ∧ a' = a' ∧ b' = b' ∧ W = W ∧ X1 ∧ True) ∧ True) ∧ True → c = c ∧ k = k ∧ a = a ∧ b = b ∧ c' = c' ∧
    k' = k' ∧ a' = a' ∧ b' = b' ∧ W = W ∧ (c = c ∧ k = k ∧ a = a ∧ b = b ∧ c' = c' ∧ k' = k' ∧ a' = a' ∧ b' = b' ∧ W = W ∧ (c = c ∧ k = k ∧ a = a ∧ b = b ∧ c' = c' ∧ k' = k' ∧ a' = a' ∧
    b' = b' ∧ W = W ∧ X1 ∧ True) ∧ True) ∧ True) (K (SF.mk 75 (N6 (rw6 ρ 0) (N6 (rw6 ρ 1) (N6 (rw6 ρ 3) (N6 (SV.c (SC.ptr 31 0)) (N6 (rw6 ρ 15) (N6 (rw6 ρ 31) (lf6 (rw6 ρ 63)) n6) (lf6
    (rw6 ρ 47))) (N6 (rw6 ρ 23) (N6 (SV.c (i6 (↑y.i : Int))) (lf6 (rw6 ρ 71)) n6) (N6 (SV.agg [i6 (mdF c' k' a' b' (mdF c k a b y.s.m).snd).fst.fst, i6 (mdF c' k' a' b' (mdF c k a b
    y.s.m).snd).fst.snd]) n6 n6))) (N6 (SV.c (SC.ptr 74 0)) (N6 (rw6 ρ 19) (N6 (rw6 ρ 35) (lf6 (rw6 ρ 67)) n6) (lf6 (SV.agg [i6 c, i6 k, i6 a, i6 b]))) (N6 (rw6 ρ 27) (lf6 (rw6 ρ 43))
    (N6 (SV.c (SC.ptr 67 0)) n6 n6)))) (N6 (SV.c (SC.ptr 33 0)) (N6 (rw6 ρ 9) (N6 (rw6 ρ 17) (N6 (rw6 ρ 33) (lf6 (rw6 ρ 65)) n6) (N6 (SV.c (SC.ptr 67 0)) n6 n6)) (N6 (rw6 ρ 25) (N6 (rw6
    ρ 41) (lf6 (rw6 ρ 73)) n6) (lf6 (SV.agg [i6 c', i6 k', i6 a', i6 b'])))) (N6 (SV.c (SC.ptr 84 0)) (N6 (rw6 ρ 21) (N6 (SV.c (SC.sliv p false len cap)) (lf6 (rw6 ρ 69)) n6) (N6 (SV.c
    (SC.ptr 31 0)) n6 n6)) (N6 (rw6 ρ 29) (lf6 (rw6 ρ 45)) (N6 (SV.agg [i6 (mdF c k a b (mdF c' k' a' b' y.s.m).snd).fst.fst, i6 (mdF c k a b (mdF c' k' a' b' y.s.m).snd).fst.snd]) n6
    n6))))) (N6 (rw6 ρ 2) (N6 (SV.c (SC.ptr 32 0)) (N6 (rw6 ρ 8) (N6 (rw6 ρ 16) (N6 (rw6 ρ 32) (lf6 (rw6 ρ 64)) n6) (N6 (SV.c (SC.ptr 31 0)) n6 n6)) (N6 (rw6 ρ 24) (N6 (SV.c (SC.boo
    true false)) (lf6 (rw6 ρ 72)) n6) (N6 (SV.c (SC.ptr 67 0)) n6 n6))) (N6 (SV.c (SC.ptr 75 0)) (N6 (rw6 ρ 20) (N6 (rw6 ρ 36) (lf6 (rw6 ρ 68)) n6) (N6 (SV.agg [i6 (mdF c k a b
    y.s.m).fst.fst, i6 (mdF c k a b y.s.m).fst.snd]) n6 n6)) (N6 (rw6 ρ 28) (lf6 (rw6 ρ 44)) (lf6 (SV.agg [i6 c, i6 k, i6 a, i6 b]))))) (N6 (rw6 ρ 6) (N6 (SV.c (SC.ptr 67 0)) (N6 (rw6 ρ
    18) (N6 (rw6 ρ 34) (lf6 (rw6 ρ 66)) n6) (N6 (SV.c (SC.ptr 31 0)) n6 n6)) (N6 (rw6 ρ 26) (N6 (rw6 ρ 42) (lf6 (rw6 ρ 74)) n6) (N6 (SV.agg [i6 (mdF c' k' a' b' y.s.m).fst.fst, i6 (mdF
    c' k' a' b' y.s.m).fst.snd]) n6 n6))) (N6 (SV.c (SC.ptr 85 0)) (N6 (rw6 ρ 22) (N6 (SV.c (i6 (↑len : Int))) (lf6 (rw6 ρ 70)) n6) (lf6 (SV.agg [i6 c', i6 k', i6 a', i6 b']))) (N6 (rw6
    ρ 30) (lf6 (rw6 ρ 46)) (lf6 (rw6 ρ 62))))))) []) (Mem.mk [(31, SO.ext (ob6 (mdF c' k' a' b' (mdF c k a b y.s.m).snd).snd)), (32, SO.cells [i6 c, i6 k, i6 a, i6 b] (OfNat.ofNat 26)),
    (33, SO.cells [i6 c', i6 k', i6 a', i6 b'] (OfNat.ofNat 26)), (0, SO.seen W), (67, SO.ext (ob6 (mdF c k a b (mdF c' k' a' b' y.s.m).snd).snd)), (74, SO.cells [i6 (mdF c k a b
    y.s.m).fst.fst, i6 (mdF c k a b y.s.m).fst.snd] 33), (75, SO.cells [i6 (mdF c' k' a' b' (mdF c k a b y.s.m).snd).fst.fst, i6 (mdF c' k' a' b' (mdF c k a b y.s.m).snd).fst.snd] 33),
    (84, SO.cells [i6 (mdF c' k' a' b' y.s.m).fst.fst, i6 (mdF c' k' a' b' y.s.m).fst.snd] 33), (85, SO.cells [i6 (mdF c k a b (mdF c' k' a' b' y.s.m).snd).fst.fst, i6 (mdF c k a b (mdF
    c' k' a' b' y.s.m).snd).fst.snd] 33)] 88) Scr.nil.t.t)) ∧ True) ∧ (∀ (K : KO XM6), (fun X1 : Prop => (MdOk (mdF c' k' a' b' y.s.m).snd ∧ ((mdF c' k' a' b' y.s.m).snd.nilq = true →
    (mdF c' k' a' b' y.s.m).snd.q = [])) ∧ c = c ∧ k = k ∧ a = a ∧ b = b ∧ c' = c' ∧ k' = k' ∧ a' = a' ∧ b' = b' ∧ W = W ∧ (c = c ∧ k = k ∧ a = a ∧ b = b ∧ c' = c' ∧ k' = k' ∧ a' = a' ∧
    b' = b' ∧ W = W ∧ (c = c ∧ k = k ∧ a = a ∧ b = b ∧ c' = c' ∧ k' = k' ∧ a' = a' ∧ b' = b' ∧ W = W ∧ (c = c ∧ k = k ∧ a = a ∧ b = b ∧ c' = c' ∧ k' = k' ∧ a' = a' ∧ b' = b' ∧ W = W ∧
    X1 ∧ True) ∧ True) ∧ True) ∧ (∀ (K : KO XM6), (fun X2 : Prop => c = c ∧ k = k ∧ a = a ∧ b = b ∧ c' = c' ∧ k' = k' ∧ a' = a' ∧ b' = b' ∧ W = W ∧ (c = c ∧ k = k ∧ a = a ∧ b = b ∧ c' =
    c' ∧ k' = k' ∧ a' = a' ∧ b' = b' ∧ W = W ∧ (c = c ∧ k = k ∧ a = a ∧ b = b ∧ c' = c' ∧ k' = k' ∧ a' = a' ∧ b' = b' ∧ W = W ∧ X2 ∧ True) ∧ True) ∧ True → c = c ∧ k = k ∧ a = a ∧ b = b
    ∧ c' = c' ∧ k' = k' ∧ a' = a' ∧ b' = b' ∧ W = W ∧ (c = c ∧ k = k ∧ a = a ∧ b = b ∧ c' = c' ∧ k' = k' ∧ a' = a' ∧ b' = b' ∧ W = W ∧ (c = c ∧ k = k ∧ a = a ∧ b = b ∧ c' = c' ∧ k' = k'
    ∧ a' = a' ∧ b' = b' ∧ W = W ∧ X2 ∧ True) ∧ True) ∧ True) (K (SF.mk 75 (N6 (rw6 ρ 0) (N6 (rw6 ρ 1) (N6 (rw6 ρ 3) (N6 (SV.c (SC.ptr 31 0)) (N6 (rw6 ρ 15) (N6 (rw6 ρ 31) (lf6 (rw6 ρ
    63)) n6) (lf6 (rw6 ρ 47))) (N6 (rw6 ρ 23) (N6 (SV.c (i6 (↑y.i : Int))) (lf6 (rw6 ρ 71)) n6) (N6 (SV.agg [i6 (mdF c' k' a' b' (mdF c k a b y.s.m).snd).fst.fst, i6 (mdF c' k' a' b'
    (mdF c k a b y.s.m).snd).fst.snd]) n6 n6))) (N6 (SV.c (SC.ptr 74 0)) (N6 (rw6 ρ 19) (N6 (rw6 ρ 35) (lf6 (rw6 ρ 67)) n6) (lf6 (SV.agg [i6 c, i6 k, i6 a, i6 b]))) (N6 (rw6 ρ 27) (lf6
    (rw6 ρ 43)) (N6 (SV.c (SC.ptr 67 0)) n6 n6)))) (N6 (SV.c (SC.ptr 33 0)) (N6 (rw6 ρ 9) (N6 (rw6 ρ 17) (N6 (rw6 ρ 33) (lf6 (rw6 ρ 65)) n6) (N6 (SV.c (SC.ptr 67 0)) n6 n6)) (N6 (rw6 ρ
    25) (N6 (rw6 ρ 41) (lf6 (rw6 ρ 73)) n6) (lf6 (SV.agg [i6 c', i6 k', i6 a', i6 b'])))) (N6 (SV.c (SC.ptr 84 0)) (N6 (rw6 ρ 21) (N6 (SV.c (SC.sliv p false len cap)) (lf6 (rw6 ρ 69))
    n6) (N6 (SV.c (SC.ptr 31 0)) n6 n6)) (N6 (rw6 ρ 29) (lf6 (rw6 ρ 45)) (N6 (SV.agg [i6 (mdF c k a b (mdF c' k' a' b' y.s.m).snd).fst.fst, i6 (mdF c k a b (mdF c' k' a' b'
    y.s.m).snd).fst.snd]) n6 n6))))) (N6 (rw6 ρ 2) (N6 (SV.c (SC.ptr 32 0)) (N6 (rw6 ρ 8) (N6 (rw6 ρ 16) (N6 (rw6 ρ 32) (lf6 (rw6 ρ 64)) n6) (N6 (SV.c (SC.ptr 31 0)) n6 n6)) (N6 (rw6 ρ
    24) (N6 (SV.c (SC.boo true false)) (lf6 (rw6 ρ 72)) n6) (N6 (SV.c (SC.ptr 67 0)) n6 n6))) (N6 (SV.c (SC.ptr 75 0)) (N6 (rw6 ρ 20) (N6 (rw6 ρ 36) (lf6 (rw6 ρ 68)) n6) (N6 (SV.agg [i6
    (mdF c k a b y.s.m).fst.fst, i6 (mdF c k a b y.s.m).fst.snd]) n6 n6)) (N6 (rw6 ρ 28) (lf6 (rw6 ρ 44)) (lf6 (SV.agg [i6 c, i6 k, i6 a, i6 b]))))) (N6 (rw6 ρ 6) (N6 (SV.c (SC.ptr 67
    0)) (N6 (rw6 ρ 18) (N6 (rw6 ρ 34) (lf6 (rw6 ρ 66)) n6) (N6 (SV.c (SC.ptr 31 0)) n6 n6)) (N6 (rw6 ρ 26) (N6 (rw6 ρ 42) (lf6 (rw6 ρ 74)) n6) (N6 (SV.agg [i6 (mdF c' k' a' b'
    y.s.m).fst.fst, i6 (mdF c' k' a' b' y.s.m).fst.snd]) n6 n6))) (N6 (SV.c (SC.ptr 85 0)) (N6 (rw6 ρ 22) (N6 (SV.c (i6 (↑len : Int))) (lf6 (rw6 ρ 70)) n6) (lf6 (SV.agg [i6 c', i6 k',
    i6 a', i6 b']))) (N6 (rw6 ρ 30) (lf6 (rw6 ρ 46)) (lf6 (rw6 ρ 62))))))) []) (Mem.mk [(31, SO.ext (ob6 (mdF c' k' a' b' (mdF c k a b y.s.m).snd).snd)), (32, SO.cells [i6 c, i6 k, i6
    a, i6 b] (OfNat.ofNat 26)), (33, SO.cells [i6 c', i6 k', i6 a', i6 b'] (OfNat.ofNat 26)), (0, SO.seen W), (67, SO.ext (ob6 (mdF c k a b (mdF c' k' a' b' y.s.m).snd).snd)), (74,
    SO.cells [i6 (mdF c k a b y.s.m).fst.fst, i6 (mdF c k a b y.s.m).fst.snd] 33), (75, SO.cells [i6 (mdF c' k' a' b' (mdF c k a b y.s.m).snd).fst.fst, i6 (mdF c' k' a' b' (mdF c k a b
    y.s.m).snd).fst.snd] 33), (84, SO.cells [i6 (mdF c' k' a' b' y.s.m).fst.fst, i6 (mdF c' k' a' b' y.s.m).fst.snd] 33), (85, SO.cells [i6 (mdF c k a b (mdF c' k' a' b'
    y.s.m).snd).fst.fst, i6 (mdF c k a b (mdF c' k' a' b' y.s.m).snd).fst.snd] 33)] 88) Scr.nil.t.t)) ∧ True → c = c ∧ k = k ∧ a = a ∧ b = b ∧ c' = c' ∧ k' = k' ∧ a' = a' ∧ b' = b' ∧ W
    = W ∧ ((MdOk (mdF c' k' a' b' y.s.m).snd ∧ ((mdF c' k' a' b' y.s.m).snd.nilq = true → (mdF c' k' a' b' y.s.m).snd.q = [])) ∧ c = c ∧ k = k ∧ a = a ∧ b = b ∧ c' = c' ∧ k' = k' ∧ a' =
    a' ∧ b' = b' ∧ W = W ∧ (c = c ∧ k = k ∧ a = a ∧ b = b ∧ c' = c' ∧ k' = k' ∧ a' = a' ∧ b' = b' ∧ W = W ∧ (c = c ∧ k = k ∧ a = a ∧ b = b ∧ c' = c' ∧ k' = k' ∧ a' = a' ∧ b' = b' ∧ W =
    W ∧ X1 ∧ True) ∧ True) ∧ True) ∧ (∀ (K : KO XM6), (fun X2 : Prop => (MdOk (mdF c' k' a' b' y.s.m).snd ∧ ((mdF c' k' a' b' y.s.m).snd.nilq = true → (mdF c' k' a' b' y.s.m).snd.q =
    [])) ∧ c = c ∧ k = k ∧ a = a ∧ b = b ∧ c' = c' ∧ k' = k' ∧ a' = a' ∧ b' = b' ∧ W = W ∧ (c = c ∧ k = k ∧ a = a ∧ b = b ∧ c' = c' ∧ k' = k' ∧ a' = a' ∧ b' = b' ∧ W = W ∧ (c = c ∧ k =
    k ∧ a = a ∧ b = b ∧ c' = c' ∧ k' = k' ∧ a' = a' ∧ b' = b' ∧ W = W ∧ X2 ∧ True) ∧ True) ∧ True → c = c ∧ k = k ∧ a = a ∧ b = b ∧ c' = c' ∧ k' = k' ∧ a' = a' ∧ b' = b' ∧ W = W ∧
    ((MdOk (mdF c' k' a' b' y.s.m).snd ∧ ((mdF c' k' a' b' y.s.m).snd.nilq = true → (mdF c' k' a' b' y.s.m).snd.q = [])) ∧ c = c ∧ k = k ∧ a = a ∧ b = b ∧ c' = c' ∧ k' = k' ∧ a' = a' ∧
    b' = b' ∧ W = W ∧ (c = c ∧ k = k ∧ a = a ∧ b = b ∧ c' = c' ∧ k' = k' ∧ a' = a' ∧ b' = b' ∧ W = W ∧ X2 ∧ True) ∧ True) ∧ True) (K (SF.mk 75 (N6 (rw6 ρ 0) (N6 (rw6 ρ 1) (N6 (rw6 ρ 3)
    (N6 (SV.c (SC.ptr 31 0)) (N6 (rw6 ρ 15) (N6 (rw6 ρ 31) (lf6 (rw6 ρ 63)) n6) (lf6 (rw6 ρ 47))) (N6 (rw6 ρ 23) (N6 (SV.c (i6 (↑y.i : Int))) (lf6 (rw6 ρ 71)) n6) (N6 (SV.agg [i6 (mdF
    c' k' a' b' (mdF c k a b y.s.m).snd).fst.fst, i6 (mdF c' k' a' b' (mdF c k a b y.s.m).snd).fst.snd]) n6 n6))) (N6 (SV.c (SC.ptr 74 0)) (N6 (rw6 ρ 19) (N6 (rw6 ρ 35) (lf6 (rw6 ρ 67))
    n6) (lf6 (SV.agg [i6 c, i6 k, i6 a, i6 b]))) (N6 (rw6 ρ 27) (lf6 (rw6 ρ 43)) (N6 (SV.c (SC.ptr 67 0)) n6 n6)))) (N6 (SV.c (SC.ptr 33 0)) (N6 (rw6 ρ 9) (N6 (rw6 ρ 17) (N6 (rw6 ρ 33)
    (lf6 (rw6 ρ 65)) n6) (N6 (SV.c (SC.ptr 67 0)) n6 n6)) (N6 (rw6 ρ 25) (N6 (rw6 ρ 41) (lf6 (rw6 ρ 73)) n6) (lf6 (SV.agg [i6 c', i6 k', i6 a', i6 b'])))) (N6 (SV.c (SC.ptr 84 0)) (N6
    (rw6 ρ 21) (N6 (SV.c (SC.sliv p false len cap)) (lf6 (rw6 ρ 69)) n6) (N6 (SV.c (SC.ptr 31 0)) n6 n6)) (N6 (rw6 ρ 29) (lf6 (rw6 ρ 45)) (N6 (SV.agg [i6 (mdF c k a b (mdF c' k' a' b'
    y.s.m).snd).fst.fst, i6 (mdF c k a b (mdF c' k' a' b' y.s.m).snd).fst.snd]) n6 n6))))) (N6 (rw6 ρ 2) (N6 (SV.c (SC.ptr 32 0)) (N6 (rw6 ρ 8) (N6 (rw6 ρ 16) (N6 (rw6 ρ 32) (lf6 (rw6 ρ
    64)) n6) (N6 (SV.c (SC.ptr 31 0)) n6 n6)) (N6 (rw6 ρ 24) (N6 (SV.c (SC.boo true false)) (lf6 (rw6 ρ 72)) n6) (N6 (SV.c (SC.ptr 67 0)) n6 n6))) (N6 (SV.c (SC.ptr 75 0)) (N6 (rw6 ρ
    20) (N6 (rw6 ρ 36) (lf6 (rw6 ρ 68)) n6) (N6 (SV.agg [i6 (mdF c k a b y.s.m).fst.fst, i6 (mdF c k a b y.s.m).fst.snd]) n6 n6)) (N6 (rw6 ρ 28) (lf6 (rw6 ρ 44)) (lf6 (SV.agg [i6 c, i6
    k, i6 a, i6 b]))))) (N6 (rw6 ρ 6) (N6 (SV.c (SC.ptr 67 0)) (N6 (rw6 ρ 18) (N6 (rw6 ρ 34) (lf6 (rw6 ρ 66)) n6) (N6 (SV.c (SC.ptr 31 0)) n6 n6)) (N6 (rw6 ρ 26) (N6 (rw6 ρ 42) (lf6
    (rw6 ρ 74)) n6) (N6 (SV.agg [i6 (mdF c' k' a' b' y.s.m).fst.fst, i6 (mdF c' k' a' b' y.s.m).fst.snd]) n6 n6))) (N6 (SV.c (SC.ptr 85 0)) (N6 (rw6 ρ 22) (N6 (SV.c (i6 (↑len : Int)))
    (lf6 (rw6 ρ 70)) n6) (lf6 (SV.agg [i6 c', i6 k', i6 a', i6 b']))) (N6 (rw6 ρ 30) (lf6 (rw6 ρ 46)) (lf6 (rw6 ρ 62))))))) []) (Mem.mk [(31, SO.ext (ob6 (mdF c' k' a' b' (mdF c k a b
    y.s.m).snd).snd)), (32, SO.cells [i6 c, i6 k, i6 a, i6 b] (OfNat.ofNat 26)), (33, SO.cells [i6 c', i6 k', i6 a', i6 b'] (OfNat.ofNat 26)), (0, SO.seen W), (67, SO.ext (ob6 (mdF c k
    a b (mdF c' k' a' b' y.s.m).snd).snd)), (74, SO.cells [i6 (mdF c k a b y.s.m).fst.fst, i6 (mdF c k a b y.s.m).fst.snd] 33), (75, SO.cells [i6 (mdF c' k' a' b' (mdF c k a b
    y.s.m).snd).fst.fst, i6 (mdF c' k' a' b' (mdF c k a b y.s.m).snd).fst.snd] 33), (84, SO.cells [i6 (mdF c' k' a' b' y.s.m).fst.fst, i6 (mdF c' k' a' b' y.s.m).fst.snd] 33), (85,
    SO.cells [i6 (mdF c k a b (mdF c' k' a' b' y.s.m).snd).fst.fst, i6 (mdF c k a b (mdF c' k' a' b' y.s.m).snd).fst.snd] 33)] 88) Scr.nil.t.t)) ∧ True) (K (SF.mk 75 (N6 (rw6 ρ 0) (N6
    (rw6 ρ 1) (N6 (rw6 ρ 3) (N6 (SV.c (SC.ptr 31 0)) (N6 (rw6 ρ 15) (N6 (rw6 ρ 31) (lf6 (rw6 ρ 63)) n6) (lf6 (rw6 ρ 47))) (N6 (rw6 ρ 23) (N6 (SV.c (i6 (↑y.i : Int))) (lf6 (rw6 ρ 71))
    n6) (N6 (SV.agg [i6 (mdF c' k' a' b' (mdF c k a b y.s.m).snd).fst.fst, i6 (mdF c' k' a' b' (mdF c k a b y.s.m).snd).fst.snd]) n6 n6))) (N6 (SV.c (SC.ptr 74 0)) (N6 (rw6 ρ 19) (N6
    (rw6 ρ 35) (lf6 (rw6 ρ 67)) n6) (lf6 (SV.agg [i6 c, i6 k, i6 a, i6 b]))) (N6 (rw6 ρ 27) (lf6 (rw6 ρ 43)) (N6 (SV.c (SC.ptr 67 0)) n6 n6)))) (N6 (SV.c (SC.ptr 33 0)) (N6 (rw6 ρ 9)
    (N6 (rw6 ρ 17) (N6 (rw6 ρ 33) (lf6 (rw6 ρ 65)) n6) (N6 (SV.c (SC.ptr 67 0)) n6 n6)) (N6 (rw6 ρ 25) (N6 (rw6 ρ 41) (lf6 (rw6 ρ 73)) n6) (lf6 (SV.agg [i6 c', i6 k', i6 a', i6 b']))))
    (N6 (SV.c (SC.ptr 84 0)) (N6 (rw6 ρ 21) (N6 (SV.c (SC.sliv p false len cap)) (lf6 (rw6 ρ 69)) n6) (N6 (SV.c (SC.ptr 31 0)) n6 n6)) (N6 (rw6 ρ 29) (lf6 (rw6 ρ 45)) (N6 (SV.agg [i6
    (mdF c k a b (mdF c' k' a' b' y.s.m).snd).fst.fst, i6 (mdF c k a b (mdF c' k' a' b' y.s.m).snd).fst.snd]) n6 n6))))) (N6 (rw6 ρ 2) (N6 (SV.c (SC.ptr 32 0)) (N6 (rw6 ρ 8) (N6 (rw6 ρ
    16) (N6 (rw6 ρ 32) (lf6 (rw6 ρ 64)) n6) (N6 (SV.c (SC.ptr 31 0)) n6 n6)) (N6 (rw6 ρ 24) (N6 (SV.c (SC.boo true false)) (lf6 (rw6 ρ 72)) n6) (N6 (SV.c (SC.ptr 67 0)) n6 n6))) (N6
    (SV.c (SC.ptr 75 0)) (N6 (rw6 ρ 20) (N6 (rw6 ρ 36) (lf6 (rw6 ρ 68)) n6) (N6 (SV.agg [i6 (mdF c k a b y.s.m).fst.fst, i6 (mdF c k a b y.s.m).fst.snd]) n6 n6)) (N6 (rw6 ρ 28) (lf6
    (rw6 ρ 44)) (lf6 (SV.agg [i6 c, i6 k, i6 a, i6 b]))))) (N6 (rw6 ρ 6) (N6 (SV.c (SC.ptr 67 0)) (N6 (rw6 ρ 18) (N6 (rw6 ρ 34) (lf6 (rw6 ρ 66)) n6) (N6 (SV.c (SC.ptr 31 0)) n6 n6)) (N6
    (rw6 ρ 26) (N6 (rw6 ρ 42) (lf6 (rw6 ρ 74)) n6) (N6 (SV.agg [i6 (mdF c' k' a' b' y.s.m).fst.fst, i6 (mdF c' k' a' b' y.s.m).fst.snd]) n6 n6))) (N6 (SV.c (SC.ptr 85 0)) (N6 (rw6 ρ 22)
    (N6 (SV.c (i6 (↑len : Int))) (lf6 (rw6 ρ 70)) n6) (lf6 (SV.agg [i6 c', i6 k', i6 a', i6 b']))) (N6 (rw6 ρ 30) (lf6 (rw6 ρ 46)) (lf6 (rw6 ρ 62))))))) []) (Mem.mk [(31, SO.ext (ob6
    (mdF c' k' a' b' (mdF c k a b y.s.m).snd).snd)), (32, SO.cells [i6 c, i6 k, i6 a, i6 b] (OfNat.ofNat 26)), (33, SO.cells [i6 c', i6 k', i6 a', i6 b'] (OfNat.ofNat 26)), (0, SO.seen
    W), (67, SO.ext (ob6 (mdF c k a b (mdF c' k' a' b' y.s.m).snd).snd)), (74, SO.cells [i6 (mdF c k a b y.s.m).fst.fst, i6 (mdF c k a b y.s.m).fst.snd] 33), (75, SO.cells [i6 (mdF c'
    k' a' b' (mdF c k a b y.s.m).snd).fst.fst, i6 (mdF c' k' a' b' (mdF c k a b y.s.m).snd).fst.snd] 33), (84, SO.cells [i6 (mdF c' k' a' b' y.s.m).fst.fst, i6 (mdF c' k' a' b'
    y.s.m).fst.snd] 33), (85, SO.cells [i6 (mdF c k a b (mdF c' k' a' b' y.s.m).snd).fst.fst, i6 (mdF c k a b (mdF c' k' a' b' y.s.m).snd).fst.snd] 33)] 88) Scr.nil.t.t)) ∧ (∀ (K : KO
    XM6), (fun X1 : Prop => (MdOk (mdF c' k' a' b' y.s.m).snd ∧ ((mdF c' k' a' b' y.s.m).snd.nilq = true → (mdF c' k' a' b' y.s.m).snd.q = [])) ∧ c = c ∧ k = k ∧ a = a ∧ b = b ∧ c' = c'
    ∧ k' = k' ∧ a' = a' ∧ b' = b' ∧ W = W ∧ (c = c ∧ k = k ∧ a = a ∧ b = b ∧ c' = c' ∧ k' = k' ∧ a' = a' ∧ b' = b' ∧ W = W ∧ (c = c ∧ k = k ∧ a = a ∧ b = b ∧ c' = c' ∧ k' = k' ∧ a' = a'
    ∧ b' = b' ∧ W = W ∧ (c = c ∧ k = k ∧ a = a ∧ b = b ∧ c' = c' ∧ k' = k' ∧ a' = a' ∧ b' = b' ∧ W = W ∧ X1 ∧ True) ∧ True) ∧ True) ∧ (∀ (K : KO XM6), (fun X2 : Prop => c = c ∧ k = k ∧
    a = a ∧ b = b ∧ c' = c' ∧ k' = k' ∧ a' = a' ∧ b' = b' ∧ W = W ∧ (c = c ∧ k = k ∧ a = a ∧ b = b ∧ c' = c' ∧ k' = k' ∧ a' = a' ∧ b' = b' ∧ W = W ∧ (c = c ∧ k = k ∧ a = a ∧ b = b ∧ c'
    = c' ∧ k' = k' ∧ a' = a' ∧ b' = b' ∧ W = W ∧ X2 ∧ True) ∧ True) ∧ True → c = c ∧ k = k ∧ a = a ∧ b = b ∧ c' = c' ∧ k' = k' ∧ a' = a' ∧ b' = b' ∧ W = W ∧ (c = c ∧ k = k ∧ a = a ∧ b =
    b ∧ c' = c' ∧ k' = k' ∧ a' = a' ∧ b' = b' ∧ W = W ∧ (c = c ∧ k = k ∧ a = a ∧ b = b ∧ c' = c' ∧ k' = k' ∧ a' = a' ∧ b' = b' ∧ W = W ∧ X2 ∧ True) ∧ True) ∧ True) (K (SF.mk 75 (N6 (rw6
    ρ 0) (N6 (rw6 ρ 1) (N6 (rw6 ρ 3) (N6 (SV.c (SC.ptr 31 0)) (N6 (rw6 ρ 15) (N6 (rw6 ρ 31) (lf6 (rw6 ρ 63)) n6) (lf6 (rw6 ρ 47))) (N6 (rw6 ρ 23) (N6 (SV.c (i6 (↑y.i : Int))) (lf6 (rw6
    ρ 71)) n6) (N6 (SV.agg [i6 (mdF c' k' a' b' (mdF c k a b y.s.m).snd).fst.fst, i6 (mdF c' k' a' b' (mdF c k a b y.s.m).snd).fst.snd]) n6 n6))) (N6 (SV.c (SC.ptr 74 0)) (N6 (rw6 ρ 19)
    (N6 (rw6 ρ 35) (lf6 (rw6 ρ 67)) n6) (lf6 (SV.agg [i6 c, i6 k, i6 a, i6 b]))) (N6 (rw6 ρ 27) (lf6 (rw6 ρ 43)) (N6 (SV.c (SC.ptr 67 0)) n6 n6)))) (N6 (SV.c (SC.ptr 33 0)) (N6 (rw6 ρ
    9) (N6 (rw6 ρ 17) (N6 (rw6 ρ 33) (lf6 (rw6 ρ 65)) n6) (N6 (SV.c (SC.ptr 67 0)) n6 n6)) (N6 (rw6 ρ 25) (N6 (rw6 ρ 41) (lf6 (rw6 ρ 73)) n6) (lf6 (SV.agg [i6 c', i6 k', i6 a', i6
    b'])))) (N6 (SV.c (SC.ptr 84 0)) (N6 (rw6 ρ 21) (N6 (SV.c (SC.sliv p false len cap)) (lf6 (rw6 ρ 69)) n6) (N6 (SV.c (SC.ptr 31 0)) n6 n6)) (N6 (rw6 ρ 29) (lf6 (rw6 ρ 45)) (N6
    (SV.agg [i6 (mdF c k a b (mdF c' k' a' b' y.s.m).snd).fst.fst, i6 (mdF c k a b (mdF c' k' a' b' y.s.m).snd).fst.snd]) n6 n6))))) (N6 (rw6 ρ 2) (N6 (SV.c (SC.ptr 32 0)) (N6 (rw6 ρ 8)
    (N6 (rw6 ρ 16) (N6 (rw6 ρ 32) (lf6 (rw6 ρ 64)) n6) (N6 (SV.c (SC.ptr 31 0)) n6 n6)) (N6 (rw6 ρ 24) (N6 (SV.c (SC.boo true false)) (lf6 (rw6 ρ 72)) n6) (N6 (SV.c (SC.ptr 67 0)) n6
    n6))) (N6 (SV.c (SC.ptr 75 0)) (N6 (rw6 ρ 20) (N6 (rw6 ρ 36) (lf6 (rw6 ρ 68)) n6) (N6 (SV.agg [i6 (mdF c k a b y.s.m).fst.fst, i6 (mdF c k a b y.s.m).fst.snd]) n6 n6)) (N6 (rw6 ρ
    28) (lf6 (rw6 ρ 44)) (lf6 (SV.agg [i6 c, i6 k, i6 a, i6 b]))))) (N6 (rw6 ρ 6) (N6 (SV.c (SC.ptr 67 0)) (N6 (rw6 ρ 18) (N6 (rw6 ρ 34) (lf6 (rw6 ρ 66)) n6) (N6 (SV.c (SC.ptr 31 0)) n6
    n6)) (N6 (rw6 ρ 26) (N6 (rw6 ρ 42) (lf6 (rw6 ρ 74)) n6) (N6 (SV.agg [i6 (mdF c' k' a' b' y.s.m).fst.fst, i6 (mdF c' k' a' b' y.s.m).fst.snd]) n6 n6))) (N6 (SV.c (SC.ptr 85 0)) (N6
    (rw6 ρ 22) (N6 (SV.c (i6 (↑len : Int))) (lf6 (rw6 ρ 70)) n6) (lf6 (SV.agg [i6 c', i6 k', i6 a', i6 b']))) (N6 (rw6 ρ 30) (lf6 (rw6 ρ 46)) (lf6 (rw6 ρ 62))))))) []) (Mem.mk [(31,
    SO.ext (ob6 (mdF c' k' a' b' (mdF c k a b y.s.m).snd).snd)), (32, SO.cells [i6 c, i6 k, i6 a, i6 b] (OfNat.ofNat 26)), (33, SO.cells [i6 c', i6 k', i6 a', i6 b'] (OfNat.ofNat 26)),
    (0, SO.seen W), (67, SO.ext (ob6 (mdF c k a b (mdF c' k' a' b' y.s.m).snd).snd)), (74, SO.cells [i6 (mdF c k a b y.s.m).fst.fst, i6 (mdF c k a b y.s.m).fst.snd] 33), (75, SO.cells
    [i6 (mdF c' k' a' b' (mdF c k a b y.s.m).snd).fst.fst, i6 (mdF c' k' a' b' (mdF c k a b y.s.m).snd).fst.snd] 33), (84, SO.cells [i6 (mdF c' k' a' b' y.s.m).fst.fst, i6 (mdF c' k' a'
    b' y.s.m).fst.snd] 33), (85, SO.cells [i6 (mdF c k a b (mdF c' k' a' b' y.s.m).snd).fst.fst, i6 (mdF c k a b (mdF c' k' a' b' y.s.m).snd).fst.snd] 33)] 88) Scr.nil.t.t)) ∧ True → c
    = c ∧ k = k ∧ a = a ∧ b = b ∧ c' = c' ∧ k' = k' ∧ a' = a' ∧ b' = b' ∧ W = W ∧ ((MdOk (mdF c' k' a' b' y.s.m).snd ∧ ((mdF c' k' a' b' y.s.m).snd.nilq = true → (mdF c' k' a' b'
    y.s.m).snd.q = [])) ∧ c = c ∧ k = k ∧ a = a ∧ b = b ∧ c' = c' ∧ k' = k' ∧ a' = a' ∧ b' = b' ∧ W = W ∧ (c = c ∧ k = k ∧ a = a ∧ b = b ∧ c' = c' ∧ k' = k' ∧ a' = a' ∧ b' = b' ∧ W = W
    ∧ (c = c ∧ k = k ∧ a = a ∧ b = b ∧ c' = c' ∧ k' = k' ∧ a' = a' ∧ b' = b' ∧ W = W ∧ X1 ∧ True) ∧ True) ∧ True) ∧ (∀ (K : KO XM6), (fun X2 : Prop => (MdOk (mdF c' k' a' b' y.s.m).snd
    ∧ ((mdF c' k' a' b' y.s.m).snd.nilq = true → (mdF c' k' a' b' y.s.m).snd.q = [])) ∧ c = c ∧ k = k ∧ a = a ∧ b = b ∧ c' = c' ∧ k' = k' ∧ a' = a' ∧ b' = b' ∧ W = W ∧ (c = c ∧ k = k ∧
    a = a ∧ b = b ∧ c' = c' ∧ k' = k' ∧ a' = a' ∧ b' = b' ∧ W = W ∧ (c = c ∧ k = k ∧ a = a ∧ b = b ∧ c' = c' ∧ k' = k' ∧ a' = a' ∧ b' = b' ∧ W = W ∧ X2 ∧ True) ∧ True) ∧ True → c = c ∧
    k = k ∧ a = a ∧ b = b ∧ c' = c' ∧ k' = k' ∧ a' = a' ∧ b' = b' ∧ W = W ∧ ((MdOk (mdF c' k' a' b' y.s.m).snd ∧ ((mdF c' k' a' b' y.s.m).snd.nilq = true → (mdF c' k' a' b' y.s.m).snd.q
    = [])) ∧ c = c ∧ k = k ∧ a = a ∧ b = b ∧ c' = c' ∧ k' = k' ∧ a' = a' ∧ b' = b' ∧ W = W ∧ (c = c ∧ k = k ∧ a = a ∧ b = b ∧ c' = c' ∧ k' = k' ∧ a' = a' ∧ b' = b' ∧ W = W ∧ X2 ∧ True)
    ∧ True) ∧ True) (K (SF.mk 75 (N6 (rw6 ρ 0) (N6 (rw6 ρ 1) (N6 (rw6 ρ 3) (N6 (SV.c (SC.ptr 31 0)) (N6 (rw6 ρ 15) (N6 (rw6 ρ 31) (lf6 (rw6 ρ 63)) n6) (lf6 (rw6 ρ 47))) (N6 (rw6 ρ 23)
    (N6 (SV.c (i6 (↑y.i : Int))) (lf6 (rw6 ρ 71)) n6) (N6 (SV.agg [i6 (mdF c' k' a' b' (mdF c k a b y.s.m).snd).fst.fst, i6 (mdF c' k' a' b' (mdF c k a b y.s.m).snd).fst.snd]) n6 n6)))
    (N6 (SV.c (SC.ptr 74 0)) (N6 (rw6 ρ 19) (N6 (rw6 ρ 35) (lf6 (rw6 ρ 67)) n6) (lf6 (SV.agg [i6 c, i6 k, i6 a, i6 b]))) (N6 (rw6 ρ 27) (lf6 (rw6 ρ 43)) (N6 (SV.c (SC.ptr 67 0)) n6
    n6)))) (N6 (SV.c (SC.ptr 33 0)) (N6 (rw6 ρ 9) (N6 (rw6 ρ 17) (N6 (rw6 ρ 33) (lf6 (rw6 ρ 65)) n6) (N6 (SV.c (SC.ptr 67 0)) n6 n6)) (N6 (rw6 ρ 25) (N6 (rw6 ρ 41) (lf6 (rw6 ρ 73)) n6)
    (lf6 (SV.agg [i6 c', i6 k', i6 a', i6 b'])))) (N6 (SV.c (SC.ptr 84 0)) (N6 (rw6 ρ 21) (N6 (SV.c (SC.sliv p false len cap)) (lf6 (rw6 ρ 69)) n6) (N6 (SV.c (SC.ptr 31 0)) n6 n6)) (N6
    (rw6 ρ 29) (lf6 (rw6 ρ 45)) (N6 (SV.agg [i6 (mdF c k a b (mdF c' k' a' b' y.s.m).snd).fst.fst, i6 (mdF c k a b (mdF c' k' a' b' y.s.m).snd).fst.snd]) n6 n6))))) (N6 (rw6 ρ 2) (N6
    (SV.c (SC.ptr 32 0)) (N6 (rw6 ρ 8) (N6 (rw6 ρ 16) (N6 (rw6 ρ 32) (lf6 (rw6 ρ 64)) n6) (N6 (SV.c (SC.ptr 31 0)) n6 n6)) (N6 (rw6 ρ 24) (N6 (SV.c (SC.boo true false)) (lf6 (rw6 ρ 72))
    n6) (N6 (SV.c (SC.ptr 67 0)) n6 n6))) (N6 (SV.c (SC.ptr 75 0)) (N6 (rw6 ρ 20) (N6 (rw6 ρ 36) (lf6 (rw6 ρ 68)) n6) (N6 (SV.agg [i6 (mdF c k a b y.s.m).fst.fst, i6 (mdF c k a b
    y.s.m).fst.snd]) n6 n6)) (N6 (rw6 ρ 28) (lf6 (rw6 ρ 44)) (lf6 (SV.agg [i6 c, i6 k, i6 a, i6 b]))))) (N6 (rw6 ρ 6) (N6 (SV.c (SC.ptr 67 0)) (N6 (rw6 ρ 18) (N6 (rw6 ρ 34) (lf6 (rw6 ρ
    66)) n6) (N6 (SV.c (SC.ptr 31 0)) n6 n6)) (N6 (rw6 ρ 26) (N6 (rw6 ρ 42) (lf6 (rw6 ρ 74)) n6) (N6 (SV.agg [i6 (mdF c' k' a' b' y.s.m).fst.fst, i6 (mdF c' k' a' b' y.s.m).fst.snd]) n6
    n6))) (N6 (SV.c (SC.ptr 85 0)) (N6 (rw6 ρ 22) (N6 (SV.c (i6 (↑len : Int))) (lf6 (rw6 ρ 70)) n6) (lf6 (SV.agg [i6 c', i6 k', i6 a', i6 b']))) (N6 (rw6 ρ 30) (lf6 (rw6 ρ 46)) (lf6
    (rw6 ρ 62))))))) []) (Mem.mk [(31, SO.ext (ob6 (mdF c' k' a' b' (mdF c k a b y.s.m).snd).snd)), (32, SO.cells [i6 c, i6 k, i6 a, i6 b] (OfNat.ofNat 26)), (33, SO.cells [i6 c', i6
    k', i6 a', i6 b'] (OfNat.ofNat 26)), (0, SO.seen W), (67, SO.ext (ob6 (mdF c k a b (mdF c' k' a' b' y.s.m).snd).snd)), (74, SO.cells [i6 (mdF c k a b y.s.m).fst.fst, i6 (mdF c k a b
    y.s.m).fst.snd] 33), (75, SO.cells [i6 (mdF c' k' a' b' (mdF c k a b y.s.m).snd).fst.fst, i6 (mdF c' k' a' b' (mdF c k a b y.s.m).snd).fst.snd] 33), (84, SO.cells [i6 (mdF c' k' a'
    b' y.s.m).fst.fst, i6 (mdF c' k' a' b' y.s.m).fst.snd] 33), (85, SO.cells [i6 (mdF c k a b (mdF c' k' a' b' y.s.m).snd).fst.fst, i6 (mdF c k a b (mdF c' k' a' b'
    y.s.m).snd).fst.snd] 33)] 88) Scr.nil.t.t)) ∧ True) (K (SF.mk 75 (N6 (rw6 ρ 0) (N6 (rw6 ρ 1) (N6 (rw6 ρ 3) (N6 (SV.c (SC.ptr 31 0)) (N6 (rw6 ρ 15) (N6 (rw6 ρ 31) (lf6 (rw6 ρ 63))
    n6) (lf6 (rw6 ρ 47))) (N6 (rw6 ρ 23) (N6 (SV.c (i6 (↑y.i : Int))) (lf6 (rw6 ρ 71)) n6) (N6 (SV.agg [i6 (mdF c' k' a' b' (mdF c k a b y.s.m).snd).fst.fst, i6 (mdF c' k' a' b' (mdF c
    k a b y.s.m).snd).fst.snd]) n6 n6))) (N6 (SV.c (SC.ptr 74 0)) (N6 (rw6 ρ 19) (N6 (rw6 ρ 35) (lf6 (rw6 ρ 67)) n6) (lf6 (SV.agg [i6 c, i6 k, i6 a, i6 b]))) (N6 (rw6 ρ 27) (lf6 (rw6 ρ
    43)) (N6 (SV.c (SC.ptr 67 0)) n6 n6)))) (N6 (SV.c (SC.ptr 33 0)) (N6 (rw6 ρ 9) (N6 (rw6 ρ 17) (N6 (rw6 ρ 33) (lf6 (rw6 ρ 65)) n6) (N6 (SV.c (SC.ptr 67 0)) n6 n6)) (N6 (rw6 ρ 25) (N6
    (rw6 ρ 41) (lf6 (rw6 ρ 73)) n6) (lf6 (SV.agg [i6 c', i6 k', i6 a', i6 b'])))) (N6 (SV.c (SC.ptr 84 0)) (N6 (rw6 ρ 21) (N6 (SV.c (SC.sliv p false len cap)) (lf6 (rw6 ρ 69)) n6) (N6
    (SV.c (SC.ptr 31 0)) n6 n6)) (N6 (rw6 ρ 29) (lf6 (rw6 ρ 45)) (N6 (SV.agg [i6 (mdF c k a b (mdF c' k' a' b' y.s.m).snd).fst.fst, i6 (mdF c k a b (mdF c' k' a' b'
    y.s.m).snd).fst.snd]) n6 n6))))) (N6 (rw6 ρ 2) (N6 (SV.c (SC.ptr 32 0)) (N6 (rw6 ρ 8) (N6 (rw6 ρ 16) (N6 (rw6 ρ 32) (lf6 (rw6 ρ 64)) n6) (N6 (SV.c (SC.ptr 31 0)) n6 n6)) (N6 (rw6 ρ
    24) (N6 (SV.c (SC.boo true false)) (lf6 (rw6 ρ 72)) n6) (N6 (SV.c (SC.ptr 67 0)) n6 n6))) (N6 (SV.c (SC.ptr 75 0)) (N6 (rw6 ρ 20) (N6 (rw6 ρ 36) (lf6 (rw6 ρ 68)) n6) (N6 (SV.agg [i6
    (mdF c k a b y.s.m).fst.fst, i6 (mdF c k a b y.s.m).fst.snd]) n6 n6)) (N6 (rw6 ρ 28) (lf6 (rw6 ρ 44)) (lf6 (SV.agg [i6 c, i6 k, i6 a, i6 b]))))) (N6 (rw6 ρ 6) (N6 (SV.c (SC.ptr 67
    0)) (N6 (rw6 ρ 18) (N6 (rw6 ρ 34) (lf6 (rw6 ρ 66)) n6) (N6 (SV.c (SC.ptr 31 0)) n6 n6)) (N6 (rw6 ρ 26) (N6 (rw6 ρ 42) (lf6 (rw6 ρ 74)) n6) (N6 (SV.agg [i6 (mdF c' k' a' b'
    y.s.m).fst.fst, i6 (mdF c' k' a' b' y.s.m).fst.snd]) n6 n6))) (N6 (SV.c (SC.ptr 85 0)) (N6 (rw6 ρ 22) (N6 (SV.c (i6 (↑len : Int))) (lf6 (rw6 ρ 70)) n6) (lf6 (SV.agg [i6 c', i6 k',
    i6 a', i6 b']))) (N6 (rw6 ρ 30) (lf6 (rw6 ρ 46)) (lf6 (rw6 ρ 62))))))) []) (Mem.mk [(31, SO.ext (ob6 (mdF c' k' a' b' (mdF c k a b y.s.m).snd).snd)), (32, SO.cells [i6 c, i6 k, i6
    a, i6 b] (OfNat.ofNat 26)), (33, SO.cells [i6 c', i6 k', i6 a', i6 b'] (OfNat.ofNat 26)), (0, SO.seen W), (67, SO.ext (ob6 (mdF c k a b (mdF c' k' a' b' y.s.m).snd).snd)), (74,
    SO.cells [i6 (mdF c k a b y.s.m).fst.fst, i6 (mdF c k a b y.s.m).fst.snd] 33), (75, SO.cells [i6 (mdF c' k' a' b' (mdF c k a b y.s.m).snd).fst.fst, i6 (mdF c' k' a' b' (mdF c k a b
    y.s.m).snd).fst.snd] 33), (84, SO.cells [i6 (mdF c' k' a' b' y.s.m).fst.fst, i6 (mdF c' k' a' b' y.s.m).fst.snd] 33), (85, SO.cells [i6 (mdF c k a b (mdF c' k' a' b'
    y.s.m).snd).fst.fst, i6 (mdF c k a b (mdF c' k' a' b' y.s.m).snd).fst.snd] 33)] 88) Scr.nil.t.t)) ∧ True → c = c ∧ k = k ∧ a = a ∧ b = b ∧ c' = c' ∧ k' = k' ∧ a' = a' ∧ b' = b' ∧ W
    = W ∧ ((MdOk y.s.m ∧ (y.s.m.nilq = true → y.s.m.q = [])) ∧ c = c ∧ k = k ∧ a = a ∧ b = b ∧ c' = c' ∧ k' = k' ∧ a' = a' ∧ b' = b' ∧ W = W ∧ ((MdOk (mdF c' k' a' b' y.s.m).snd ∧ ((mdF
    c' k' a' b' y.s.m).snd.nilq = true → (mdF c' k' a' b' y.s.m).snd.q = [])) ∧ c = c ∧ k = k ∧ a = a ∧ b = b ∧ c' = c' ∧ k' = k' ∧ a' = a' ∧ b' = b' ∧ W = W ∧ (c = c ∧ k = k ∧ a = a ∧
    b = b ∧ c' = c' ∧ k' = k' ∧ a' = a' ∧ b' = b' ∧ W = W ∧ (c = c ∧ k = k ∧ a = a ∧ b = b ∧ c' = c' ∧ k' = k' ∧ a' = a' ∧ b' = b' ∧ W = W ∧ X0 ∧ True) ∧ True) ∧ True) ∧ (∀ (K : KO
    XM6), (fun X1 : Prop => (MdOk (mdF c' k' a' b' y.s.m).snd ∧ ((mdF c' k' a' b' y.s.m).snd.nilq = true → (mdF c' k' a' b' y.s.m).snd.q = [])) ∧ c = c ∧ k = k ∧ a = a ∧ b = b ∧ c' = c'
    ∧ k' = k' ∧ a' = a' ∧ b' = b' ∧ W = W ∧ (c = c ∧ k = k ∧ a = a ∧ b = b ∧ c' = c' ∧ k' = k' ∧ a' = a' ∧ b' = b' ∧ W = W ∧ (c = c ∧ k = k ∧ a = a ∧ b = b ∧ c' = c' ∧ k' = k' ∧ a' = a'
    ∧ b' = b' ∧ W = W ∧ X1 ∧ True) ∧ True) ∧ True → c = c ∧ k = k ∧ a = a ∧ b = b ∧ c' = c' ∧ k' = k' ∧ a' = a' ∧ b' = b' ∧ W = W ∧ ((MdOk (mdF c' k' a' b' y.s.m).snd ∧ ((mdF c' k' a'
    b' y.s.m).snd.nilq = true → (mdF c' k' a' b' y.s.m).snd.q = [])) ∧ c = c ∧ k = k ∧ a = a ∧ b = b ∧ c' = c' ∧ k' = k' ∧ a' = a' ∧ b' = b' ∧ W = W ∧ (c = c ∧ k = k ∧ a = a ∧ b = b ∧
    c' = c' ∧ k' = k' ∧ a' = a' ∧ b' = b' ∧ W = W ∧ X1 ∧ True) ∧ True) ∧ True) (K (SF.mk 75 (N6 (rw6 ρ 0) (N6 (rw6 ρ 1) (N6 (rw6 ρ 3) (N6 (SV.c (SC.ptr 31 0)) (N6 (rw6 ρ 15) (N6 (rw6 ρ
    31) (lf6 (rw6 ρ 63)) n6) (lf6 (rw6 ρ 47))) (N6 (rw6 ρ 23) (N6 (SV.c (i6 (↑y.i : Int))) (lf6 (rw6 ρ 71)) n6) (N6 (SV.agg [i6 (mdF c' k' a' b' (mdF c k a b y.s.m).snd).fst.fst, i6
    (mdF c' k' a' b' (mdF c k a b y.s.m).snd).fst.snd]) n6 n6))) (N6 (SV.c (SC.ptr 74 0)) (N6 (rw6 ρ 19) (N6 (rw6 ρ 35) (lf6 (rw6 ρ 67)) n6) (lf6 (SV.agg [i6 c, i6 k, i6 a, i6 b]))) (N6
    (rw6 ρ 27) (lf6 (rw6 ρ 43)) (N6 (SV.c (SC.ptr 67 0)) n6 n6)))) (N6 (SV.c (SC.ptr 33 0)) (N6 (rw6 ρ 9) (N6 (rw6 ρ 17) (N6 (rw6 ρ 33) (lf6 (rw6 ρ 65)) n6) (N6 (SV.c (SC.ptr 67 0)) n6
    n6)) (N6 (rw6 ρ 25) (N6 (rw6 ρ 41) (lf6 (rw6 ρ 73)) n6) (lf6 (SV.agg [i6 c', i6 k', i6 a', i6 b'])))) (N6 (SV.c (SC.ptr 84 0)) (N6 (rw6 ρ 21) (N6 (SV.c (SC.sliv p false len cap))
    (lf6 (rw6 ρ 69)) n6) (N6 (SV.c (SC.ptr 31 0)) n6 n6)) (N6 (rw6 ρ 29) (lf6 (rw6 ρ 45)) (N6 (SV.agg [i6 (mdF c k a b (mdF c' k' a' b' y.s.m).snd).fst.fst, i6 (mdF c k a b (mdF c' k'
    a' b' y.s.m).snd).fst.snd]) n6 n6))))) (N6 (rw6 ρ 2) (N6 (SV.c (SC.ptr 32 0)) (N6 (rw6 ρ 8) (N6 (rw6 ρ 16) (N6 (rw6 ρ 32) (lf6 (rw6 ρ 64)) n6) (N6 (SV.c (SC.ptr 31 0)) n6 n6)) (N6
    (rw6 ρ 24) (N6 (SV.c (SC.boo true false)) (lf6 (rw6 ρ 72)) n6) (N6 (SV.c (SC.ptr 67 0)) n6 n6))) (N6 (SV.c (SC.ptr 75 0)) (N6 (rw6 ρ 20) (N6 (rw6 ρ 36) (lf6 (rw6 ρ 68)) n6) (N6
    (SV.agg [i6 (mdF c k a b y.s.m).fst.fst, i6 (mdF c k a b y.s.m).fst.snd]) n6 n6)) (N6 (rw6 ρ 28) (lf6 (rw6 ρ 44)) (lf6 (SV.agg [i6 c, i6 k, i6 a, i6 b]))))) (N6 (rw6 ρ 6) (N6 (SV.c
    (SC.ptr 67 0)) (N6 (rw6 ρ 18) (N6 (rw6 ρ 34) (lf6 (rw6 ρ 66)) n6) (N6 (SV.c (SC.ptr 31 0)) n6 n6)) (N6 (rw6 ρ 26) (N6 (rw6 ρ 42) (lf6 (rw6 ρ 74)) n6) (N6 (SV.agg [i6 (mdF c' k' a'
    b' y.s.m).fst.fst, i6 (mdF c' k' a' b' y.s.m).fst.snd]) n6 n6))) (N6 (SV.c (SC.ptr 85 0)) (N6 (rw6 ρ 22) (N6 (SV.c (i6 (↑len : Int))) (lf6 (rw6 ρ 70)) n6) (lf6 (SV.agg [i6 c', i6
    k', i6 a', i6 b']))) (N6 (rw6 ρ 30) (lf6 (rw6 ρ 46)) (lf6 (rw6 ρ 62))))))) []) (Mem.mk [(31, SO.ext (ob6 (mdF c' k' a' b' (mdF c k a b y.s.m).snd).snd)), (32, SO.cells [i6 c, i6 k,
    i6 a, i6 b] (OfNat.ofNat 26)), (33, SO.cells [i6 c', i6 k', i6 a', i6 b'] (OfNat.ofNat 26)), (0, SO.seen W), (67, SO.ext (ob6 (mdF c k a b (mdF c' k' a' b' y.s.m).snd).snd)), (74,
    SO.cells [i6 (mdF c k a b y.s.m).fst.fst, i6 (mdF c k a b y.s.m).fst.snd] 33), (75, SO.cells [i6 (mdF c' k' a' b' (mdF c k a b y.s.m).snd).fst.fst, i6 (mdF c' k' a' b' (mdF c k a b
    y.s.m).snd).fst.snd] 33), (84, SO.cells [i6 (mdF c' k' a' b' y.s.m).fst.fst, i6 (mdF c' k' a' b' y.s.m).fst.snd] 33), (85, SO.cells [i6 (mdF c k a b (mdF c' k' a' b'
    y.s.m).snd).fst.fst, i6 (mdF c k a b (mdF c' k' a' b' y.s.m).snd).fst.snd] 33)] 88) Scr.nil.t.t)) ∧ True) ∧ (∀ (K : KO XM6), (fun X1 : Prop => (MdOk y.s.m ∧ (y.s.m.nilq = true →
    y.s.m.q = [])) ∧ c = c ∧ k = k ∧ a = a ∧ b = b ∧ c' = c' ∧ k' = k' ∧ a' = a' ∧ b' = b' ∧ W = W ∧ ((MdOk (mdF c' k' a' b' y.s.m).snd ∧ ((mdF c' k' a' b' y.s.m).snd.nilq = true → (mdF
    c' k' a' b' y.s.m).snd.q = [])) ∧ c = c ∧ k = k ∧ a = a ∧ b = b ∧ c' = c' ∧ k' = k' ∧ a' = a' ∧ b' = b' ∧ W = W ∧ (c = c ∧ k = k ∧ a = a ∧ b = b ∧ c' = c' ∧ k' = k' ∧ a' = a' ∧ b' =
    b' ∧ W = W ∧ (c = c ∧ k = k ∧ a = a ∧ b = b ∧ c' = c' ∧ k' = k' ∧ a' = a' ∧ b' = b' ∧ W = W ∧ X1 ∧ True) ∧ True) ∧ True) ∧ (∀ (K : KO XM6), (fun X2 : Prop => (MdOk (mdF c' k' a' b'
    y.s.m).snd ∧ ((mdF c' k' a' b' y.s.m).snd.nilq = true → (mdF c' k' a' b' y.s.m).snd.q = [])) ∧ c = c ∧ k = k ∧ a = a ∧ b = b ∧ c' = c' ∧ k' = k' ∧ a' = a' ∧ b' = b' ∧ W = W ∧ (c = c
    ∧ k = k ∧ a = a ∧ b = b ∧ c' = c' ∧ k' = k' ∧ a' = a' ∧ b' = b' ∧ W = W ∧ (c = c ∧ k = k ∧ a = a ∧ b = b ∧ c' = c' ∧ k' = k' ∧ a' = a' ∧ b' = b' ∧ W = W ∧ X2 ∧ True) ∧ True) ∧ True
    → c = c ∧ k = k ∧ a = a ∧ b = b ∧ c' = c' ∧ k' = k' ∧ a' = a' ∧ b' = b' ∧ W = W ∧ ((MdOk (mdF c' k' a' b' y.s.m).snd ∧ ((mdF c' k' a' b' y.s.m).snd.nilq = true → (mdF c' k' a' b'
    y.s.m).snd.q = [])) ∧ c = c ∧ k = k ∧ a = a ∧ b = b ∧ c' = c' ∧ k' = k' ∧ a' = a' ∧ b' = b' ∧ W = W ∧ (c = c ∧ k = k ∧ a = a ∧ b = b ∧ c' = c' ∧ k' = k' ∧ a' = a' ∧ b' = b' ∧ W = W
    ∧ X2 ∧ True) ∧ True) ∧ True) (K (SF.mk 75 (N6 (rw6 ρ 0) (N6 (rw6 ρ 1) (N6 (rw6 ρ 3) (N6 (SV.c (SC.ptr 31 0)) (N6 (rw6 ρ 15) (N6 (rw6 ρ 31) (lf6 (rw6 ρ 63)) n6) (lf6 (rw6 ρ 47))) (N6
    (rw6 ρ 23) (N6 (SV.c (i6 (↑y.i : Int))) (lf6 (rw6 ρ 71)) n6) (N6 (SV.agg [i6 (mdF c' k' a' b' (mdF c k a b y.s.m).snd).fst.fst, i6 (mdF c' k' a' b' (mdF c k a b
    y.s.m).snd).fst.snd]) n6 n6))) (N6 (SV.c (SC.ptr 74 0)) (N6 (rw6 ρ 19) (N6 (rw6 ρ 35) (lf6 (rw6 ρ 67)) n6) (lf6 (SV.agg [i6 c, i6 k, i6 a, i6 b]))) (N6 (rw6 ρ 27) (lf6 (rw6 ρ 43))
    (N6 (SV.c (SC.ptr 67 0)) n6 n6)))) (N6 (SV.c (SC.ptr 33 0)) (N6 (rw6 ρ 9) (N6 (rw6 ρ 17) (N6 (rw6 ρ 33) (lf6 (rw6 ρ 65)) n6) (N6 (SV.c (SC.ptr 67 0)) n6 n6)) (N6 (rw6 ρ 25) (N6 (rw6
    ρ 41) (lf6 (rw6 ρ 73)) n6) (lf6 (SV.agg [i6 c', i6 k', i6 a', i6 b'])))) (N6 (SV.c (SC.ptr 84 0)) (N6 (rw6 ρ 21) (N6 (SV.c (SC.sliv p false len cap)) (lf6 (rw6 ρ 69)) n6) (N6 (SV.c
    (SC.ptr 31 0)) n6 n6)) (N6 (rw6 ρ 29) (lf6 (rw6 ρ 45)) (N6 (SV.agg [i6 (mdF c k a b (mdF c' k' a' b' y.s.m).snd).fst.fst, i6 (mdF c k a b (mdF c' k' a' b' y.s.m).snd).fst.snd]) n6
    n6))))) (N6 (rw6 ρ 2) (N6 (SV.c (SC.ptr 32 0)) (N6 (rw6 ρ 8) (N6 (rw6 ρ 16) (N6 (rw6 ρ 32) (lf6 (rw6 ρ 64)) n6) (N6 (SV.c (SC.ptr 31 0)) n6 n6)) (N6 (rw6 ρ 24) (N6 (SV.c (SC.boo
    true false)) (lf6 (rw6 ρ 72)) n6) (N6 (SV.c (SC.ptr 67 0)) n6 n6))) (N6 (SV.c (SC.ptr 75 0)) (N6 (rw6 ρ 20) (N6 (rw6 ρ 36) (lf6 (rw6 ρ 68)) n6) (N6 (SV.agg [i6 (mdF c k a b
    y.s.m).fst.fst, i6 (mdF c k a b y.s.m).fst.snd]) n6 n6)) (N6 (rw6 ρ 28) (lf6 (rw6 ρ 44)) (lf6 (SV.agg [i6 c, i6 k, i6 a, i6 b]))))) (N6 (rw6 ρ 6) (N6 (SV.c (SC.ptr 67 0)) (N6 (rw6 ρ
    18) (N6 (rw6 ρ 34) (lf6 (rw6 ρ 66)) n6) (N6 (SV.c (SC.ptr 31 0)) n6 n6)) (N6 (rw6 ρ 26) (N6 (rw6 ρ 42) (lf6 (rw6 ρ 74)) n6) (N6 (SV.agg [i6 (mdF c' k' a' b' y.s.m).fst.fst, i6 (mdF
    c' k' a' b' y.s.m).fst.snd]) n6 n6))) (N6 (SV.c (SC.ptr 85 0)) (N6 (rw6 ρ 22) (N6 (SV.c (i6 (↑len : Int))) (lf6 (rw6 ρ 70)) n6) (lf6 (SV.agg [i6 c', i6 k', i6 a', i6 b']))) (N6 (rw6
    ρ 30) (lf6 (rw6 ρ 46)) (lf6 (rw6 ρ 62))))))) []) (Mem.mk [(31, SO.ext (ob6 (mdF c' k' a' b' (mdF c k a b y.s.m).snd).snd)), (32, SO.cells [i6 c, i6 k, i6 a, i6 b] (OfNat.ofNat 26)),
    (33, SO.cells [i6 c', i6 k', i6 a', i6 b'] (OfNat.ofNat 26)), (0, SO.seen W), (67, SO.ext (ob6 (mdF c k a b (mdF c' k' a' b' y.s.m).snd).snd)), (74, SO.cells [i6 (mdF c k a b
    y.s.m).fst.fst, i6 (mdF c k a b y.s.m).fst.snd] 33), (75, SO.cells [i6 (mdF c' k' a' b' (mdF c k a b y.s.m).snd).fst.fst, i6 (mdF c' k' a' b' (mdF c k a b y.s.m).snd).fst.snd] 33),
    (84, SO.cells [i6 (mdF c' k' a' b' y.s.m).fst.fst, i6 (mdF c' k' a' b' y.s.m).fst.snd] 33), (85, SO.cells [i6 (mdF c k a b (mdF c' k' a' b' y.s.m).snd).fst.fst, i6 (mdF c k a b (mdF
    c' k' a' b' y.s.m).snd).fst.snd] 33)] 88) Scr.nil.t.t)) ∧ True → c = c ∧ k = k ∧ a = a ∧ b = b ∧ c' = c' ∧ k' = k' ∧ a' = a' ∧ b' = b' ∧ W = W ∧ ((MdOk y.s.m ∧ (y.s.m.nilq = true →
    y.s.m.q = [])) ∧ c = c ∧ k = k ∧ a = a ∧ b = b ∧ c' = c' ∧ k' = k' ∧ a' = a' ∧ b' = b' ∧ W = W ∧ ((MdOk (mdF c' k' a' b' y.s.m).snd ∧ ((mdF c' k' a' b' y.s.m).snd.nilq = true → (mdF
    c' k' a' b' y.s.m).snd.q = [])) ∧ c = c ∧ k = k ∧ a = a ∧ b = b ∧ c' = c' ∧ k' = k' ∧ a' = a' ∧ b' = b' ∧ W = W ∧ (c = c ∧ k = k ∧ a = a ∧ b = b ∧ c' = c' ∧ k' = k' ∧ a' = a' ∧ b' =
    b' ∧ W = W ∧ X1 ∧ True) ∧ True) ∧ True) ∧ True) (K (SF.mk 75 (N6 (rw6 ρ 0) (N6 (rw6 ρ 1) (N6 (rw6 ρ 3) (N6 (SV.c (SC.ptr 31 0)) (N6 (rw6 ρ 15) (N6 (rw6 ρ 31) (lf6 (rw6 ρ 63)) n6)
    (lf6 (rw6 ρ 47))) (N6 (rw6 ρ 23) (N6 (SV.c (i6 (↑y.i : Int))) (lf6 (rw6 ρ 71)) n6) (N6 (SV.agg [i6 (mdF c' k' a' b' (mdF c k a b y.s.m).snd).fst.fst, i6 (mdF c' k' a' b' (mdF c k a
    b y.s.m).snd).fst.snd]) n6 n6))) (N6 (SV.c (SC.ptr 74 0)) (N6 (rw6 ρ 19) (N6 (rw6 ρ 35) (lf6 (rw6 ρ 67)) n6) (lf6 (SV.agg [i6 c, i6 k, i6 a, i6 b]))) (N6 (rw6 ρ 27) (lf6 (rw6 ρ 43))
    (N6 (SV.c (SC.ptr 67 0)) n6 n6)))) (N6 (SV.c (SC.ptr 33 0)) (N6 (rw6 ρ 9) (N6 (rw6 ρ 17) (N6 (rw6 ρ 33) (lf6 (rw6 ρ 65)) n6) (N6 (SV.c (SC.ptr 67 0)) n6 n6)) (N6 (rw6 ρ 25) (N6 (rw6
    ρ 41) (lf6 (rw6 ρ 73)) n6) (lf6 (SV.agg [i6 c', i6 k', i6 a', i6 b'])))) (N6 (SV.c (SC.ptr 84 0)) (N6 (rw6 ρ 21) (N6 (SV.c (SC.sliv p false len cap)) (lf6 (rw6 ρ 69)) n6) (N6 (SV.c
    (SC.ptr 31 0)) n6 n6)) (N6 (rw6 ρ 29) (lf6 (rw6 ρ 45)) (N6 (SV.agg [i6 (mdF c k a b (mdF c' k' a' b' y.s.m).snd).fst.fst, i6 (mdF c k a b (mdF c' k' a' b' y.s.m).snd).fst.snd]) n6
    n6))))) (N6 (rw6 ρ 2) (N6 (SV.c (SC.ptr 32 0)) (N6 (rw6 ρ 8) (N6 (rw6 ρ 16) (N6 (rw6 ρ 32) (lf6 (rw6 ρ 64)) n6) (N6 (SV.c (SC.ptr 31 0)) n6 n6)) (N6 (rw6 ρ 24) (N6 (SV.c (SC.boo
    true false)) (lf6 (rw6 ρ 72)) n6) (N6 (SV.c (SC.ptr 67 0)) n6 n6))) (N6 (SV.c (SC.ptr 75 0)) (N6 (rw6 ρ 20) (N6 (rw6 ρ 36) (lf6 (rw6 ρ 68)) n6) (N6 (SV.agg [i6 (mdF c k a b
    y.s.m).fst.fst, i6 (mdF c k a b y.s.m).fst.snd]) n6 n6)) (N6 (rw6 ρ 28) (lf6 (rw6 ρ 44)) (lf6 (SV.agg [i6 c, i6 k, i6 a, i6 b]))))) (N6 (rw6 ρ 6) (N6 (SV.c (SC.ptr 67 0)) (N6 (rw6 ρ
    18) (N6 (rw6 ρ 34) (lf6 (rw6 ρ 66)) n6) (N6 (SV.c (SC.ptr 31 0)) n6 n6)) (N6 (rw6 ρ 26) (N6 (rw6 ρ 42) (lf6 (rw6 ρ 74)) n6) (N6 (SV.agg [i6 (mdF c' k' a' b' y.s.m).fst.fst, i6 (mdF
    c' k' a' b' y.s.m).fst.snd]) n6 n6))) (N6 (SV.c (SC.ptr 85 0)) (N6 (rw6 ρ 22) (N6 (SV.c (i6 (↑len : Int))) (lf6 (rw6 ρ 70)) n6) (lf6 (SV.agg [i6 c', i6 k', i6 a', i6 b']))) (N6 (rw6
    ρ 30) (lf6 (rw6 ρ 46)) (lf6 (rw6 ρ 62))))))) []) (Mem.mk [(31, SO.ext (ob6 (mdF c' k' a' b' (mdF c k a b y.s.m).snd).snd)), (32, SO.cells [i6 c, i6 k, i6 a, i6 b] (OfNat.ofNat 26)),
    (33, SO.cells [i6 c', i6 k', i6 a', i6 b'] (OfNat.ofNat 26)), (0, SO.seen W), (67, SO.ext (ob6 (mdF c k a b (mdF c' k' a' b' y.s.m).snd).snd)), (74, SO.cells [i6 (mdF c k a b
    y.s.m).fst.fst, i6 (mdF c k a b y.s.m).fst.snd] 33), (75, SO.cells [i6 (mdF c' k' a' b' (mdF c k a b y.s.m).snd).fst.fst, i6 (mdF c' k' a' b' (mdF c k a b y.s.m).snd).fst.snd] 33),
    (84, SO.cells [i6 (mdF c' k' a' b' y.s.m).fst.fst, i6 (mdF c' k' a' b' y.s.m).fst.snd] 33), (85, SO.cells [i6 (mdF c k a b (mdF c' k' a' b' y.s.m).snd).fst.fst, i6 (mdF c k a b (mdF
    c' k' a' b' y.s.m).snd).fst.snd] 33)] 88) Scr.nil.t.t)) ∧ True) (K (SF.mk 75 (N6 (rw6 ρ 0) (N6 (rw6 ρ 1) (N6 (rw6 ρ 3) (N6 (SV.c (SC.ptr 31 0)) (N6 (rw6 ρ 15) (N6 (rw6 ρ 31) (lf6
    (rw6 ρ 63)) n6) (lf6 (rw6 ρ 47))) (N6 (rw6 ρ 23) (N6 (SV.c (i6 (↑y.i : Int))) (lf6 (rw6 ρ 71)) n6) (N6 (SV.agg [i6 (mdF c' k' a' b' (mdF c k a b y.s.m).snd).fst.fst, i6 (mdF c' k'
    a' b' (mdF c k a b y.s.m).snd).fst.snd]) n6 n6))) (N6 (SV.c (SC.ptr 74 0)) (N6 (rw6 ρ 19) (N6 (rw6 ρ 35) (lf6 (rw6 ρ 67)) n6) (lf6 (SV.agg [i6 c, i6 k, i6 a, i6 b]))) (N6 (rw6 ρ 27)
    (lf6 (rw6 ρ 43)) (N6 (SV.c (SC.ptr 67 0)) n6 n6)))) (N6 (SV.c (SC.ptr 33 0)) (N6 (rw6 ρ 9) (N6 (rw6 ρ 17) (N6 (rw6 ρ 33) (lf6 (rw6 ρ 65)) n6) (N6 (SV.c (SC.ptr 67 0)) n6 n6)) (N6
    (rw6 ρ 25) (N6 (rw6 ρ 41) (lf6 (rw6 ρ 73)) n6) (lf6 (SV.agg [i6 c', i6 k', i6 a', i6 b'])))) (N6 (SV.c (SC.ptr 84 0)) (N6 (rw6 ρ 21) (N6 (SV.c (SC.sliv p false len cap)) (lf6 (rw6 ρ
    69)) n6) (N6 (SV.c (SC.ptr 31 0)) n6 n6)) (N6 (rw6 ρ 29) (lf6 (rw6 ρ 45)) (N6 (SV.agg [i6 (mdF c k a b (mdF c' k' a' b' y.s.m).snd).fst.fst, i6 (mdF c k a b (mdF c' k' a' b'
    y.s.m).snd).fst.snd]) n6 n6))))) (N6 (rw6 ρ 2) (N6 (SV.c (SC.ptr 32 0)) (N6 (rw6 ρ 8) (N6 (rw6 ρ 16) (N6 (rw6 ρ 32) (lf6 (rw6 ρ 64)) n6) (N6 (SV.c (SC.ptr 31 0)) n6 n6)) (N6 (rw6 ρ
    24) (N6 (SV.c (SC.boo true false)) (lf6 (rw6 ρ 72)) n6) (N6 (SV.c (SC.ptr 67 0)) n6 n6))) (N6 (SV.c (SC.ptr 75 0)) (N6 (rw6 ρ 20) (N6 (rw6 ρ 36) (lf6 (rw6 ρ 68)) n6) (N6 (SV.agg [i6
    (mdF c k a b y.s.m).fst.fst, i6 (mdF c k a b y.s.m).fst.snd]) n6 n6)) (N6 (rw6 ρ 28) (lf6 (rw6 ρ 44)) (lf6 (SV.agg [i6 c, i6 k, i6 a, i6 b]))))) (N6 (rw6 ρ 6) (N6 (SV.c (SC.ptr 67
    0)) (N6 (rw6 ρ 18) (N6 (rw6 ρ 34) (lf6 (rw6 ρ 66)) n6) (N6 (SV.c (SC.ptr 31 0)) n6 n6)) (N6 (rw6 ρ 26) (N6 (rw6 ρ 42) (lf6 (rw6 ρ 74)) n6) (N6 (SV.agg [i6 (mdF c' k' a' b'
    y.s.m).fst.fst, i6 (mdF c' k' a' b' y.s.m).fst.snd]) n6 n6))) (N6 (SV.c (SC.ptr 85 0)) (N6 (rw6 ρ 22) (N6 (SV.c (i6 (↑len : Int))) (lf6 (rw6 ρ 70)) n6) (lf6 (SV.agg [i6 c', i6 k',
    i6 a', i6 b']))) (N6 (rw6 ρ 30) (lf6 (rw6 ρ 46)) (lf6 (rw6 ρ 62))))))) []) (Mem.mk [(31, SO.ext (ob6 (mdF c' k' a' b' (mdF c k a b y.s.m).snd).snd)), (32, SO.cells [i6 c, i6 k, i6
    a, i6 b] (OfNat.ofNat 26)), (33, SO.cells [i6 c', i6 k', i6 a', i6 b'] (OfNat.ofNat 26)), (0, SO.seen W), (67, SO.ext (ob6 (mdF c k a b (mdF c' k' a' b' y.s.m).snd).snd)), (74,
    SO.cells [i6 (mdF c k a b y.s.m).fst.fst, i6 (mdF c k a b y.s.m).fst.snd] 33), (75, SO.cells [i6 (mdF c' k' a' b' (mdF c k a b y.s.m).snd).fst.fst, i6 (mdF c' k' a' b' (mdF c k a b
    y.s.m).snd).fst.snd] 33), (84, SO.cells [i6 (mdF c' k' a' b' y.s.m).fst.fst, i6 (mdF c' k' a' b' y.s.m).fst.snd] 33), (85, SO.cells [i6 (mdF c k a b (mdF c' k' a' b'
    y.s.m).snd).fst.fst, i6 (mdF c k a b (mdF c' k' a' b' y.s.m).snd).fst.snd] 33)] 88) Scr.nil.t.t)) ∧ True) ∧ True) ∧ True) ∧ True) ∧ (∀ (K : KO XM6), (fun X0 : Prop => c = c ∧ k = k
    ∧ a = a ∧ b = b ∧ c' = c' ∧ k' = k' ∧ a' = a' ∧ b' = b' ∧ W = W ∧ (c = c ∧ k = k ∧ a = a ∧ b = b ∧ c' = c' ∧ k' = k' ∧ a' = a' ∧ b' = b' ∧ W = W ∧ (c = c ∧ k = k ∧ a = a ∧ b = b ∧
    c' = c' ∧ k' = k' ∧ a' = a' ∧ b' = b' ∧ W = W ∧ X0 ∧ True) ∧ True) ∧ True → c = c ∧ k = k ∧ a = a ∧ b = b ∧ c' = c' ∧ k' = k' ∧ a' = a' ∧ b' = b' ∧ W = W ∧ (c = c ∧ k = k ∧ a = a ∧
    b = b ∧ c' = c' ∧ k' = k' ∧ a' = a' ∧ b' = b' ∧ W = W ∧ (c = c ∧ k = k ∧ a = a ∧ b = b ∧ c' = c' ∧ k' = k' ∧ a' = a' ∧ b' = b' ∧ W = W ∧ X0 ∧ True) ∧ True) ∧ True) (K (SF.mk 75 (N6
    (rw6 ρ 0) (N6 (rw6 ρ 1) (N6 (rw6 ρ 3) (N6 (SV.c (SC.ptr 31 0)) (N6 (rw6 ρ 15) (N6 (rw6 ρ 31) (lf6 (rw6 ρ 63)) n6) (lf6 (rw6 ρ 47))) (N6 (rw6 ρ 23) (N6 (SV.c (i6 (↑y.i : Int))) (lf6
    (rw6 ρ 71)) n6) (N6 (SV.agg [i6 (mdF c' k' a' b' (mdF c k a b y.s.m).snd).fst.fst, i6 (mdF c' k' a' b' (mdF c k a b y.s.m).snd).fst.snd]) n6 n6))) (N6 (SV.c (SC.ptr 74 0)) (N6 (rw6
    ρ 19) (N6 (rw6 ρ 35) (lf6 (rw6 ρ 67)) n6) (lf6 (SV.agg [i6 c, i6 k, i6 a, i6 b]))) (N6 (rw6 ρ 27) (lf6 (rw6 ρ 43)) (lf6 (rw6 ρ 59))))) (N6 (SV.c (SC.ptr 33 0)) (N6 (rw6 ρ 9) (N6
    (rw6 ρ 17) (N6 (rw6 ρ 33) (lf6 (rw6 ρ 65)) n6) (N6 (SV.c (SC.ptr 67 0)) n6 n6)) (N6 (rw6 ρ 25) (N6 (rw6 ρ 41) (lf6 (rw6 ρ 73)) n6) (lf6 (rw6 ρ 57)))) (N6 (rw6 ρ 13) (N6 (rw6 ρ 21)
    (N6 (SV.c (SC.sliv p false len cap)) (lf6 (rw6 ρ 69)) n6) (N6 (SV.c (SC.ptr 31 0)) n6 n6)) (N6 (rw6 ρ 29) (lf6 (rw6 ρ 45)) (lf6 (rw6 ρ 61)))))) (N6 (rw6 ρ 2) (N6 (SV.c (SC.ptr 32
    0)) (N6 (rw6 ρ 8) (N6 (rw6 ρ 16) (N6 (rw6 ρ 32) (lf6 (rw6 ρ 64)) n6) (N6 (SV.c (SC.ptr 31 0)) n6 n6)) (N6 (rw6 ρ 24) (N6 (SV.c (SC.boo true false)) (lf6 (rw6 ρ 72)) n6) (lf6 (rw6 ρ
    56)))) (N6 (SV.c (SC.ptr 75 0)) (N6 (rw6 ρ 20) (N6 (rw6 ρ 36) (lf6 (rw6 ρ 68)) n6) (N6 (SV.agg [i6 (mdF c k a b y.s.m).fst.fst, i6 (mdF c k a b y.s.m).fst.snd]) n6 n6)) (N6 (rw6 ρ
    28) (lf6 (rw6 ρ 44)) (lf6 (rw6 ρ 60))))) (N6 (rw6 ρ 6) (N6 (SV.c (SC.ptr 67 0)) (N6 (rw6 ρ 18) (N6 (rw6 ρ 34) (lf6 (rw6 ρ 66)) n6) (N6 (SV.c (SC.ptr 31 0)) n6 n6)) (N6 (rw6 ρ 26)
    (N6 (rw6 ρ 42) (lf6 (rw6 ρ 74)) n6) (lf6 (rw6 ρ 58)))) (N6 (rw6 ρ 14) (N6 (rw6 ρ 22) (N6 (SV.c (i6 (↑len : Int))) (lf6 (rw6 ρ 70)) n6) (lf6 (SV.agg [i6 c', i6 k', i6 a', i6 b'])))
    (N6 (rw6 ρ 30) (lf6 (rw6 ρ 46)) (lf6 (rw6 ρ 62))))))) []) (Mem.mk [(31, SO.ext (ob6 (mdF c' k' a' b' (mdF c k a b y.s.m).snd).snd)), (32, SO.cells [i6 c, i6 k, i6 a, i6 b]
    (OfNat.ofNat 26)), (33, SO.cells [i6 c', i6 k', i6 a', i6 b'] (OfNat.ofNat 26)), (0, SO.seen W), (67, SO.ext (HO.obj [] y.s.m)), (74, SO.cells [i6 (mdF c k a b y.s.m).fst.fst, i6
    (mdF c k a b y.s.m).fst.snd] 33), (75, SO.cells [i6 (mdF c' k' a' b' (mdF c k a b y.s.m).snd).fst.fst, i6 (mdF c' k' a' b' (mdF c k a b y.s.m).snd).fst.snd] 33)] 78) Scr.nil.t.t)) ∧
    True) ∧ (∀ (K : KO XM6), (fun X0 : Prop => (MdOk (mdF c k a b y.s.m).snd ∧ ((mdF c k a b y.s.m).snd.nilq = true → (mdF c k a b y.s.m).snd.q = [])) ∧ c = c ∧ k = k ∧ a = a ∧ b = b ∧
    c' = c' ∧ k' = k' ∧ a' = a' ∧ b' = b' ∧ W = W ∧ (c = c ∧ k = k ∧ a = a ∧ b = b ∧ c' = c' ∧ k' = k' ∧ a' = a' ∧ b' = b' ∧ W = W ∧ (c = c ∧ k = k ∧ a = a ∧ b = b ∧ c' = c' ∧ k' = k' ∧
    a' = a' ∧ b' = b' ∧ W = W ∧ (c = c ∧ k = k ∧ a = a ∧ b = b ∧ c' = c' ∧ k' = k' ∧ a' = a' ∧ b' = b' ∧ W = W ∧ X0 ∧ True) ∧ True) ∧ True) ∧ (∀ (K : KO XM6), (fun X1 : Prop => c = c ∧
    k = k ∧ a = a ∧ b = b ∧ c' = c' ∧ k' = k' ∧ a' = a' ∧ b' = b' ∧ W = W ∧ (c = c ∧ k = k ∧ a = a ∧ b = b ∧ c' = c' ∧ k' = k' ∧ a' = a' ∧ b' = b' ∧ W = W ∧ (c = c ∧ k = k ∧ a = a ∧ b =
    b ∧ c' = c' ∧ k' = k' ∧ a' = a' ∧ b' = b' ∧ W = W ∧ X1 ∧ True) ∧ True) ∧ True → c = c ∧ k = k ∧ a = a ∧ b = b ∧ c' = c' ∧ k' = k' ∧ a' = a' ∧ b' = b' ∧ W = W ∧ (c = c ∧ k = k ∧ a =
    a ∧ b = b ∧ c' = c' ∧ k' = k' ∧ a' = a' ∧ b' = b' ∧ W = W ∧ (c = c ∧ k = k ∧ a = a ∧ b = b ∧ c' = c' ∧ k' = k' ∧ a' = a' ∧ b' = b' ∧ W = W ∧ X1 ∧ True) ∧ True) ∧ True) (K (SF.mk 75
    (N6 (rw6 ρ 0) (N6 (rw6 ρ 1) (N6 (rw6 ρ 3) (N6 (SV.c (SC.ptr 31 0)) (N6 (rw6 ρ 15) (N6 (rw6 ρ 31) (lf6 (rw6 ρ 63)) n6) (lf6 (rw6 ρ 47))) (N6 (rw6 ρ 23) (N6 (SV.c (i6 (↑y.i : Int)))
    (lf6 (rw6 ρ 71)) n6) (N6 (SV.agg [i6 (mdF c' k' a' b' (mdF c k a b y.s.m).snd).fst.fst, i6 (mdF c' k' a' b' (mdF c k a b y.s.m).snd).fst.snd]) n6 n6))) (N6 (SV.c (SC.ptr 74 0)) (N6
    (rw6 ρ 19) (N6 (rw6 ρ 35) (lf6 (rw6 ρ 67)) n6) (lf6 (SV.agg [i6 c, i6 k, i6 a, i6 b]))) (N6 (rw6 ρ 27) (lf6 (rw6 ρ 43)) (lf6 (rw6 ρ 59))))) (N6 (SV.c (SC.ptr 33 0)) (N6 (rw6 ρ 9)
    (N6 (rw6 ρ 17) (N6 (rw6 ρ 33) (lf6 (rw6 ρ 65)) n6) (N6 (SV.c (SC.ptr 67 0)) n6 n6)) (N6 (rw6 ρ 25) (N6 (rw6 ρ 41) (lf6 (rw6 ρ 73)) n6) (lf6 (rw6 ρ 57)))) (N6 (rw6 ρ 13) (N6 (rw6 ρ
    21) (N6 (SV.c (SC.sliv p false len cap)) (lf6 (rw6 ρ 69)) n6) (N6 (SV.c (SC.ptr 31 0)) n6 n6)) (N6 (rw6 ρ 29) (lf6 (rw6 ρ 45)) (lf6 (rw6 ρ 61)))))) (N6 (rw6 ρ 2) (N6 (SV.c (SC.ptr
    32 0)) (N6 (rw6 ρ 8) (N6 (rw6 ρ 16) (N6 (rw6 ρ 32) (lf6 (rw6 ρ 64)) n6) (N6 (SV.c (SC.ptr 31 0)) n6 n6)) (N6 (rw6 ρ 24) (N6 (SV.c (SC.boo true false)) (lf6 (rw6 ρ 72)) n6) (lf6 (rw6
    ρ 56)))) (N6 (SV.c (SC.ptr 75 0)) (N6 (rw6 ρ 20) (N6 (rw6 ρ 36) (lf6 (rw6 ρ 68)) n6) (N6 (SV.agg [i6 (mdF c k a b y.s.m).fst.fst, i6 (mdF c k a b y.s.m).fst.snd]) n6 n6)) (N6 (rw6 ρ
    28) (lf6 (rw6 ρ 44)) (lf6 (rw6 ρ 60))))) (N6 (rw6 ρ 6) (N6 (SV.c (SC.ptr 67 0)) (N6 (rw6 ρ 18) (N6 (rw6 ρ 34) (lf6 (rw6 ρ 66)) n6) (N6 (SV.c (SC.ptr 31 0)) n6 n6)) (N6 (rw6 ρ 26)
    (N6 (rw6 ρ 42) (lf6 (rw6 ρ 74)) n6) (lf6 (rw6 ρ 58)))) (N6 (rw6 ρ 14) (N6 (rw6 ρ 22) (N6 (SV.c (i6 (↑len : Int))) (lf6 (rw6 ρ 70)) n6) (lf6 (SV.agg [i6 c', i6 k', i6 a', i6 b'])))
    (N6 (rw6 ρ 30) (lf6 (rw6 ρ 46)) (lf6 (rw6 ρ 62))))))) []) (Mem.mk [(31, SO.ext (ob6 (mdF c' k' a' b' (mdF c k a b y.s.m).snd).snd)), (32, SO.cells [i6 c, i6 k, i6 a, i6 b]
    (OfNat.ofNat 26)), (33, SO.cells [i6 c', i6 k', i6 a', i6 b'] (OfNat.ofNat 26)), (0, SO.seen W), (67, SO.ext (HO.obj [] y.s.m)), (74, SO.cells [i6 (mdF c k a b y.s.m).fst.fst, i6
    (mdF c k a b y.s.m).fst.snd] 33), (75, SO.cells [i6 (mdF c' k' a' b' (mdF c k a b y.s.m).snd).fst.fst, i6 (mdF c' k' a' b' (mdF c k a b y.s.m).snd).fst.snd] 33)] 78) Scr.nil.t.t)) ∧
    True → c = c ∧ k = k ∧ a = a ∧ b = b ∧ c' = c' ∧ k' = k' ∧ a' = a' ∧ b' = b' ∧ W = W ∧ ((MdOk (mdF c k a b y.s.m).snd ∧ ((mdF c k a b y.s.m).snd.nilq = true → (mdF c k a b
    y.s.m).snd.q = [])) ∧ c = c ∧ k = k ∧ a = a ∧ b = b ∧ c' = c' ∧ k' = k' ∧ a' = a' ∧ b' = b' ∧ W = W ∧ (c = c ∧ k = k ∧ a = a ∧ b = b ∧ c' = c' ∧ k' = k' ∧ a' = a' ∧ b' = b' ∧ W = W
    ∧ (c = c ∧ k = k ∧ a = a ∧ b = b ∧ c' = c' ∧ k' = k' ∧ a' = a' ∧ b' = b' ∧ W = W ∧ X0 ∧ True) ∧ True) ∧ True) ∧ (∀ (K : KO XM6), (fun X1 : Prop => (MdOk (mdF c k a b y.s.m).snd ∧
    ((mdF c k a b y.s.m).snd.nilq = true → (mdF c k a b y.s.m).snd.q = [])) ∧ c = c ∧ k = k ∧ a = a ∧ b = b ∧ c' = c' ∧ k' = k' ∧ a' = a' ∧ b' = b' ∧ W = W ∧ (c = c ∧ k = k ∧ a = a ∧ b
    = b ∧ c' = c' ∧ k' = k' ∧ a' = a' ∧ b' = b' ∧ W = W ∧ (c = c ∧ k = k ∧ a = a ∧ b = b ∧ c' = c' ∧ k' = k' ∧ a' = a' ∧ b' = b' ∧ W = W ∧ X1 ∧ True) ∧ True) ∧ True → c = c ∧ k = k ∧ a
    = a ∧ b = b ∧ c' = c' ∧ k' = k' ∧ a' = a' ∧ b' = b' ∧ W = W ∧ ((MdOk (mdF c k a b y.s.m).snd ∧ ((mdF c k a b y.s.m).snd.nilq = true → (mdF c k a b y.s.m).snd.q = [])) ∧ c = c ∧ k =
    k ∧ a = a ∧ b = b ∧ c' = c' ∧ k' = k' ∧ a' = a' ∧ b' = b' ∧ W = W ∧ (c = c ∧ k = k ∧ a = a ∧ b = b ∧ c' = c' ∧ k' = k' ∧ a' = a' ∧ b' = b' ∧ W = W ∧ X1 ∧ True) ∧ True) ∧ True) (K
    (SF.mk 75 (N6 (rw6 ρ 0) (N6 (rw6 ρ 1) (N6 (rw6 ρ 3) (N6 (SV.c (SC.ptr 31 0)) (N6 (rw6 ρ 15) (N6 (rw6 ρ 31) (lf6 (rw6 ρ 63)) n6) (lf6 (rw6 ρ 47))) (N6 (rw6 ρ 23) (N6 (SV.c (i6 (↑y.i
    : Int))) (lf6 (rw6 ρ 71)) n6) (N6 (SV.agg [i6 (mdF c' k' a' b' (mdF c k a b y.s.m).snd).fst.fst, i6 (mdF c' k' a' b' (mdF c k a b y.s.m).snd).fst.snd]) n6 n6))) (N6 (SV.c (SC.ptr 74
    0)) (N6 (rw6 ρ 19) (N6 (rw6 ρ 35) (lf6 (rw6 ρ 67)) n6) (lf6 (SV.agg [i6 c, i6 k, i6 a, i6 b]))) (N6 (rw6 ρ 27) (lf6 (rw6 ρ 43)) (lf6 (rw6 ρ 59))))) (N6 (SV.c (SC.ptr 33 0)) (N6 (rw6
    ρ 9) (N6 (rw6 ρ 17) (N6 (rw6 ρ 33) (lf6 (rw6 ρ 65)) n6) (N6 (SV.c (SC.ptr 67 0)) n6 n6)) (N6 (rw6 ρ 25) (N6 (rw6 ρ 41) (lf6 (rw6 ρ 73)) n6) (lf6 (rw6 ρ 57)))) (N6 (rw6 ρ 13) (N6
    (rw6 ρ 21) (N6 (SV.c (SC.sliv p false len cap)) (lf6 (rw6 ρ 69)) n6) (N6 (SV.c (SC.ptr 31 0)) n6 n6)) (N6 (rw6 ρ 29) (lf6 (rw6 ρ 45)) (lf6 (rw6 ρ 61)))))) (N6 (rw6 ρ 2) (N6 (SV.c
    (SC.ptr 32 0)) (N6 (rw6 ρ 8) (N6 (rw6 ρ 16) (N6 (rw6 ρ 32) (lf6 (rw6 ρ 64)) n6) (N6 (SV.c (SC.ptr 31 0)) n6 n6)) (N6 (rw6 ρ 24) (N6 (SV.c (SC.boo true false)) (lf6 (rw6 ρ 72)) n6)
    (lf6 (rw6 ρ 56)))) (N6 (SV.c (SC.ptr 75 0)) (N6 (rw6 ρ 20) (N6 (rw6 ρ 36) (lf6 (rw6 ρ 68)) n6) (N6 (SV.agg [i6 (mdF c k a b y.s.m).fst.fst, i6 (mdF c k a b y.s.m).fst.snd]) n6 n6))
    (N6 (rw6 ρ 28) (lf6 (rw6 ρ 44)) (lf6 (rw6 ρ 60))))) (N6 (rw6 ρ 6) (N6 (SV.c (SC.ptr 67 0)) (N6 (rw6 ρ 18) (N6 (rw6 ρ 34) (lf6 (rw6 ρ 66)) n6) (N6 (SV.c (SC.ptr 31 0)) n6 n6)) (N6
    (rw6 ρ 26) (N6 (rw6 ρ 42) (lf6 (rw6 ρ 74)) n6) (lf6 (rw6 ρ 58)))) (N6 (rw6 ρ 14) (N6 (rw6 ρ 22) (N6 (SV.c (i6 (↑len : Int))) (lf6 (rw6 ρ 70)) n6) (lf6 (SV.agg [i6 c', i6 k', i6 a',
    i6 b']))) (N6 (rw6 ρ 30) (lf6 (rw6 ρ 46)) (lf6 (rw6 ρ 62))))))) []) (Mem.mk [(31, SO.ext (ob6 (mdF c' k' a' b' (mdF c k a b y.s.m).snd).snd)), (32, SO.cells [i6 c, i6 k, i6 a, i6 b]
    (OfNat.ofNat 26)), (33, SO.cells [i6 c', i6 k', i6 a', i6 b'] (OfNat.ofNat 26)), (0, SO.seen W), (67, SO.ext (HO.obj [] y.s.m)), (74, SO.cells [i6 (mdF c k a b y.s.m).fst.fst, i6
    (mdF c k a b y.s.m).fst.snd] 33), (75, SO.cells [i6 (mdF c' k' a' b' (mdF c k a b y.s.m).snd).fst.fst, i6 (mdF c' k' a' b' (mdF c k a b y.s.m).snd).fst.snd] 33)] 78) Scr.nil.t.t)) ∧
    True) (K (SF.mk 75 (N6 (rw6 ρ 0) (N6 (rw6 ρ 1) (N6 (rw6 ρ 3) (N6 (SV.c (SC.ptr 31 0)) (N6 (rw6 ρ 15) (N6 (rw6 ρ 31) (lf6 (rw6 ρ 63)) n6) (lf6 (rw6 ρ 47))) (N6 (rw6 ρ 23) (N6 (SV.c
    (i6 (↑y.i : Int))) (lf6 (rw6 ρ 71)) n6) (N6 (SV.agg [i6 (mdF c' k' a' b' (mdF c k a b y.s.m).snd).fst.fst, i6 (mdF c' k' a' b' (mdF c k a b y.s.m).snd).fst.snd]) n6 n6))) (N6 (SV.c
    (SC.ptr 74 0)) (N6 (rw6 ρ 19) (N6 (rw6 ρ 35) (lf6 (rw6 ρ 67)) n6) (lf6 (SV.agg [i6 c, i6 k, i6 a, i6 b]))) (N6 (rw6 ρ 27) (lf6 (rw6 ρ 43)) (lf6 (rw6 ρ 59))))) (N6 (SV.c (SC.ptr 33
    0)) (N6 (rw6 ρ 9) (N6 (rw6 ρ 17) (N6 (rw6 ρ 33) (lf6 (rw6 ρ 65)) n6) (N6 (SV.c (SC.ptr 67 0)) n6 n6)) (N6 (rw6 ρ 25) (N6 (rw6 ρ 41) (lf6 (rw6 ρ 73)) n6) (lf6 (rw6 ρ 57)))) (N6 (rw6
    ρ 13) (N6 (rw6 ρ 21) (N6 (SV.c (SC.sliv p false len cap)) (lf6 (rw6 ρ 69)) n6) (N6 (SV.c (SC.ptr 31 0)) n6 n6)) (N6 (rw6 ρ 29) (lf6 (rw6 ρ 45)) (lf6 (rw6 ρ 61)))))) (N6 (rw6 ρ 2)
    (N6 (SV.c (SC.ptr 32 0)) (N6 (rw6 ρ 8) (N6 (rw6 ρ 16) (N6 (rw6 ρ 32) (lf6 (rw6 ρ 64)) n6) (N6 (SV.c (SC.ptr 31 0)) n6 n6)) (N6 (rw6 ρ 24) (N6 (SV.c (SC.boo true false)) (lf6 (rw6 ρ
    72)) n6) (lf6 (rw6 ρ 56)))) (N6 (SV.c (SC.ptr 75 0)) (N6 (rw6 ρ 20) (N6 (rw6 ρ 36) (lf6 (rw6 ρ 68)) n6) (N6 (SV.agg [i6 (mdF c k a b y.s.m).fst.fst, i6 (mdF c k a b y.s.m).fst.snd])
    n6 n6)) (N6 (rw6 ρ 28) (lf6 (rw6 ρ 44)) (lf6 (rw6 ρ 60))))) (N6 (rw6 ρ 6) (N6 (SV.c (SC.ptr 67 0)) (N6 (rw6 ρ 18) (N6 (rw6 ρ 34) (lf6 (rw6 ρ 66)) n6) (N6 (SV.c (SC.ptr 31 0)) n6
    n6)) (N6 (rw6 ρ 26) (N6 (rw6 ρ 42) (lf6 (rw6 ρ 74)) n6) (lf6 (rw6 ρ 58)))) (N6 (rw6 ρ 14) (N6 (rw6 ρ 22) (N6 (SV.c (i6 (↑len : Int))) (lf6 (rw6 ρ 70)) n6) (lf6 (SV.agg [i6 c', i6
    k', i6 a', i6 b']))) (N6 (rw6 ρ 30) (lf6 (rw6 ρ 46)) (lf6 (rw6 ρ 62))))))) []) (Mem.mk [(31, SO.ext (ob6 (mdF c' k' a' b' (mdF c k a b y.s.m).snd).snd)), (32, SO.cells [i6 c, i6 k,
    i6 a, i6 b] (OfNat.ofNat 26)), (33, SO.cells [i6 c', i6 k', i6 a', i6 b'] (OfNat.ofNat 26)), (0, SO.seen W), (67, SO.ext (HO.obj [] y.s.m)), (74, SO.cells [i6 (mdF c k a b
    y.s.m).fst.fst, i6 (mdF c k a b y.s.m).fst.snd] 33), (75, SO.cells [i6 (mdF c' k' a' b' (mdF c k a b y.s.m).snd).fst.fst, i6 (mdF c' k' a' b' (mdF c k a b y.s.m).snd).fst.snd] 33)]
    78) Scr.nil.t.t)) ∧ (∀ (K : KO XM6), (fun X0 : Prop => (MdOk (mdF c k a b y.s.m).snd ∧ ((mdF c k a b y.s.m).snd.nilq = true → (mdF c k a b y.s.m).snd.q = [])) ∧ c = c ∧ k = k ∧ a =
    a ∧ b = b ∧ c' = c' ∧ k' = k' ∧ a' = a' ∧ b' = b' ∧ W = W ∧ (c = c ∧ k = k ∧ a = a ∧ b = b ∧ c' = c' ∧ k' = k' ∧ a' = a' ∧ b' = b' ∧ W = W ∧ (c = c ∧ k = k ∧ a = a ∧ b = b ∧ c' = c'
    ∧ k' = k' ∧ a' = a' ∧ b' = b' ∧ W = W ∧ (c = c ∧ k = k ∧ a = a ∧ b = b ∧ c' = c' ∧ k' = k' ∧ a' = a' ∧ b' = b' ∧ W = W ∧ X0 ∧ True) ∧ True) ∧ True) ∧ (∀ (K : KO XM6), (fun X1 : Prop
    => c = c ∧ k = k ∧ a = a ∧ b = b ∧ c' = c' ∧ k' = k' ∧ a' = a' ∧ b' = b' ∧ W = W ∧ (c = c ∧ k = k ∧ a = a ∧ b = b ∧ c' = c' ∧ k' = k' ∧ a' = a' ∧ b' = b' ∧ W = W ∧ (c = c ∧ k = k ∧
    a = a ∧ b = b ∧ c' = c' ∧ k' = k' ∧ a' = a' ∧ b' = b' ∧ W = W ∧ X1 ∧ True) ∧ True) ∧ True → c = c ∧ k = k ∧ a = a ∧ b = b ∧ c' = c' ∧ k' = k' ∧ a' = a' ∧ b' = b' ∧ W = W ∧ (c = c ∧
    k = k ∧ a = a ∧ b = b ∧ c' = c' ∧ k' = k' ∧ a' = a' ∧ b' = b' ∧ W = W ∧ (c = c ∧ k = k ∧ a = a ∧ b = b ∧ c' = c' ∧ k' = k' ∧ a' = a' ∧ b' = b' ∧ W = W ∧ X1 ∧ True) ∧ True) ∧ True)
    (K (SF.mk 75 (N6 (rw6 ρ 0) (N6 (rw6 ρ 1) (N6 (rw6 ρ 3) (N6 (SV.c (SC.ptr 31 0)) (N6 (rw6 ρ 15) (N6 (rw6 ρ 31) (lf6 (rw6 ρ 63)) n6) (lf6 (rw6 ρ 47))) (N6 (rw6 ρ 23) (N6 (SV.c (i6
    (↑y.i : Int))) (lf6 (rw6 ρ 71)) n6) (N6 (SV.agg [i6 (mdF c' k' a' b' (mdF c k a b y.s.m).snd).fst.fst, i6 (mdF c' k' a' b' (mdF c k a b y.s.m).snd).fst.snd]) n6 n6))) (N6 (SV.c
    (SC.ptr 74 0)) (N6 (rw6 ρ 19) (N6 (rw6 ρ 35) (lf6 (rw6 ρ 67)) n6) (lf6 (SV.agg [i6 c, i6 k, i6 a, i6 b]))) (N6 (rw6 ρ 27) (lf6 (rw6 ρ 43)) (lf6 (rw6 ρ 59))))) (N6 (SV.c (SC.ptr 33
    0)) (N6 (rw6 ρ 9) (N6 (rw6 ρ 17) (N6 (rw6 ρ 33) (lf6 (rw6 ρ 65)) n6) (N6 (SV.c (SC.ptr 67 0)) n6 n6)) (N6 (rw6 ρ 25) (N6 (rw6 ρ 41) (lf6 (rw6 ρ 73)) n6) (lf6 (rw6 ρ 57)))) (N6 (rw6
    ρ 13) (N6 (rw6 ρ 21) (N6 (SV.c (SC.sliv p false len cap)) (lf6 (rw6 ρ 69)) n6) (N6 (SV.c (SC.ptr 31 0)) n6 n6)) (N6 (rw6 ρ 29) (lf6 (rw6 ρ 45)) (lf6 (rw6 ρ 61)))))) (N6 (rw6 ρ 2)
    (N6 (SV.c (SC.ptr 32 0)) (N6 (rw6 ρ 8) (N6 (rw6 ρ 16) (N6 (rw6 ρ 32) (lf6 (rw6 ρ 64)) n6) (N6 (SV.c (SC.ptr 31 0)) n6 n6)) (N6 (rw6 ρ 24) (N6 (SV.c (SC.boo true false)) (lf6 (rw6 ρ
    72)) n6) (lf6 (rw6 ρ 56)))) (N6 (SV.c (SC.ptr 75 0)) (N6 (rw6 ρ 20) (N6 (rw6 ρ 36) (lf6 (rw6 ρ 68)) n6) (N6 (SV.agg [i6 (mdF c k a b y.s.m).fst.fst, i6 (mdF c k a b y.s.m).fst.snd])
    n6 n6)) (N6 (rw6 ρ 28) (lf6 (rw6 ρ 44)) (lf6 (rw6 ρ 60))))) (N6 (rw6 ρ 6) (N6 (SV.c (SC.ptr 67 0)) (N6 (rw6 ρ 18) (N6 (rw6 ρ 34) (lf6 (rw6 ρ 66)) n6) (N6 (SV.c (SC.ptr 31 0)) n6
    n6)) (N6 (rw6 ρ 26) (N6 (rw6 ρ 42) (lf6 (rw6 ρ 74)) n6) (lf6 (rw6 ρ 58)))) (N6 (rw6 ρ 14) (N6 (rw6 ρ 22) (N6 (SV.c (i6 (↑len : Int))) (lf6 (rw6 ρ 70)) n6) (lf6 (SV.agg [i6 c', i6
    k', i6 a', i6 b']))) (N6 (rw6 ρ 30) (lf6 (rw6 ρ 46)) (lf6 (rw6 ρ 62))))))) []) (Mem.mk [(31, SO.ext (ob6 (mdF c' k' a' b' (mdF c k a b y.s.m).snd).snd)), (32, SO.cells [i6 c, i6 k,
    i6 a, i6 b] (OfNat.ofNat 26)), (33, SO.cells [i6 c', i6 k', i6 a', i6 b'] (OfNat.ofNat 26)), (0, SO.seen W), (67, SO.ext (HO.obj [] y.s.m)), (74, SO.cells [i6 (mdF c k a b
    y.s.m).fst.fst, i6 (mdF c k a b y.s.m).fst.snd] 33), (75, SO.cells [i6 (mdF c' k' a' b' (mdF c k a b y.s.m).snd).fst.fst, i6 (mdF c' k' a' b' (mdF c k a b y.s.m).snd).fst.snd] 33)]
    78) Scr.nil.t.t)) ∧ True → c = c ∧ k = k ∧ a = a ∧ b = b ∧ c' = c' ∧ k' = k' ∧ a' = a' ∧ b' = b' ∧ W = W ∧ ((MdOk (mdF c k a b y.s.m).snd ∧ ((mdF c k a b y.s.m).snd.nilq = true →
    (mdF c k a b y.s.m).snd.q = [])) ∧ c = c ∧ k = k ∧ a = a ∧ b = b ∧ c' = c' ∧ k' = k' ∧ a' = a' ∧ b' = b' ∧ W = W ∧ (c = c ∧ k = k ∧ a = a ∧ b = b ∧ c' = c' ∧ k' = k' ∧ a' = a' ∧ b'
    = b' ∧ W = W ∧ (c = c ∧ k = k ∧ a = a ∧ b = b ∧ c' = c' ∧ k' = k' ∧ a' = a' ∧ b' = b' ∧ W = W ∧ X0 ∧ True) ∧ True) ∧ True) ∧ (∀ (K : KO XM6), (fun X1 : Prop => (MdOk (mdF c k a b
    y.s.m).snd ∧ ((mdF c k a b y.s.m).snd.nilq = true → (mdF c k a b y.s.m).snd.q = [])) ∧ c = c ∧ k = k ∧ a = a ∧ b = b ∧ c' = c' ∧ k' = k' ∧ a' = a' ∧ b' = b' ∧ W = W ∧ (c = c ∧ k = k
    ∧ a = a ∧ b = b ∧ c' = c' ∧ k' = k' ∧ a' = a' ∧ b' = b' ∧ W = W ∧ (c = c ∧ k = k ∧ a = a ∧ b = b ∧ c' = c' ∧ k' = k' ∧ a' = a' ∧ b' = b' ∧ W = W ∧ X1 ∧ True) ∧ True) ∧ True → c = c
    ∧ k = k ∧ a = a ∧ b = b ∧ c' = c' ∧ k' = k' ∧ a' = a' ∧ b' = b' ∧ W = W ∧ ((MdOk (mdF c k a b y.s.m).snd ∧ ((mdF c k a b y.s.m).snd.nilq = true → (mdF c k a b y.s.m).snd.q = [])) ∧
    c = c ∧ k = k ∧ a = a ∧ b = b ∧ c' = c' ∧ k' = k' ∧ a' = a' ∧ b' = b' ∧ W = W ∧ (c = c ∧ k = k ∧ a = a ∧ b = b ∧ c' = c' ∧ k' = k' ∧ a' = a' ∧ b' = b' ∧ W = W ∧ X1 ∧ True) ∧ True) ∧
    True) (K (SF.mk 75 (N6 (rw6 ρ 0) (N6 (rw6 ρ 1) (N6 (rw6 ρ 3) (N6 (SV.c (SC.ptr 31 0)) (N6 (rw6 ρ 15) (N6 (rw6 ρ 31) (lf6 (rw6 ρ 63)) n6) (lf6 (rw6 ρ 47))) (N6 (rw6 ρ 23) (N6 (SV.c
    (i6 (↑y.i : Int))) (lf6 (rw6 ρ 71)) n6) (N6 (SV.agg [i6 (mdF c' k' a' b' (mdF c k a b y.s.m).snd).fst.fst, i6 (mdF c' k' a' b' (mdF c k a b y.s.m).snd).fst.snd]) n6 n6))) (N6 (SV.c
    (SC.ptr 74 0)) (N6 (rw6 ρ 19) (N6 (rw6 ρ 35) (lf6 (rw6 ρ 67)) n6) (lf6 (SV.agg [i6 c, i6 k, i6 a, i6 b]))) (N6 (rw6 ρ 27) (lf6 (rw6 ρ 43)) (lf6 (rw6 ρ 59))))) (N6 (SV.c (SC.ptr 33
    0)) (N6 (rw6 ρ 9) (N6 (rw6 ρ 17) (N6 (rw6 ρ 33) (lf6 (rw6 ρ 65)) n6) (N6 (SV.c (SC.ptr 67 0)) n6 n6)) (N6 (rw6 ρ 25) (N6 (rw6 ρ 41) (lf6 (rw6 ρ 73)) n6) (lf6 (rw6 ρ 57)))) (N6 (rw6
    ρ 13) (N6 (rw6 ρ 21) (N6 (SV.c (SC.sliv p false len cap)) (lf6 (rw6 ρ 69)) n6) (N6 (SV.c (SC.ptr 31 0)) n6 n6)) (N6 (rw6 ρ 29) (lf6 (rw6 ρ 45)) (lf6 (rw6 ρ 61)))))) (N6 (rw6 ρ 2)
    (N6 (SV.c (SC.ptr 32 0)) (N6 (rw6 ρ 8) (N6 (rw6 ρ 16) (N6 (rw6 ρ 32) (lf6 (rw6 ρ 64)) n6) (N6 (SV.c (SC.ptr 31 0)) n6 n6)) (N6 (rw6 ρ 24) (N6 (SV.c (SC.boo true false)) (lf6 (rw6 ρ
    72)) n6) (lf6 (rw6 ρ 56)))) (N6 (SV.c (SC.ptr 75 0)) (N6 (rw6 ρ 20) (N6 (rw6 ρ 36) (lf6 (rw6 ρ 68)) n6) (N6 (SV.agg [i6 (mdF c k a b y.s.m).fst.fst, i6 (mdF c k a b y.s.m).fst.snd])
    n6 n6)) (N6 (rw6 ρ 28) (lf6 (rw6 ρ 44)) (lf6 (rw6 ρ 60))))) (N6 (rw6 ρ 6) (N6 (SV.c (SC.ptr 67 0)) (N6 (rw6 ρ 18) (N6 (rw6 ρ 34) (lf6 (rw6 ρ 66)) n6) (N6 (SV.c (SC.ptr 31 0)) n6
    n6)) (N6 (rw6 ρ 26) (N6 (rw6 ρ 42) (lf6 (rw6 ρ 74)) n6) (lf6 (rw6 ρ 58)))) (N6 (rw6 ρ 14) (N6 (rw6 ρ 22) (N6 (SV.c (i6 (↑len : Int))) (lf6 (rw6 ρ 70)) n6) (lf6 (SV.agg [i6 c', i6
    k', i6 a', i6 b']))) (N6 (rw6 ρ 30) (lf6 (rw6 ρ 46)) (lf6 (rw6 ρ 62))))))) []) (Mem.mk [(31, SO.ext (ob6 (mdF c' k' a' b' (mdF c k a b y.s.m).snd).snd)), (32, SO.cells [i6 c, i6 k,
    i6 a, i6 b] (OfNat.ofNat 26)), (33, SO.cells [i6 c', i6 k', i6 a', i6 b'] (OfNat.ofNat 26)), (0, SO.seen W), (67, SO.ext (HO.obj [] y.s.m)), (74, SO.cells [i6 (mdF c k a b
    y.s.m).fst.fst, i6 (mdF c k a b y.s.m).fst.snd] 33), (75, SO.cells [i6 (mdF c' k' a' b' (mdF c k a b y.s.m).snd).fst.fst, i6 (mdF c' k' a' b' (mdF c k a b y.s.m).snd).fst.snd] 33)]
    78) Scr.nil.t.t)) ∧ True) (K (SF.mk 75 (N6 (rw6 ρ 0) (N6 (rw6 ρ 1) (N6 (rw6 ρ 3) (N6 (SV.c (SC.ptr 31 0)) (N6 (rw6 ρ 15) (N6 (rw6 ρ 31) (lf6 (rw6 ρ 63)) n6) (lf6 (rw6 ρ 47))) (N6
    (rw6 ρ 23) (N6 (SV.c (i6 (↑y.i : Int))) (lf6 (rw6 ρ 71)) n6) (N6 (SV.agg [i6 (mdF c' k' a' b' (mdF c k a b y.s.m).snd).fst.fst, i6 (mdF c' k' a' b' (mdF c k a b
    y.s.m).snd).fst.snd]) n6 n6))) (N6 (SV.c (SC.ptr 74 0)) (N6 (rw6 ρ 19) (N6 (rw6 ρ 35) (lf6 (rw6 ρ 67)) n6) (lf6 (SV.agg [i6 c, i6 k, i6 a, i6 b]))) (N6 (rw6 ρ 27) (lf6 (rw6 ρ 43))
    (lf6 (rw6 ρ 59))))) (N6 (SV.c (SC.ptr 33 0)) (N6 (rw6 ρ 9) (N6 (rw6 ρ 17) (N6 (rw6 ρ 33) (lf6 (rw6 ρ 65)) n6) (N6 (SV.c (SC.ptr 67 0)) n6 n6)) (N6 (rw6 ρ 25) (N6 (rw6 ρ 41) (lf6
    (rw6 ρ 73)) n6) (lf6 (rw6 ρ 57)))) (N6 (rw6 ρ 13) (N6 (rw6 ρ 21) (N6 (SV.c (SC.sliv p false len cap)) (lf6 (rw6 ρ 69)) n6) (N6 (SV.c (SC.ptr 31 0)) n6 n6)) (N6 (rw6 ρ 29) (lf6 (rw6
    ρ 45)) (lf6 (rw6 ρ 61)))))) (N6 (rw6 ρ 2) (N6 (SV.c (SC.ptr 32 0)) (N6 (rw6 ρ 8) (N6 (rw6 ρ 16) (N6 (rw6 ρ 32) (lf6 (rw6 ρ 64)) n6) (N6 (SV.c (SC.ptr 31 0)) n6 n6)) (N6 (rw6 ρ 24)
    (N6 (SV.c (SC.boo true false)) (lf6 (rw6 ρ 72)) n6) (lf6 (rw6 ρ 56)))) (N6 (SV.c (SC.ptr 75 0)) (N6 (rw6 ρ 20) (N6 (rw6 ρ 36) (lf6 (rw6 ρ 68)) n6) (N6 (SV.agg [i6 (mdF c k a b
    y.s.m).fst.fst, i6 (mdF c k a b y.s.m).fst.snd]) n6 n6)) (N6 (rw6 ρ 28) (lf6 (rw6 ρ 44)) (lf6 (rw6 ρ 60))))) (N6 (rw6 ρ 6) (N6 (SV.c (SC.ptr 67 0)) (N6 (rw6 ρ 18) (N6 (rw6 ρ 34)
    (lf6 (rw6 ρ 66)) n6) (N6 (SV.c (SC.ptr 31 0)) n6 n6)) (N6 (rw6 ρ 26) (N6 (rw6 ρ 42) (lf6 (rw6 ρ 74)) n6) (lf6 (rw6 ρ 58)))) (N6 (rw6 ρ 14) (N6 (rw6 ρ 22) (N6 (SV.c (i6 (↑len :
    Int))) (lf6 (rw6 ρ 70)) n6) (lf6 (SV.agg [i6 c', i6 k', i6 a', i6 b']))) (N6 (rw6 ρ 30) (lf6 (rw6 ρ 46)) (lf6 (rw6 ρ 62))))))) []) (Mem.mk [(31, SO.ext (ob6 (mdF c' k' a' b' (mdF c
    k a b y.s.m).snd).snd)), (32, SO.cells [i6 c, i6 k, i6 a, i6 b] (OfNat.ofNat 26)), (33, SO.cells [i6 c', i6 k', i6 a', i6 b'] (OfNat.ofNat 26)), (0, SO.seen W), (67, SO.ext (HO.obj
    [] y.s.m)), (74, SO.cells [i6 (mdF c k a b y.s.m).fst.fst, i6 (mdF c k a b y.s.m).fst.snd] 33), (75, SO.cells [i6 (mdF c' k' a' b' (mdF c k a b y.s.m).snd).fst.fst, i6 (mdF c' k' a'
    b' (mdF c k a b y.s.m).snd).fst.snd] 33)] 78) Scr.nil.t.t)) ∧ True) ∧ (∀ (K : KO XM6), (fun X0 : Prop => (MdOk y.s.m ∧ (y.s.m.nilq = true → y.s.m.q = [])) ∧ c = c ∧ k = k ∧ a = a ∧
    b = b ∧ c' = c' ∧ k' = k' ∧ a' = a' ∧ b' = b' ∧ W = W ∧ ((MdOk (mdF c k a b y.s.m).snd ∧ ((mdF c k a b y.s.m).snd.nilq = true → (mdF c k a b y.s.m).snd.q = [])) ∧ c = c ∧ k = k ∧ a
    = a ∧ b = b ∧ c' = c' ∧ k' = k' ∧ a' = a' ∧ b' = b' ∧ W = W ∧ (c = c ∧ k = k ∧ a = a ∧ b = b ∧ c' = c' ∧ k' = k' ∧ a' = a' ∧ b' = b' ∧ W = W ∧ (c = c ∧ k = k ∧ a = a ∧ b = b ∧ c' =
    c' ∧ k' = k' ∧ a' = a' ∧ b' = b' ∧ W = W ∧ (c = c ∧ k = k ∧ a = a ∧ b = b ∧ c' = c' ∧ k' = k' ∧ a' = a' ∧ b' = b' ∧ W = W ∧ X0 ∧ True) ∧ True) ∧ True) ∧ (∀ (K : KO XM6), (fun X1 :
    Prop => c = c ∧ k = k ∧ a = a ∧ b = b ∧ c' = c' ∧ k' = k' ∧ a' = a' ∧ b' = b' ∧ W = W ∧ (c = c ∧ k = k ∧ a = a ∧ b = b ∧ c' = c' ∧ k' = k' ∧ a' = a' ∧ b' = b' ∧ W = W ∧ (c = c ∧ k =
    k ∧ a = a ∧ b = b ∧ c' = c' ∧ k' = k' ∧ a' = a' ∧ b' = b' ∧ W = W ∧ X1 ∧ True) ∧ True) ∧ True → c = c ∧ k = k ∧ a = a ∧ b = b ∧ c' = c' ∧ k' = k' ∧ a' = a' ∧ b' = b' ∧ W = W ∧ (c =
    c ∧ k = k ∧ a = a ∧ b = b ∧ c' = c' ∧ k' = k' ∧ a' = a' ∧ b' = b' ∧ W = W ∧ (c = c ∧ k = k ∧ a = a ∧ b = b ∧ c' = c' ∧ k' = k' ∧ a' = a' ∧ b' = b' ∧ W = W ∧ X1 ∧ True) ∧ True) ∧
    True) (K (SF.mk 75 (N6 (rw6 ρ 0) (N6 (rw6 ρ 1) (N6 (rw6 ρ 3) (N6 (SV.c (SC.ptr 31 0)) (N6 (rw6 ρ 15) (N6 (rw6 ρ 31) (lf6 (rw6 ρ 63)) n6) (lf6 (rw6 ρ 47))) (N6 (rw6 ρ 23) (N6 (SV.c
    (i6 (↑y.i : Int))) (lf6 (rw6 ρ 71)) n6) (N6 (SV.agg [i6 (mdF c' k' a' b' (mdF c k a b y.s.m).snd).fst.fst, i6 (mdF c' k' a' b' (mdF c k a b y.s.m).snd).fst.snd]) n6 n6))) (N6 (SV.c
    (SC.ptr 74 0)) (N6 (rw6 ρ 19) (N6 (rw6 ρ 35) (lf6 (rw6 ρ 67)) n6) (lf6 (SV.agg [i6 c, i6 k, i6 a, i6 b]))) (N6 (rw6 ρ 27) (lf6 (rw6 ρ 43)) (lf6 (rw6 ρ 59))))) (N6 (SV.c (SC.ptr 33
    0)) (N6 (rw6 ρ 9) (N6 (rw6 ρ 17) (N6 (rw6 ρ 33) (lf6 (rw6 ρ 65)) n6) (N6 (SV.c (SC.ptr 67 0)) n6 n6)) (N6 (rw6 ρ 25) (N6 (rw6 ρ 41) (lf6 (rw6 ρ 73)) n6) (lf6 (rw6 ρ 57)))) (N6 (rw6
    ρ 13) (N6 (rw6 ρ 21) (N6 (SV.c (SC.sliv p false len cap)) (lf6 (rw6 ρ 69)) n6) (N6 (SV.c (SC.ptr 31 0)) n6 n6)) (N6 (rw6 ρ 29) (lf6 (rw6 ρ 45)) (lf6 (rw6 ρ 61)))))) (N6 (rw6 ρ 2)
    (N6 (SV.c (SC.ptr 32 0)) (N6 (rw6 ρ 8) (N6 (rw6 ρ 16) (N6 (rw6 ρ 32) (lf6 (rw6 ρ 64)) n6) (N6 (SV.c (SC.ptr 31 0)) n6 n6)) (N6 (rw6 ρ 24) (N6 (SV.c (SC.boo true false)) (lf6 (rw6 ρ
    72)) n6) (lf6 (rw6 ρ 56)))) (N6 (SV.c (SC.ptr 75 0)) (N6 (rw6 ρ 20) (N6 (rw6 ρ 36) (lf6 (rw6 ρ 68)) n6) (N6 (SV.agg [i6 (mdF c k a b y.s.m).fst.fst, i6 (mdF c k a b y.s.m).fst.snd])
    n6 n6)) (N6 (rw6 ρ 28) (lf6 (rw6 ρ 44)) (lf6 (rw6 ρ 60))))) (N6 (rw6 ρ 6) (N6 (SV.c (SC.ptr 67 0)) (N6 (rw6 ρ 18) (N6 (rw6 ρ 34) (lf6 (rw6 ρ 66)) n6) (N6 (SV.c (SC.ptr 31 0)) n6
    n6)) (N6 (rw6 ρ 26) (N6 (rw6 ρ 42) (lf6 (rw6 ρ 74)) n6) (lf6 (rw6 ρ 58)))) (N6 (rw6 ρ 14) (N6 (rw6 ρ 22) (N6 (SV.c (i6 (↑len : Int))) (lf6 (rw6 ρ 70)) n6) (lf6 (SV.agg [i6 c', i6
    k', i6 a', i6 b']))) (N6 (rw6 ρ 30) (lf6 (rw6 ρ 46)) (lf6 (rw6 ρ 62))))))) []) (Mem.mk [(31, SO.ext (ob6 (mdF c' k' a' b' (mdF c k a b y.s.m).snd).snd)), (32, SO.cells [i6 c, i6 k,
    i6 a, i6 b] (OfNat.ofNat 26)), (33, SO.cells [i6 c', i6 k', i6 a', i6 b'] (OfNat.ofNat 26)), (0, SO.seen W), (67, SO.ext (HO.obj [] y.s.m)), (74, SO.cells [i6 (mdF c k a b
    y.s.m).fst.fst, i6 (mdF c k a b y.s.m).fst.snd] 33), (75, SO.cells [i6 (mdF c' k' a' b' (mdF c k a b y.s.m).snd).fst.fst, i6 (mdF c' k' a' b' (mdF c k a b y.s.m).snd).fst.snd] 33)]
    78) Scr.nil.t.t)) ∧ True) ∧ (∀ (K : KO XM6), (fun X1 : Prop => (MdOk (mdF c k a b y.s.m).snd ∧ ((mdF c k a b y.s.m).snd.nilq = true → (mdF c k a b y.s.m).snd.q = [])) ∧ c = c ∧ k =
    k ∧ a = a ∧ b = b ∧ c' = c' ∧ k' = k' ∧ a' = a' ∧ b' = b' ∧ W = W ∧ (c = c ∧ k = k ∧ a = a ∧ b = b ∧ c' = c' ∧ k' = k' ∧ a' = a' ∧ b' = b' ∧ W = W ∧ (c = c ∧ k = k ∧ a = a ∧ b = b ∧
    c' = c' ∧ k' = k' ∧ a' = a' ∧ b' = b' ∧ W = W ∧ (c = c ∧ k = k ∧ a = a ∧ b = b ∧ c' = c' ∧ k' = k' ∧ a' = a' ∧ b' = b' ∧ W = W ∧ X1 ∧ True) ∧ True) ∧ True) ∧ (∀ (K : KO XM6), (fun
    X2 : Prop => c = c ∧ k = k ∧ a = a ∧ b = b ∧ c' = c' ∧ k' = k' ∧ a' = a' ∧ b' = b' ∧ W = W ∧ (c = c ∧ k = k ∧ a = a ∧ b = b ∧ c' = c' ∧ k' = k' ∧ a' = a' ∧ b' = b' ∧ W = W ∧ (c = c
    ∧ k = k ∧ a = a ∧ b = b ∧ c' = c' ∧ k' = k' ∧ a' = a' ∧ b' = b' ∧ W = W ∧ X2 ∧ True) ∧ True) ∧ True → c = c ∧ k = k ∧ a = a ∧ b = b ∧ c' = c' ∧ k' = k' ∧ a' = a' ∧ b' = b' ∧ W = W ∧
    (c = c ∧ k = k ∧ a = a ∧ b = b ∧ c' = c' ∧ k' = k' ∧ a' = a' ∧ b' = b' ∧ W = W ∧ (c = c ∧ k = k ∧ a = a ∧ b = b ∧ c' = c' ∧ k' = k' ∧ a' = a' ∧ b' = b' ∧ W = W ∧ X2 ∧ True) ∧ True)
    ∧ True) (K (SF.mk 75 (N6 (rw6 ρ 0) (N6 (rw6 ρ 1) (N6 (rw6 ρ 3) (N6 (SV.c (SC.ptr 31 0)) (N6 (rw6 ρ 15) (N6 (rw6 ρ 31) (lf6 (rw6 ρ 63)) n6) (lf6 (rw6 ρ 47))) (N6 (rw6 ρ 23) (N6 (SV.c
    (i6 (↑y.i : Int))) (lf6 (rw6 ρ 71)) n6) (N6 (SV.agg [i6 (mdF c' k' a' b' (mdF c k a b y.s.m).snd).fst.fst, i6 (mdF c' k' a' b' (mdF c k a b y.s.m).snd).fst.snd]) n6 n6))) (N6 (SV.c
    (SC.ptr 74 0)) (N6 (rw6 ρ 19) (N6 (rw6 ρ 35) (lf6 (rw6 ρ 67)) n6) (lf6 (SV.agg [i6 c, i6 k, i6 a, i6 b]))) (N6 (rw6 ρ 27) (lf6 (rw6 ρ 43)) (lf6 (rw6 ρ 59))))) (N6 (SV.c (SC.ptr 33
    0)) (N6 (rw6 ρ 9) (N6 (rw6 ρ 17) (N6 (rw6 ρ 33) (lf6 (rw6 ρ 65)) n6) (N6 (SV.c (SC.ptr 67 0)) n6 n6)) (N6 (rw6 ρ 25) (N6 (rw6 ρ 41) (lf6 (rw6 ρ 73)) n6) (lf6 (rw6 ρ 57)))) (N6 (rw6
    ρ 13) (N6 (rw6 ρ 21) (N6 (SV.c (SC.sliv p false len cap)) (lf6 (rw6 ρ 69)) n6) (N6 (SV.c (SC.ptr 31 0)) n6 n6)) (N6 (rw6 ρ 29) (lf6 (rw6 ρ 45)) (lf6 (rw6 ρ 61)))))) (N6 (rw6 ρ 2)
    (N6 (SV.c (SC.ptr 32 0)) (N6 (rw6 ρ 8) (N6 (rw6 ρ 16) (N6 (rw6 ρ 32) (lf6 (rw6 ρ 64)) n6) (N6 (SV.c (SC.ptr 31 0)) n6 n6)) (N6 (rw6 ρ 24) (N6 (SV.c (SC.boo true false)) (lf6 (rw6 ρ
    72)) n6) (lf6 (rw6 ρ 56)))) (N6 (SV.c (SC.ptr 75 0)) (N6 (rw6 ρ 20) (N6 (rw6 ρ 36) (lf6 (rw6 ρ 68)) n6) (N6 (SV.agg [i6 (mdF c k a b y.s.m).fst.fst, i6 (mdF c k a b y.s.m).fst.snd])
    n6 n6)) (N6 (rw6 ρ 28) (lf6 (rw6 ρ 44)) (lf6 (rw6 ρ 60))))) (N6 (rw6 ρ 6) (N6 (SV.c (SC.ptr 67 0)) (N6 (rw6 ρ 18) (N6 (rw6 ρ 34) (lf6 (rw6 ρ 66)) n6) (N6 (SV.c (SC.ptr 31 0)) n6
    n6)) (N6 (rw6 ρ 26) (N6 (rw6 ρ 42) (lf6 (rw6 ρ 74)) n6) (lf6 (rw6 ρ 58)))) (N6 (rw6 ρ 14) (N6 (rw6 ρ 22) (N6 (SV.c (i6 (↑len : Int))) (lf6 (rw6 ρ 70)) n6) (lf6 (SV.agg [i6 c', i6
    k', i6 a', i6 b']))) (N6 (rw6 ρ 30) (lf6 (rw6 ρ 46)) (lf6 (rw6 ρ 62))))))) []) (Mem.mk [(31, SO.ext (ob6 (mdF c' k' a' b' (mdF c k a b y.s.m).snd).snd)), (32, SO.cells [i6 c, i6 k,
    i6 a, i6 b] (OfNat.ofNat 26)), (33, SO.cells [i6 c', i6 k', i6 a', i6 b'] (OfNat.ofNat 26)), (0, SO.seen W), (67, SO.ext (HO.obj [] y.s.m)), (74, SO.cells [i6 (mdF c k a b
    y.s.m).fst.fst, i6 (mdF c k a b y.s.m).fst.snd] 33), (75, SO.cells [i6 (mdF c' k' a' b' (mdF c k a b y.s.m).snd).fst.fst, i6 (mdF c' k' a' b' (mdF c k a b y.s.m).snd).fst.snd] 33)]
    78) Scr.nil.t.t)) ∧ True → c = c ∧ k = k ∧ a = a ∧ b = b ∧ c' = c' ∧ k' = k' ∧ a' = a' ∧ b' = b' ∧ W = W ∧ ((MdOk (mdF c k a b y.s.m).snd ∧ ((mdF c k a b y.s.m).snd.nilq = true →
    (mdF c k a b y.s.m).snd.q = [])) ∧ c = c ∧ k = k ∧ a = a ∧ b = b ∧ c' = c' ∧ k' = k' ∧ a' = a' ∧ b' = b' ∧ W = W ∧ (c = c ∧ k = k ∧ a = a ∧ b = b ∧ c' = c' ∧ k' = k' ∧ a' = a' ∧ b'
    = b' ∧ W = W ∧ (c = c ∧ k = k ∧ a = a ∧ b = b ∧ c' = c' ∧ k' = k' ∧ a' = a' ∧ b' = b' ∧ W = W ∧ X1 ∧ True) ∧ True) ∧ True) ∧ (∀ (K : KO XM6), (fun X2 : Prop => (MdOk (mdF c k a b
    y.s.m).snd ∧ ((mdF c k a b y.s.m).snd.nilq = true → (mdF c k a b y.s.m).snd.q = [])) ∧ c = c ∧ k = k ∧ a = a ∧ b = b ∧ c' = c' ∧ k' = k' ∧ a' = a' ∧ b' = b' ∧ W = W ∧ (c = c ∧ k = k
    ∧ a = a ∧ b = b ∧ c' = c' ∧ k' = k' ∧ a' = a' ∧ b' = b' ∧ W = W ∧ (c = c ∧ k = k ∧ a = a ∧ b = b ∧ c' = c' ∧ k' = k' ∧ a' = a' ∧ b' = b' ∧ W = W ∧ X2 ∧ True) ∧ True) ∧ True → c = c
    ∧ k = k ∧ a = a ∧ b = b ∧ c' = c' ∧ k' = k' ∧ a' = a' ∧ b' = b' ∧ W = W ∧ ((MdOk (mdF c k a b y.s.m).snd ∧ ((mdF c k a b y.s.m).snd.nilq = true → (mdF c k a b y.s.m).snd.q = [])) ∧
    c = c ∧ k = k ∧ a = a ∧ b = b ∧ c' = c' ∧ k' = k' ∧ a' = a' ∧ b' = b' ∧ W = W ∧ (c = c ∧ k = k ∧ a = a ∧ b = b ∧ c' = c' ∧ k' = k' ∧ a' = a' ∧ b' = b' ∧ W = W ∧ X2 ∧ True) ∧ True) ∧
    True) (K (SF.mk 75 (N6 (rw6 ρ 0) (N6 (rw6 ρ 1) (N6 (rw6 ρ 3) (N6 (SV.c (SC.ptr 31 0)) (N6 (rw6 ρ 15) (N6 (rw6 ρ 31) (lf6 (rw6 ρ 63)) n6) (lf6 (rw6 ρ 47))) (N6 (rw6 ρ 23) (N6 (SV.c
    (i6 (↑y.i : Int))) (lf6 (rw6 ρ 71)) n6) (N6 (SV.agg [i6 (mdF c' k' a' b' (mdF c k a b y.s.m).snd).fst.fst, i6 (mdF c' k' a' b' (mdF c k a b y.s.m).snd).fst.snd]) n6 n6))) (N6 (SV.c
    (SC.ptr 74 0)) (N6 (rw6 ρ 19) (N6 (rw6 ρ 35) (lf6 (rw6 ρ 67)) n6) (lf6 (SV.agg [i6 c, i6 k, i6 a, i6 b]))) (N6 (rw6 ρ 27) (lf6 (rw6 ρ 43)) (lf6 (rw6 ρ 59))))) (N6 (SV.c (SC.ptr 33
    0)) (N6 (rw6 ρ 9) (N6 (rw6 ρ 17) (N6 (rw6 ρ 33) (lf6 (rw6 ρ 65)) n6) (N6 (SV.c (SC.ptr 67 0)) n6 n6)) (N6 (rw6 ρ 25) (N6 (rw6 ρ 41) (lf6 (rw6 ρ 73)) n6) (lf6 (rw6 ρ 57)))) (N6 (rw6
    ρ 13) (N6 (rw6 ρ 21) (N6 (SV.c (SC.sliv p false len cap)) (lf6 (rw6 ρ 69)) n6) (N6 (SV.c (SC.ptr 31 0)) n6 n6)) (N6 (rw6 ρ 29) (lf6 (rw6 ρ 45)) (lf6 (rw6 ρ 61)))))) (N6 (rw6 ρ 2)
    (N6 (SV.c (SC.ptr 32 0)) (N6 (rw6 ρ 8) (N6 (rw6 ρ 16) (N6 (rw6 ρ 32) (lf6 (rw6 ρ 64)) n6) (N6 (SV.c (SC.ptr 31 0)) n6 n6)) (N6 (rw6 ρ 24) (N6 (SV.c (SC.boo true false)) (lf6 (rw6 ρ
    72)) n6) (lf6 (rw6 ρ 56)))) (N6 (SV.c (SC.ptr 75 0)) (N6 (rw6 ρ 20) (N6 (rw6 ρ 36) (lf6 (rw6 ρ 68)) n6) (N6 (SV.agg [i6 (mdF c k a b y.s.m).fst.fst, i6 (mdF c k a b y.s.m).fst.snd])
    n6 n6)) (N6 (rw6 ρ 28) (lf6 (rw6 ρ 44)) (lf6 (rw6 ρ 60))))) (N6 (rw6 ρ 6) (N6 (SV.c (SC.ptr 67 0)) (N6 (rw6 ρ 18) (N6 (rw6 ρ 34) (lf6 (rw6 ρ 66)) n6) (N6 (SV.c (SC.ptr 31 0)) n6
    n6)) (N6 (rw6 ρ 26) (N6 (rw6 ρ 42) (lf6 (rw6 ρ 74)) n6) (lf6 (rw6 ρ 58)))) (N6 (rw6 ρ 14) (N6 (rw6 ρ 22) (N6 (SV.c (i6 (↑len : Int))) (lf6 (rw6 ρ 70)) n6) (lf6 (SV.agg [i6 c', i6
    k', i6 a', i6 b']))) (N6 (rw6 ρ 30) (lf6 (rw6 ρ 46)) (lf6 (rw6 ρ 62))))))) []) (Mem.mk [(31, SO.ext (ob6 (mdF c' k' a' b' (mdF c k a b y.s.m).snd).snd)), (32, SO.cells [i6 c, i6 k,
    i6 a, i6 b] (OfNat.ofNat 26)), (33, SO.cells [i6 c', i6 k', i6 a', i6 b'] (OfNat.ofNat 26)), (0, SO.seen W), (67, SO.ext (HO.obj [] y.s.m)), (74, SO.cells [i6 (mdF c k a b
    y.s.m).fst.fst, i6 (mdF c k a b y.s.m).fst.snd] 33), (75, SO.cells [i6 (mdF c' k' a' b' (mdF c k a b y.s.m).snd).fst.fst, i6 (mdF c' k' a' b' (mdF c k a b y.s.m).snd).fst.snd] 33)]
    78) Scr.nil.t.t)) ∧ True) (K (SF.mk 75 (N6 (rw6 ρ 0) (N6 (rw6 ρ 1) (N6 (rw6 ρ 3) (N6 (SV.c (SC.ptr 31 0)) (N6 (rw6 ρ 15) (N6 (rw6 ρ 31) (lf6 (rw6 ρ 63)) n6) (lf6 (rw6 ρ 47))) (N6
    (rw6 ρ 23) (N6 (SV.c (i6 (↑y.i : Int))) (lf6 (rw6 ρ 71)) n6) (N6 (SV.agg [i6 (mdF c' k' a' b' (mdF c k a b y.s.m).snd).fst.fst, i6 (mdF c' k' a' b' (mdF c k a b
    y.s.m).snd).fst.snd]) n6 n6))) (N6 (SV.c (SC.ptr 74 0)) (N6 (rw6 ρ 19) (N6 (rw6 ρ 35) (lf6 (rw6 ρ 67)) n6) (lf6 (SV.agg [i6 c, i6 k, i6 a, i6 b]))) (N6 (rw6 ρ 27) (lf6 (rw6 ρ 43))
    (lf6 (rw6 ρ 59))))) (N6 (SV.c (SC.ptr 33 0)) (N6 (rw6 ρ 9) (N6 (rw6 ρ 17) (N6 (rw6 ρ 33) (lf6 (rw6 ρ 65)) n6) (N6 (SV.c (SC.ptr 67 0)) n6 n6)) (N6 (rw6 ρ 25) (N6 (rw6 ρ 41) (lf6
    (rw6 ρ 73)) n6) (lf6 (rw6 ρ 57)))) (N6 (rw6 ρ 13) (N6 (rw6 ρ 21) (N6 (SV.c (SC.sliv p false len cap)) (lf6 (rw6 ρ 69)) n6) (N6 (SV.c (SC.ptr 31 0)) n6 n6)) (N6 (rw6 ρ 29) (lf6 (rw6
    ρ 45)) (lf6 (rw6 ρ 61)))))) (N6 (rw6 ρ 2) (N6 (SV.c (SC.ptr 32 0)) (N6 (rw6 ρ 8) (N6 (rw6 ρ 16) (N6 (rw6 ρ 32) (lf6 (rw6 ρ 64)) n6) (N6 (SV.c (SC.ptr 31 0)) n6 n6)) (N6 (rw6 ρ 24)
    (N6 (SV.c (SC.boo true false)) (lf6 (rw6 ρ 72)) n6) (lf6 (rw6 ρ 56)))) (N6 (SV.c (SC.ptr 75 0)) (N6 (rw6 ρ 20) (N6 (rw6 ρ 36) (lf6 (rw6 ρ 68)) n6) (N6 (SV.agg [i6 (mdF c k a b
    y.s.m).fst.fst, i6 (mdF c k a b y.s.m).fst.snd]) n6 n6)) (N6 (rw6 ρ 28) (lf6 (rw6 ρ 44)) (lf6 (rw6 ρ 60))))) (N6 (rw6 ρ 6) (N6 (SV.c (SC.ptr 67 0)) (N6 (rw6 ρ 18) (N6 (rw6 ρ 34)
    (lf6 (rw6 ρ 66)) n6) (N6 (SV.c (SC.ptr 31 0)) n6 n6)) (N6 (rw6 ρ 26) (N6 (rw6 ρ 42) (lf6 (rw6 ρ 74)) n6) (lf6 (rw6 ρ 58)))) (N6 (rw6 ρ 14) (N6 (rw6 ρ 22) (N6 (SV.c (i6 (↑len :
    Int))) (lf6 (rw6 ρ 70)) n6) (lf6 (SV.agg [i6 c', i6 k', i6 a', i6 b']))) (N6 (rw6 ρ 30) (lf6 (rw6 ρ 46)) (lf6 (rw6 ρ 62))))))) []) (Mem.mk [(31, SO.ext (ob6 (mdF c' k' a' b' (mdF c
    k a b y.s.m).snd).snd)), (32, SO.cells [i6 c, i6 k, i6 a, i6 b] (OfNat.ofNat 26)), (33, SO.cells [i6 c', i6 k', i6 a', i6 b'] (OfNat.ofNat 26)), (0, SO.seen W), (67, SO.ext (HO.obj
    [] y.s.m)), (74, SO.cells [i6 (mdF c k a b y.s.m).fst.fst, i6 (mdF c k a b y.s.m).fst.snd] 33), (75, SO.cells [i6 (mdF c' k' a' b' (mdF c k a b y.s.m).snd).fst.fst, i6 (mdF c' k' a'
    b' (mdF c k a b y.s.m).snd).fst.snd] 33)] 78) Scr.nil.t.t)) ∧ (∀ (K : KO XM6), (fun X1 : Prop => (MdOk (mdF c k a b y.s.m).snd ∧ ((mdF c k a b y.s.m).snd.nilq = true → (mdF c k a b
    y.s.m).snd.q = [])) ∧ c = c ∧ k = k ∧ a = a ∧ b = b ∧ c' = c' ∧ k' = k' ∧ a' = a' ∧ b' = b' ∧ W = W ∧ (c = c ∧ k = k ∧ a = a ∧ b = b ∧ c' = c' ∧ k' = k' ∧ a' = a' ∧ b' = b' ∧ W = W
    ∧ (c = c ∧ k = k ∧ a = a ∧ b = b ∧ c' = c' ∧ k' = k' ∧ a' = a' ∧ b' = b' ∧ W = W ∧ (c = c ∧ k = k ∧ a = a ∧ b = b ∧ c' = c' ∧ k' = k' ∧ a' = a' ∧ b' = b' ∧ W = W ∧ X1 ∧ True) ∧
    True) ∧ True) ∧ (∀ (K : KO XM6), (fun X2 : Prop => c = c ∧ k = k ∧ a = a ∧ b = b ∧ c' = c' ∧ k' = k' ∧ a' = a' ∧ b' = b' ∧ W = W ∧ (c = c ∧ k = k ∧ a = a ∧ b = b ∧ c' = c' ∧ k' = k'
    ∧ a' = a' ∧ b' = b' ∧ W = W ∧ (c = c ∧ k = k ∧ a = a ∧ b = b ∧ c' = c' ∧ k' = k' ∧ a' = a' ∧ b' = b' ∧ W = W ∧ X2 ∧ True) ∧ True) ∧ True → c = c ∧ k = k ∧ a = a ∧ b = b ∧ c' = c' ∧
    k' = k' ∧ a' = a' ∧ b' = b' ∧ W = W ∧ (c = c ∧ k = k ∧ a = a ∧ b = b ∧ c' = c' ∧ k' = k' ∧ a' = a' ∧ b' = b' ∧ W = W ∧ (c = c ∧ k = k ∧ a = a ∧ b = b ∧ c' = c' ∧ k' = k' ∧ a' = a' ∧
    b' = b' ∧ W = W ∧ X2 ∧ True) ∧ True) ∧ True) (K (SF.mk 75 (N6 (rw6 ρ 0) (N6 (rw6 ρ 1) (N6 (rw6 ρ 3) (N6 (SV.c (SC.ptr 31 0)) (N6 (rw6 ρ 15) (N6 (rw6 ρ 31) (lf6 (rw6 ρ 63)) n6) (lf6
    (rw6 ρ 47))) (N6 (rw6 ρ 23) (N6 (SV.c (i6 (↑y.i : Int))) (lf6 (rw6 ρ 71)) n6) (N6 (SV.agg [i6 (mdF c' k' a' b' (mdF c k a b y.s.m).snd).fst.fst, i6 (mdF c' k' a' b' (mdF c k a b
    y.s.m).snd).fst.snd]) n6 n6))) (N6 (SV.c (SC.ptr 74 0)) (N6 (rw6 ρ 19) (N6 (rw6 ρ 35) (lf6 (rw6 ρ 67)) n6) (lf6 (SV.agg [i6 c, i6 k, i6 a, i6 b]))) (N6 (rw6 ρ 27) (lf6 (rw6 ρ 43))
    (lf6 (rw6 ρ 59))))) (N6 (SV.c (SC.ptr 33 0)) (N6 (rw6 ρ 9) (N6 (rw6 ρ 17) (N6 (rw6 ρ 33) (lf6 (rw6 ρ 65)) n6) (N6 (SV.c (SC.ptr 67 0)) n6 n6)) (N6 (rw6 ρ 25) (N6 (rw6 ρ 41) (lf6
    (rw6 ρ 73)) n6) (lf6 (rw6 ρ 57)))) (N6 (rw6 ρ 13) (N6 (rw6 ρ 21) (N6 (SV.c (SC.sliv p false len cap)) (lf6 (rw6 ρ 69)) n6) (N6 (SV.c (SC.ptr 31 0)) n6 n6)) (N6 (rw6 ρ 29) (lf6 (rw6
    ρ 45)) (lf6 (rw6 ρ 61)))))) (N6 (rw6 ρ 2) (N6 (SV.c (SC.ptr 32 0)) (N6 (rw6 ρ 8) (N6 (rw6 ρ 16) (N6 (rw6 ρ 32) (lf6 (rw6 ρ 64)) n6) (N6 (SV.c (SC.ptr 31 0)) n6 n6)) (N6 (rw6 ρ 24)
    (N6 (SV.c (SC.boo true false)) (lf6 (rw6 ρ 72)) n6) (lf6 (rw6 ρ 56)))) (N6 (SV.c (SC.ptr 75 0)) (N6 (rw6 ρ 20) (N6 (rw6 ρ 36) (lf6 (rw6 ρ 68)) n6) (N6 (SV.agg [i6 (mdF c k a b
    y.s.m).fst.fst, i6 (mdF c k a b y.s.m).fst.snd]) n6 n6)) (N6 (rw6 ρ 28) (lf6 (rw6 ρ 44)) (lf6 (rw6 ρ 60))))) (N6 (rw6 ρ 6) (N6 (SV.c (SC.ptr 67 0)) (N6 (rw6 ρ 18) (N6 (rw6 ρ 34)
    (lf6 (rw6 ρ 66)) n6) (N6 (SV.c (SC.ptr 31 0)) n6 n6)) (N6 (rw6 ρ 26) (N6 (rw6 ρ 42) (lf6 (rw6 ρ 74)) n6) (lf6 (rw6 ρ 58)))) (N6 (rw6 ρ 14) (N6 (rw6 ρ 22) (N6 (SV.c (i6 (↑len :
    Int))) (lf6 (rw6 ρ 70)) n6) (lf6 (SV.agg [i6 c', i6 k', i6 a', i6 b']))) (N6 (rw6 ρ 30) (lf6 (rw6 ρ 46)) (lf6 (rw6 ρ 62))))))) []) (Mem.mk [(31, SO.ext (ob6 (mdF c' k' a' b' (mdF c
    k a b y.s.m).snd).snd)), (32, SO.cells [i6 c, i6 k, i6 a, i6 b] (OfNat.ofNat 26)), (33, SO.cells [i6 c', i6 k', i6 a', i6 b'] (OfNat.ofNat 26)), (0, SO.seen W), (67, SO.ext (HO.obj
    [] y.s.m)), (74, SO.cells [i6 (mdF c k a b y.s.m).fst.fst, i6 (mdF c k a b y.s.m).fst.snd] 33), (75, SO.cells [i6 (mdF c' k' a' b' (mdF c k a b y.s.m).snd).fst.fst, i6 (mdF c' k' a'
    b' (mdF c k a b y.s.m).snd).fst.snd] 33)] 78) Scr.nil.t.t)) ∧ True → c = c ∧ k = k ∧ a = a ∧ b = b ∧ c' = c' ∧ k' = k' ∧ a' = a' ∧ b' = b' ∧ W = W ∧ ((MdOk (mdF c k a b y.s.m).snd ∧
    ((mdF c k a b y.s.m).snd.nilq = true → (mdF c k a b y.s.m).snd.q = [])) ∧ c = c ∧ k = k ∧ a = a ∧ b = b ∧ c' = c' ∧ k' = k' ∧ a' = a' ∧ b' = b' ∧ W = W ∧ (c = c ∧ k = k ∧ a = a ∧ b
    = b ∧ c' = c' ∧ k' = k' ∧ a' = a' ∧ b' = b' ∧ W = W ∧ (c = c ∧ k = k ∧ a = a ∧ b = b ∧ c' = c' ∧ k' = k' ∧ a' = a' ∧ b' = b' ∧ W = W ∧ X1 ∧ True) ∧ True) ∧ True) ∧ (∀ (K : KO XM6),
    (fun X2 : Prop => (MdOk (mdF c k a b y.s.m).snd ∧ ((mdF c k a b y.s.m).snd.nilq = true → (mdF c k a b y.s.m).snd.q = [])) ∧ c = c ∧ k = k ∧ a = a ∧ b = b ∧ c' = c' ∧ k' = k' ∧ a' =
    a' ∧ b' = b' ∧ W = W ∧ (c = c ∧ k = k ∧ a = a ∧ b = b ∧ c' = c' ∧ k' = k' ∧ a' = a' ∧ b' = b' ∧ W = W ∧ (c = c ∧ k = k ∧ a = a ∧ b = b ∧ c' = c' ∧ k' = k' ∧ a' = a' ∧ b' = b' ∧ W =
    W ∧ X2 ∧ True) ∧ True) ∧ True → c = c ∧ k = k ∧ a = a ∧ b = b ∧ c' = c' ∧ k' = k' ∧ a' = a' ∧ b' = b' ∧ W = W ∧ ((MdOk (mdF c k a b y.s.m).snd ∧ ((mdF c k a b y.s.m).snd.nilq = true
    → (mdF c k a b y.s.m).snd.q = [])) ∧ c = c ∧ k = k ∧ a = a ∧ b = b ∧ c' = c' ∧ k' = k' ∧ a' = a' ∧ b' = b' ∧ W = W ∧ (c = c ∧ k = k ∧ a = a ∧ b = b ∧ c' = c' ∧ k' = k' ∧ a' = a' ∧
    b' = b' ∧ W = W ∧ X2 ∧ True) ∧ True) ∧ True) (K (SF.mk 75 (N6 (rw6 ρ 0) (N6 (rw6 ρ 1) (N6 (rw6 ρ 3) (N6 (SV.c (SC.ptr 31 0)) (N6 (rw6 ρ 15) (N6 (rw6 ρ 31) (lf6 (rw6 ρ 63)) n6) (lf6
    (rw6 ρ 47))) (N6 (rw6 ρ 23) (N6 (SV.c (i6 (↑y.i : Int))) (lf6 (rw6 ρ 71)) n6) (N6 (SV.agg [i6 (mdF c' k' a' b' (mdF c k a b y.s.m).snd).fst.fst, i6 (mdF c' k' a' b' (mdF c k a b
    y.s.m).snd).fst.snd]) n6 n6))) (N6 (SV.c (SC.ptr 74 0)) (N6 (rw6 ρ 19) (N6 (rw6 ρ 35) (lf6 (rw6 ρ 67)) n6) (lf6 (SV.agg [i6 c, i6 k, i6 a, i6 b]))) (N6 (rw6 ρ 27) (lf6 (rw6 ρ 43))
    (lf6 (rw6 ρ 59))))) (N6 (SV.c (SC.ptr 33 0)) (N6 (rw6 ρ 9) (N6 (rw6 ρ 17) (N6 (rw6 ρ 33) (lf6 (rw6 ρ 65)) n6) (N6 (SV.c (SC.ptr 67 0)) n6 n6)) (N6 (rw6 ρ 25) (N6 (rw6 ρ 41) (lf6
    (rw6 ρ 73)) n6) (lf6 (rw6 ρ 57)))) (N6 (rw6 ρ 13) (N6 (rw6 ρ 21) (N6 (SV.c (SC.sliv p false len cap)) (lf6 (rw6 ρ 69)) n6) (N6 (SV.c (SC.ptr 31 0)) n6 n6)) (N6 (rw6 ρ 29) (lf6 (rw6
    ρ 45)) (lf6 (rw6 ρ 61)))))) (N6 (rw6 ρ 2) (N6 (SV.c (SC.ptr 32 0)) (N6 (rw6 ρ 8) (N6 (rw6 ρ 16) (N6 (rw6 ρ 32) (lf6 (rw6 ρ 64)) n6) (N6 (SV.c (SC.ptr 31 0)) n6 n6)) (N6 (rw6 ρ 24)
    (N6 (SV.c (SC.boo true false)) (lf6 (rw6 ρ 72)) n6) (lf6 (rw6 ρ 56)))) (N6 (SV.c (SC.ptr 75 0)) (N6 (rw6 ρ 20) (N6 (rw6 ρ 36) (lf6 (rw6 ρ 68)) n6) (N6 (SV.agg [i6 (mdF c k a b
    y.s.m).fst.fst, i6 (mdF c k a b y.s.m).fst.snd]) n6 n6)) (N6 (rw6 ρ 28) (lf6 (rw6 ρ 44)) (lf6 (rw6 ρ 60))))) (N6 (rw6 ρ 6) (N6 (SV.c (SC.ptr 67 0)) (N6 (rw6 ρ 18) (N6 (rw6 ρ 34)
    (lf6 (rw6 ρ 66)) n6) (N6 (SV.c (SC.ptr 31 0)) n6 n6)) (N6 (rw6 ρ 26) (N6 (rw6 ρ 42) (lf6 (rw6 ρ 74)) n6) (lf6 (rw6 ρ 58)))) (N6 (rw6 ρ 14) (N6 (rw6 ρ 22) (N6 (SV.c (i6 (↑len :
    Int))) (lf6 (rw6 ρ 70)) n6) (lf6 (SV.agg [i6 c', i6 k', i6 a', i6 b']))) (N6 (rw6 ρ 30) (lf6 (rw6 ρ 46)) (lf6 (rw6 ρ 62))))))) []) (Mem.mk [(31, SO.ext (ob6 (mdF c' k' a' b' (mdF c
    k a b y.s.m).snd).snd)), (32, SO.cells [i6 c, i6 k, i6 a, i6 b] (OfNat.ofNat 26)), (33, SO.cells [i6 c', i6 k', i6 a', i6 b'] (OfNat.ofNat 26)), (0, SO.seen W), (67, SO.ext (HO.obj
    [] y.s.m)), (74, SO.cells [i6 (mdF c k a b y.s.m).fst.fst, i6 (mdF c k a b y.s.m).fst.snd] 33), (75, SO.cells [i6 (mdF c' k' a' b' (mdF c k a b y.s.m).snd).fst.fst, i6 (mdF c' k' a'
    b' (mdF c k a b y.s.m).snd).fst.snd] 33)] 78) Scr.nil.t.t)) ∧ True) (K (SF.mk 75 (N6 (rw6 ρ 0) (N6 (rw6 ρ 1) (N6 (rw6 ρ 3) (N6 (SV.c (SC.ptr 31 0)) (N6 (rw6 ρ 15) (N6 (rw6 ρ 31)
    (lf6 (rw6 ρ 63)) n6) (lf6 (rw6 ρ 47))) (N6 (rw6 ρ 23) (N6 (SV.c (i6 (↑y.i : Int))) (lf6 (rw6 ρ 71)) n6) (N6 (SV.agg [i6 (mdF c' k' a' b' (mdF c k a b y.s.m).snd).fst.fst, i6 (mdF c'
    k' a' b' (mdF c k a b y.s.m).snd).fst.snd]) n6 n6))) (N6 (SV.c (SC.ptr 74 0)) (N6 (rw6 ρ 19) (N6 (rw6 ρ 35) (lf6 (rw6 ρ 67)) n6) (lf6 (SV.agg [i6 c, i6 k, i6 a, i6 b]))) (N6 (rw6 ρ
    27) (lf6 (rw6 ρ 43)) (lf6 (rw6 ρ 59))))) (N6 (SV.c (SC.ptr 33 0)) (N6 (rw6 ρ 9) (N6 (rw6 ρ 17) (N6 (rw6 ρ 33) (lf6 (rw6 ρ 65)) n6) (N6 (SV.c (SC.ptr 67 0)) n6 n6)) (N6 (rw6 ρ 25)
    (N6 (rw6 ρ 41) (lf6 (rw6 ρ 73)) n6) (lf6 (rw6 ρ 57)))) (N6 (rw6 ρ 13) (N6 (rw6 ρ 21) (N6 (SV.c (SC.sliv p false len cap)) (lf6 (rw6 ρ 69)) n6) (N6 (SV.c (SC.ptr 31 0)) n6 n6)) (N6
    (rw6 ρ 29) (lf6 (rw6 ρ 45)) (lf6 (rw6 ρ 61)))))) (N6 (rw6 ρ 2) (N6 (SV.c (SC.ptr 32 0)) (N6 (rw6 ρ 8) (N6 (rw6 ρ 16) (N6 (rw6 ρ 32) (lf6 (rw6 ρ 64)) n6) (N6 (SV.c (SC.ptr 31 0)) n6
    n6)) (N6 (rw6 ρ 24) (N6 (SV.c (SC.boo true false)) (lf6 (rw6 ρ 72)) n6) (lf6 (rw6 ρ 56)))) (N6 (SV.c (SC.ptr 75 0)) (N6 (rw6 ρ 20) (N6 (rw6 ρ 36) (lf6 (rw6 ρ 68)) n6) (N6 (SV.agg
    [i6 (mdF c k a b y.s.m).fst.fst, i6 (mdF c k a b y.s.m).fst.snd]) n6 n6)) (N6 (rw6 ρ 28) (lf6 (rw6 ρ 44)) (lf6 (rw6 ρ 60))))) (N6 (rw6 ρ 6) (N6 (SV.c (SC.ptr 67 0)) (N6 (rw6 ρ 18)
    (N6 (rw6 ρ 34) (lf6 (rw6 ρ 66)) n6) (N6 (SV.c (SC.ptr 31 0)) n6 n6)) (N6 (rw6 ρ 26) (N6 (rw6 ρ 42) (lf6 (rw6 ρ 74)) n6) (lf6 (rw6 ρ 58)))) (N6 (rw6 ρ 14) (N6 (rw6 ρ 22) (N6 (SV.c
    (i6 (↑len : Int))) (lf6 (rw6 ρ 70)) n6) (lf6 (SV.agg [i6 c', i6 k', i6 a', i6 b']))) (N6 (rw6 ρ 30) (lf6 (rw6 ρ 46)) (lf6 (rw6 ρ 62))))))) []) (Mem.mk [(31, SO.ext (ob6 (mdF c' k'
    a' b' (mdF c k a b y.s.m).snd).snd)), (32, SO.cells [i6 c, i6 k, i6 a, i6 b] (OfNat.ofNat 26)), (33, SO.cells [i6 c', i6 k', i6 a', i6 b'] (OfNat.ofNat 26)), (0, SO.seen W), (67,
    SO.ext (HO.obj [] y.s.m)), (74, SO.cells [i6 (mdF c k a b y.s.m).fst.fst, i6 (mdF c k a b y.s.m).fst.snd] 33), (75, SO.cells [i6 (mdF c' k' a' b' (mdF c k a b y.s.m).snd).fst.fst,
    i6 (mdF c' k' a' b' (mdF c k a b y.s.m).snd).fst.snd] 33)] 78) Scr.nil.t.t)) ∧ True → c = c ∧ k = k ∧ a = a ∧ b = b ∧ c' = c' ∧ k' = k' ∧ a' = a' ∧ b' = b' ∧ W = W ∧ ((MdOk y.s.m ∧
    (y.s.m.nilq = true → y.s.m.q = [])) ∧ c = c ∧ k = k ∧ a = a ∧ b = b ∧ c' = c' ∧ k' = k' ∧ a' = a' ∧ b' = b' ∧ W = W ∧ ((MdOk (mdF c k a b y.s.m).snd ∧ ((mdF c k a b y.s.m).snd.nilq
    = true → (mdF c k a b y.s.m).snd.q = [])) ∧ c = c ∧ k = k ∧ a = a ∧ b = b ∧ c' = c' ∧ k' = k' ∧ a' = a' ∧ b' = b' ∧ W = W ∧ (c = c ∧ k = k ∧ a = a ∧ b = b ∧ c' = c' ∧ k' = k' ∧ a' =
    a' ∧ b' = b' ∧ W = W ∧ (c = c ∧ k = k ∧ a = a ∧ b = b ∧ c' = c' ∧ k' = k' ∧ a' = a' ∧ b' = b' ∧ W = W ∧ X0 ∧ True) ∧ True) ∧ True) ∧ (∀ (K : KO XM6), (fun X1 : Prop => (MdOk (mdF c
    k a b y.s.m).snd ∧ ((mdF c k a b y.s.m).snd.nilq = true → (mdF c k a b y.s.m).snd.q = [])) ∧ c = c ∧ k = k ∧ a = a ∧ b = b ∧ c' = c' ∧ k' = k' ∧ a' = a' ∧ b' = b' ∧ W = W ∧ (c = c ∧
    k = k ∧ a = a ∧ b = b ∧ c' = c' ∧ k' = k' ∧ a' = a' ∧ b' = b' ∧ W = W ∧ (c = c ∧ k = k ∧ a = a ∧ b = b ∧ c' = c' ∧ k' = k' ∧ a' = a' ∧ b' = b' ∧ W = W ∧ X1 ∧ True) ∧ True) ∧ True →
    c = c ∧ k = k ∧ a = a ∧ b = b ∧ c' = c' ∧ k' = k' ∧ a' = a' ∧ b' = b' ∧ W = W ∧ ((MdOk (mdF c k a b y.s.m).snd ∧ ((mdF c k a b y.s.m).snd.nilq = true → (mdF c k a b y.s.m).snd.q =
    [])) ∧ c = c ∧ k = k ∧ a = a ∧ b = b ∧ c' = c' ∧ k' = k' ∧ a' = a' ∧ b' = b' ∧ W = W ∧ (c = c ∧ k = k ∧ a = a ∧ b = b ∧ c' = c' ∧ k' = k' ∧ a' = a' ∧ b' = b' ∧ W = W ∧ X1 ∧ True) ∧
    True) ∧ True) (K (SF.mk 75 (N6 (rw6 ρ 0) (N6 (rw6 ρ 1) (N6 (rw6 ρ 3) (N6 (SV.c (SC.ptr 31 0)) (N6 (rw6 ρ 15) (N6 (rw6 ρ 31) (lf6 (rw6 ρ 63)) n6) (lf6 (rw6 ρ 47))) (N6 (rw6 ρ 23) (N6
    (SV.c (i6 (↑y.i : Int))) (lf6 (rw6 ρ 71)) n6) (N6 (SV.agg [i6 (mdF c' k' a' b' (mdF c k a b y.s.m).snd).fst.fst, i6 (mdF c' k' a' b' (mdF c k a b y.s.m).snd).fst.snd]) n6 n6))) (N6
    (SV.c (SC.ptr 74 0)) (N6 (rw6 ρ 19) (N6 (rw6 ρ 35) (lf6 (rw6 ρ 67)) n6) (lf6 (SV.agg [i6 c, i6 k, i6 a, i6 b]))) (N6 (rw6 ρ 27) (lf6 (rw6 ρ 43)) (lf6 (rw6 ρ 59))))) (N6 (SV.c
    (SC.ptr 33 0)) (N6 (rw6 ρ 9) (N6 (rw6 ρ 17) (N6 (rw6 ρ 33) (lf6 (rw6 ρ 65)) n6) (N6 (SV.c (SC.ptr 67 0)) n6 n6)) (N6 (rw6 ρ 25) (N6 (rw6 ρ 41) (lf6 (rw6 ρ 73)) n6) (lf6 (rw6 ρ
    57)))) (N6 (rw6 ρ 13) (N6 (rw6 ρ 21) (N6 (SV.c (SC.sliv p false len cap)) (lf6 (rw6 ρ 69)) n6) (N6 (SV.c (SC.ptr 31 0)) n6 n6)) (N6 (rw6 ρ 29) (lf6 (rw6 ρ 45)) (lf6 (rw6 ρ 61))))))
    (N6 (rw6 ρ 2) (N6 (SV.c (SC.ptr 32 0)) (N6 (rw6 ρ 8) (N6 (rw6 ρ 16) (N6 (rw6 ρ 32) (lf6 (rw6 ρ 64)) n6) (N6 (SV.c (SC.ptr 31 0)) n6 n6)) (N6 (rw6 ρ 24) (N6 (SV.c (SC.boo true
    false)) (lf6 (rw6 ρ 72)) n6) (lf6 (rw6 ρ 56)))) (N6 (SV.c (SC.ptr 75 0)) (N6 (rw6 ρ 20) (N6 (rw6 ρ 36) (lf6 (rw6 ρ 68)) n6) (N6 (SV.agg [i6 (mdF c k a b y.s.m).fst.fst, i6 (mdF c k
    a b y.s.m).fst.snd]) n6 n6)) (N6 (rw6 ρ 28) (lf6 (rw6 ρ 44)) (lf6 (rw6 ρ 60))))) (N6 (rw6 ρ 6) (N6 (SV.c (SC.ptr 67 0)) (N6 (rw6 ρ 18) (N6 (rw6 ρ 34) (lf6 (rw6 ρ 66)) n6) (N6 (SV.c
    (SC.ptr 31 0)) n6 n6)) (N6 (rw6 ρ 26) (N6 (rw6 ρ 42) (lf6 (rw6 ρ 74)) n6) (lf6 (rw6 ρ 58)))) (N6 (rw6 ρ 14) (N6 (rw6 ρ 22) (N6 (SV.c (i6 (↑len : Int))) (lf6 (rw6 ρ 70)) n6) (lf6
    (SV.agg [i6 c', i6 k', i6 a', i6 b']))) (N6 (rw6 ρ 30) (lf6 (rw6 ρ 46)) (lf6 (rw6 ρ 62))))))) []) (Mem.mk [(31, SO.ext (ob6 (mdF c' k' a' b' (mdF c k a b y.s.m).snd).snd)), (32,
    SO.cells [i6 c, i6 k, i6 a, i6 b] (OfNat.ofNat 26)), (33, SO.cells [i6 c', i6 k', i6 a', i6 b'] (OfNat.ofNat 26)), (0, SO.seen W), (67, SO.ext (HO.obj [] y.s.m)), (74, SO.cells [i6
    (mdF c k a b y.s.m).fst.fst, i6 (mdF c k a b y.s.m).fst.snd] 33), (75, SO.cells [i6 (mdF c' k' a' b' (mdF c k a b y.s.m).snd).fst.fst, i6 (mdF c' k' a' b' (mdF c k a b
    y.s.m).snd).fst.snd] 33)] 78) Scr.nil.t.t)) ∧ True) ∧ (∀ (K : KO XM6), (fun X1 : Prop => (MdOk y.s.m ∧ (y.s.m.nilq = true → y.s.m.q = [])) ∧ c = c ∧ k = k ∧ a = a ∧ b = b ∧ c' = c'
    ∧ k' = k' ∧ a' = a' ∧ b' = b' ∧ W = W ∧ ((MdOk (mdF c k a b y.s.m).snd ∧ ((mdF c k a b y.s.m).snd.nilq = true → (mdF c k a b y.s.m).snd.q = [])) ∧ c = c ∧ k = k ∧ a = a ∧ b = b ∧ c'
    = c' ∧ k' = k' ∧ a' = a' ∧ b' = b' ∧ W = W ∧ (c = c ∧ k = k ∧ a = a ∧ b = b ∧ c' = c' ∧ k' = k' ∧ a' = a' ∧ b' = b' ∧ W = W ∧ (c = c ∧ k = k ∧ a = a ∧ b = b ∧ c' = c' ∧ k' = k' ∧ a'
    = a' ∧ b' = b' ∧ W = W ∧ X1 ∧ True) ∧ True) ∧ True) ∧ (∀ (K : KO XM6), (fun X2 : Prop => (MdOk (mdF c k a b y.s.m).snd ∧ ((mdF c k a b y.s.m).snd.nilq = true → (mdF c k a b
    y.s.m).snd.q = [])) ∧ c = c ∧ k = k ∧ a = a ∧ b = b ∧ c' = c' ∧ k' = k' ∧ a' = a' ∧ b' = b' ∧ W = W ∧ (c = c ∧ k = k ∧ a = a ∧ b = b ∧ c' = c' ∧ k' = k' ∧ a' = a' ∧ b' = b' ∧ W = W
    ∧ (c = c ∧ k = k ∧ a = a ∧ b = b ∧ c' = c' ∧ k' = k' ∧ a' = a' ∧ b' = b' ∧ W = W ∧ X2 ∧ True) ∧ True) ∧ True → c = c ∧ k = k ∧ a = a ∧ b = b ∧ c' = c' ∧ k' = k' ∧ a' = a' ∧ b' = b'
    ∧ W = W ∧ ((MdOk (mdF c k a b y.s.m).snd ∧ ((mdF c k a b y.s.m).snd.nilq = true → (mdF c k a b y.s.m).snd.q = [])) ∧ c = c ∧ k = k ∧ a = a ∧ b = b ∧ c' = c' ∧ k' = k' ∧ a' = a' ∧ b'
    = b' ∧ W = W ∧ (c = c ∧ k = k ∧ a = a ∧ b = b ∧ c' = c' ∧ k' = k' ∧ a' = a' ∧ b' = b' ∧ W = W ∧ X2 ∧ True) ∧ True) ∧ True) (K (SF.mk 75 (N6 (rw6 ρ 0) (N6 (rw6 ρ 1) (N6 (rw6 ρ 3) (N6
    (SV.c (SC.ptr 31 0)) (N6 (rw6 ρ 15) (N6 (rw6 ρ 31) (lf6 (rw6 ρ 63)) n6) (lf6 (rw6 ρ 47))) (N6 (rw6 ρ 23) (N6 (SV.c (i6 (↑y.i : Int))) (lf6 (rw6 ρ 71)) n6) (N6 (SV.agg [i6 (mdF c' k'
    a' b' (mdF c k a b y.s.m).snd).fst.fst, i6 (mdF c' k' a' b' (mdF c k a b y.s.m).snd).fst.snd]) n6 n6))) (N6 (SV.c (SC.ptr 74 0)) (N6 (rw6 ρ 19) (N6 (rw6 ρ 35) (lf6 (rw6 ρ 67)) n6)
    (lf6 (SV.agg [i6 c, i6 k, i6 a, i6 b]))) (N6 (rw6 ρ 27) (lf6 (rw6 ρ 43)) (lf6 (rw6 ρ 59))))) (N6 (SV.c (SC.ptr 33 0)) (N6 (rw6 ρ 9) (N6 (rw6 ρ 17) (N6 (rw6 ρ 33) (lf6 (rw6 ρ 65))
    n6) (N6 (SV.c (SC.ptr 67 0)) n6 n6)) (N6 (rw6 ρ 25) (N6 (rw6 ρ 41) (lf6 (rw6 ρ 73)) n6) (lf6 (rw6 ρ 57)))) (N6 (rw6 ρ 13) (N6 (rw6 ρ 21) (N6 (SV.c (SC.sliv p false len cap)) (lf6
    (rw6 ρ 69)) n6) (N6 (SV.c (SC.ptr 31 0)) n6 n6)) (N6 (rw6 ρ 29) (lf6 (rw6 ρ 45)) (lf6 (rw6 ρ 61)))))) (N6 (rw6 ρ 2) (N6 (SV.c (SC.ptr 32 0)) (N6 (rw6 ρ 8) (N6 (rw6 ρ 16) (N6 (rw6 ρ
    32) (lf6 (rw6 ρ 64)) n6) (N6 (SV.c (SC.ptr 31 0)) n6 n6)) (N6 (rw6 ρ 24) (N6 (SV.c (SC.boo true false)) (lf6 (rw6 ρ 72)) n6) (lf6 (rw6 ρ 56)))) (N6 (SV.c (SC.ptr 75 0)) (N6 (rw6 ρ
    20) (N6 (rw6 ρ 36) (lf6 (rw6 ρ 68)) n6) (N6 (SV.agg [i6 (mdF c k a b y.s.m).fst.fst, i6 (mdF c k a b y.s.m).fst.snd]) n6 n6)) (N6 (rw6 ρ 28) (lf6 (rw6 ρ 44)) (lf6 (rw6 ρ 60))))) (N6
    (rw6 ρ 6) (N6 (SV.c (SC.ptr 67 0)) (N6 (rw6 ρ 18) (N6 (rw6 ρ 34) (lf6 (rw6 ρ 66)) n6) (N6 (SV.c (SC.ptr 31 0)) n6 n6)) (N6 (rw6 ρ 26) (N6 (rw6 ρ 42) (lf6 (rw6 ρ 74)) n6) (lf6 (rw6 ρ
    58)))) (N6 (rw6 ρ 14) (N6 (rw6 ρ 22) (N6 (SV.c (i6 (↑len : Int))) (lf6 (rw6 ρ 70)) n6) (lf6 (SV.agg [i6 c', i6 k', i6 a', i6 b']))) (N6 (rw6 ρ 30) (lf6 (rw6 ρ 46)) (lf6 (rw6 ρ
    62))))))) []) (Mem.mk [(31, SO.ext (ob6 (mdF c' k' a' b' (mdF c k a b y.s.m).snd).snd)), (32, SO.cells [i6 c, i6 k, i6 a, i6 b] (OfNat.ofNat 26)), (33, SO.cells [i6 c', i6 k', i6
    a', i6 b'] (OfNat.ofNat 26)), (0, SO.seen W), (67, SO.ext (HO.obj [] y.s.m)), (74, SO.cells [i6 (mdF c k a b y.s.m).fst.fst, i6 (mdF c k a b y.s.m).fst.snd] 33), (75, SO.cells [i6
    (mdF c' k' a' b' (mdF c k a b y.s.m).snd).fst.fst, i6 (mdF c' k' a' b' (mdF c k a b y.s.m).snd).fst.snd] 33)] 78) Scr.nil.t.t)) ∧ True → c = c ∧ k = k ∧ a = a ∧ b = b ∧ c' = c' ∧ k'
    = k' ∧ a' = a' ∧ b' = b' ∧ W = W ∧ ((MdOk y.s.m ∧ (y.s.m.nilq = true → y.s.m.q = [])) ∧ c = c ∧ k = k ∧ a = a ∧ b = b ∧ c' = c' ∧ k' = k' ∧ a' = a' ∧ b' = b' ∧ W = W ∧ ((MdOk (mdF c
    k a b y.s.m).snd ∧ ((mdF c k a b y.s.m).snd.nilq = true → (mdF c k a b y.s.m).snd.q = [])) ∧ c = c ∧ k = k ∧ a = a ∧ b = b ∧ c' = c' ∧ k' = k' ∧ a' = a' ∧ b' = b' ∧ W = W ∧ (c = c ∧
    k = k ∧ a = a ∧ b = b ∧ c' = c' ∧ k' = k' ∧ a' = a' ∧ b' = b' ∧ W = W ∧ X1 ∧ True) ∧ True) ∧ True) ∧ True) (K (SF.mk 75 (N6 (rw6 ρ 0) (N6 (rw6 ρ 1) (N6 (rw6 ρ 3) (N6 (SV.c (SC.ptr
    31 0)) (N6 (rw6 ρ 15) (N6 (rw6 ρ 31) (lf6 (rw6 ρ 63)) n6) (lf6 (rw6 ρ 47))) (N6 (rw6 ρ 23) (N6 (SV.c (i6 (↑y.i : Int))) (lf6 (rw6 ρ 71)) n6) (N6 (SV.agg [i6 (mdF c' k' a' b' (mdF c
    k a b y.s.m).snd).fst.fst, i6 (mdF c' k' a' b' (mdF c k a b y.s.m).snd).fst.snd]) n6 n6))) (N6 (SV.c (SC.ptr 74 0)) (N6 (rw6 ρ 19) (N6 (rw6 ρ 35) (lf6 (rw6 ρ 67)) n6) (lf6 (SV.agg
    [i6 c, i6 k, i6 a, i6 b]))) (N6 (rw6 ρ 27) (lf6 (rw6 ρ 43)) (lf6 (rw6 ρ 59))))) (N6 (SV.c (SC.ptr 33 0)) (N6 (rw6 ρ 9) (N6 (rw6 ρ 17) (N6 (rw6 ρ 33) (lf6 (rw6 ρ 65)) n6) (N6 (SV.c
    (SC.ptr 67 0)) n6 n6)) (N6 (rw6 ρ 25) (N6 (rw6 ρ 41) (lf6 (rw6 ρ 73)) n6) (lf6 (rw6 ρ 57)))) (N6 (rw6 ρ 13) (N6 (rw6 ρ 21) (N6 (SV.c (SC.sliv p false len cap)) (lf6 (rw6 ρ 69)) n6)
    (N6 (SV.c (SC.ptr 31 0)) n6 n6)) (N6 (rw6 ρ 29) (lf6 (rw6 ρ 45)) (lf6 (rw6 ρ 61)))))) (N6 (rw6 ρ 2) (N6 (SV.c (SC.ptr 32 0)) (N6 (rw6 ρ 8) (N6 (rw6 ρ 16) (N6 (rw6 ρ 32) (lf6 (rw6 ρ
    64)) n6) (N6 (SV.c (SC.ptr 31 0)) n6 n6)) (N6 (rw6 ρ 24) (N6 (SV.c (SC.boo true false)) (lf6 (rw6 ρ 72)) n6) (lf6 (rw6 ρ 56)))) (N6 (SV.c (SC.ptr 75 0)) (N6 (rw6 ρ 20) (N6 (rw6 ρ
    36) (lf6 (rw6 ρ 68)) n6) (N6 (SV.agg [i6 (mdF c k a b y.s.m).fst.fst, i6 (mdF c k a b y.s.m).fst.snd]) n6 n6)) (N6 (rw6 ρ 28) (lf6 (rw6 ρ 44)) (lf6 (rw6 ρ 60))))) (N6 (rw6 ρ 6) (N6
    (SV.c (SC.ptr 67 0)) (N6 (rw6 ρ 18) (N6 (rw6 ρ 34) (lf6 (rw6 ρ 66)) n6) (N6 (SV.c (SC.ptr 31 0)) n6 n6)) (N6 (rw6 ρ 26) (N6 (rw6 ρ 42) (lf6 (rw6 ρ 74)) n6) (lf6 (rw6 ρ 58)))) (N6
    (rw6 ρ 14) (N6 (rw6 ρ 22) (N6 (SV.c (i6 (↑len : Int))) (lf6 (rw6 ρ 70)) n6) (lf6 (SV.agg [i6 c', i6 k', i6 a', i6 b']))) (N6 (rw6 ρ 30) (lf6 (rw6 ρ 46)) (lf6 (rw6 ρ 62))))))) [])
    (Mem.mk [(31, SO.ext (ob6 (mdF c' k' a' b' (mdF c k a b y.s.m).snd).snd)), (32, SO.cells [i6 c, i6 k, i6 a, i6 b] (OfNat.ofNat 26)), (33, SO.cells [i6 c', i6 k', i6 a', i6 b']
    (OfNat.ofNat 26)), (0, SO.seen W), (67, SO.ext (HO.obj [] y.s.m)), (74, SO.cells [i6 (mdF c k a b y.s.m).fst.fst, i6 (mdF c k a b y.s.m).fst.snd] 33), (75, SO.cells [i6 (mdF c' k'
    a' b' (mdF c k a b y.s.m).snd).fst.fst, i6 (mdF c' k' a' b' (mdF c k a b y.s.m).snd).fst.snd] 33)] 78) Scr.nil.t.t)) ∧ True) (K (SF.mk 75 (N6 (rw6 ρ 0) (N6 (rw6 ρ 1) (N6 (rw6 ρ 3)
    (N6 (SV.c (SC.ptr 31 0)) (N6 (rw6 ρ 15) (N6 (rw6 ρ 31) (lf6 (rw6 ρ 63)) n6) (lf6 (rw6 ρ 47))) (N6 (rw6 ρ 23) (N6 (SV.c (i6 (↑y.i : Int))) (lf6 (rw6 ρ 71)) n6) (N6 (SV.agg [i6 (mdF
    c' k' a' b' (mdF c k a b y.s.m).snd).fst.fst, i6 (mdF c' k' a' b' (mdF c k a b y.s.m).snd).fst.snd]) n6 n6))) (N6 (SV.c (SC.ptr 74 0)) (N6 (rw6 ρ 19) (N6 (rw6 ρ 35) (lf6 (rw6 ρ 67))
    n6) (lf6 (SV.agg [i6 c, i6 k, i6 a, i6 b]))) (N6 (rw6 ρ 27) (lf6 (rw6 ρ 43)) (lf6 (rw6 ρ 59))))) (N6 (SV.c (SC.ptr 33 0)) (N6 (rw6 ρ 9) (N6 (rw6 ρ 17) (N6 (rw6 ρ 33) (lf6 (rw6 ρ
    65)) n6) (N6 (SV.c (SC.ptr 67 0)) n6 n6)) (N6 (rw6 ρ 25) (N6 (rw6 ρ 41) (lf6 (rw6 ρ 73)) n6) (lf6 (rw6 ρ 57)))) (N6 (rw6 ρ 13) (N6 (rw6 ρ 21) (N6 (SV.c (SC.sliv p false len cap))
    (lf6 (rw6 ρ 69)) n6) (N6 (SV.c (SC.ptr 31 0)) n6 n6)) (N6 (rw6 ρ 29) (lf6 (rw6 ρ 45)) (lf6 (rw6 ρ 61)))))) (N6 (rw6 ρ 2) (N6 (SV.c (SC.ptr 32 0)) (N6 (rw6 ρ 8) (N6 (rw6 ρ 16) (N6
    (rw6 ρ 32) (lf6 (rw6 ρ 64)) n6) (N6 (SV.c (SC.ptr 31 0)) n6 n6)) (N6 (rw6 ρ 24) (N6 (SV.c (SC.boo true false)) (lf6 (rw6 ρ 72)) n6) (lf6 (rw6 ρ 56)))) (N6 (SV.c (SC.ptr 75 0)) (N6
    (rw6 ρ 20) (N6 (rw6 ρ 36) (lf6 (rw6 ρ 68)) n6) (N6 (SV.agg [i6 (mdF c k a b y.s.m).fst.fst, i6 (mdF c k a b y.s.m).fst.snd]) n6 n6)) (N6 (rw6 ρ 28) (lf6 (rw6 ρ 44)) (lf6 (rw6 ρ
    60))))) (N6 (rw6 ρ 6) (N6 (SV.c (SC.ptr 67 0)) (N6 (rw6 ρ 18) (N6 (rw6 ρ 34) (lf6 (rw6 ρ 66)) n6) (N6 (SV.c (SC.ptr 31 0)) n6 n6)) (N6 (rw6 ρ 26) (N6 (rw6 ρ 42) (lf6 (rw6 ρ 74)) n6)
    (lf6 (rw6 ρ 58)))) (N6 (rw6 ρ 14) (N6 (rw6 ρ 22) (N6 (SV.c (i6 (↑len : Int))) (lf6 (rw6 ρ 70)) n6) (lf6 (SV.agg [i6 c', i6 k', i6 a', i6 b']))) (N6 (rw6 ρ 30) (lf6 (rw6 ρ 46)) (lf6
    (rw6 ρ 62))))))) []) (Mem.mk [(31, SO.ext (ob6 (mdF c' k' a' b' (mdF c k a b y.s.m).snd).snd)), (32, SO.cells [i6 c, i6 k, i6 a, i6 b] (OfNat.ofNat 26)), (33, SO.cells [i6 c', i6
    k', i6 a', i6 b'] (OfNat.ofNat 26)), (0, SO.seen W), (67, SO.ext (HO.obj [] y.s.m)), (74, SO.cells [i6 (mdF c k a b y.s.m).fst.fst, i6 (mdF c k a b y.s.m).fst.snd] 33), (75,
    SO.cells [i6 (mdF c' k' a' b' (mdF c k a b y.s.m).snd).fst.fst, i6 (mdF c' k' a' b' (mdF c k a b y.s.m).snd).fst.snd] 33)] 78) Scr.nil.t.t)) ∧ (∀ (K : KO XM6), (fun X0 : Prop =>
    (MdOk y.s.m ∧ (y.s.m.nilq = true → y.s.m.q = [])) ∧ c = c ∧ k = k ∧ a = a ∧ b = b ∧ c' = c' ∧ k' = k' ∧ a' = a' ∧ b' = b' ∧ W = W ∧ ((MdOk (mdF c k a b y.s.m).snd ∧ ((mdF c k a b
    y.s.m).snd.nilq = true → (mdF c k a b y.s.m).snd.q = [])) ∧ c = c ∧ k = k ∧ a = a ∧ b = b ∧ c' = c' ∧ k' = k' ∧ a' = a' ∧ b' = b' ∧ W = W ∧ (c = c ∧ k = k ∧ a = a ∧ b = b ∧ c' = c'
    ∧ k' = k' ∧ a' = a' ∧ b' = b' ∧ W = W ∧ (c = c ∧ k = k ∧ a = a ∧ b = b ∧ c' = c' ∧ k' = k' ∧ a' = a' ∧ b' = b' ∧ W = W ∧ (c = c ∧ k = k ∧ a = a ∧ b = b ∧ c' = c' ∧ k' = k' ∧ a' = a'
    ∧ b' = b' ∧ W = W ∧ X0 ∧ True) ∧ True) ∧ True) ∧ (∀ (K : KO XM6), (fun X1 : Prop => c = c ∧ k = k ∧ a = a ∧ b = b ∧ c' = c' ∧ k' = k' ∧ a' = a' ∧ b' = b' ∧ W = W ∧ (c = c ∧ k = k ∧
    a = a ∧ b = b ∧ c' = c' ∧ k' = k' ∧ a' = a' ∧ b' = b' ∧ W = W ∧ (c = c ∧ k = k ∧ a = a ∧ b = b ∧ c' = c' ∧ k' = k' ∧ a' = a' ∧ b' = b' ∧ W = W ∧ X1 ∧ True) ∧ True) ∧ True → c = c ∧
    k = k ∧ a = a ∧ b = b ∧ c' = c' ∧ k' = k' ∧ a' = a' ∧ b' = b' ∧ W = W ∧ (c = c ∧ k = k ∧ a = a ∧ b = b ∧ c' = c' ∧ k' = k' ∧ a' = a' ∧ b' = b' ∧ W = W ∧ (c = c ∧ k = k ∧ a = a ∧ b =
    b ∧ c' = c' ∧ k' = k' ∧ a' = a' ∧ b' = b' ∧ W = W ∧ X1 ∧ True) ∧ True) ∧ True) (K (SF.mk 75 (N6 (rw6 ρ 0) (N6 (rw6 ρ 1) (N6 (rw6 ρ 3) (N6 (SV.c (SC.ptr 31 0)) (N6 (rw6 ρ 15) (N6
    (rw6 ρ 31) (lf6 (rw6 ρ 63)) n6) (lf6 (rw6 ρ 47))) (N6 (rw6 ρ 23) (N6 (SV.c (i6 (↑y.i : Int))) (lf6 (rw6 ρ 71)) n6) (N6 (SV.agg [i6 (mdF c' k' a' b' (mdF c k a b y.s.m).snd).fst.fst,
    i6 (mdF c' k' a' b' (mdF c k a b y.s.m).snd).fst.snd]) n6 n6))) (N6 (SV.c (SC.ptr 74 0)) (N6 (rw6 ρ 19) (N6 (rw6 ρ 35) (lf6 (rw6 ρ 67)) n6) (lf6 (SV.agg [i6 c, i6 k, i6 a, i6 b])))
    (N6 (rw6 ρ 27) (lf6 (rw6 ρ 43)) (lf6 (rw6 ρ 59))))) (N6 (SV.c (SC.ptr 33 0)) (N6 (rw6 ρ 9) (N6 (rw6 ρ 17) (N6 (rw6 ρ 33) (lf6 (rw6 ρ 65)) n6) (N6 (SV.c (SC.ptr 67 0)) n6 n6)) (N6
    (rw6 ρ 25) (N6 (rw6 ρ 41) (lf6 (rw6 ρ 73)) n6) (lf6 (rw6 ρ 57)))) (N6 (rw6 ρ 13) (N6 (rw6 ρ 21) (N6 (SV.c (SC.sliv p false len cap)) (lf6 (rw6 ρ 69)) n6) (N6 (SV.c (SC.ptr 31 0)) n6
    n6)) (N6 (rw6 ρ 29) (lf6 (rw6 ρ 45)) (lf6 (rw6 ρ 61)))))) (N6 (rw6 ρ 2) (N6 (SV.c (SC.ptr 32 0)) (N6 (rw6 ρ 8) (N6 (rw6 ρ 16) (N6 (rw6 ρ 32) (lf6 (rw6 ρ 64)) n6) (N6 (SV.c (SC.ptr
    31 0)) n6 n6)) (N6 (rw6 ρ 24) (N6 (SV.c (SC.boo true false)) (lf6 (rw6 ρ 72)) n6) (lf6 (rw6 ρ 56)))) (N6 (SV.c (SC.ptr 75 0)) (N6 (rw6 ρ 20) (N6 (rw6 ρ 36) (lf6 (rw6 ρ 68)) n6) (N6
    (SV.agg [i6 (mdF c k a b y.s.m).fst.fst, i6 (mdF c k a b y.s.m).fst.snd]) n6 n6)) (N6 (rw6 ρ 28) (lf6 (rw6 ρ 44)) (lf6 (rw6 ρ 60))))) (N6 (rw6 ρ 6) (N6 (SV.c (SC.ptr 67 0)) (N6 (rw6
    ρ 18) (N6 (rw6 ρ 34) (lf6 (rw6 ρ 66)) n6) (N6 (SV.c (SC.ptr 31 0)) n6 n6)) (N6 (rw6 ρ 26) (N6 (rw6 ρ 42) (lf6 (rw6 ρ 74)) n6) (lf6 (rw6 ρ 58)))) (N6 (rw6 ρ 14) (N6 (rw6 ρ 22) (N6
    (SV.c (i6 (↑len : Int))) (lf6 (rw6 ρ 70)) n6) (lf6 (SV.agg [i6 c', i6 k', i6 a', i6 b']))) (N6 (rw6 ρ 30) (lf6 (rw6 ρ 46)) (lf6 (rw6 ρ 62))))))) []) (Mem.mk [(31, SO.ext (ob6 (mdF
    c' k' a' b' (mdF c k a b y.s.m).snd).snd)), (32, SO.cells [i6 c, i6 k, i6 a, i6 b] (OfNat.ofNat 26)), (33, SO.cells [i6 c', i6 k', i6 a', i6 b'] (OfNat.ofNat 26)), (0, SO.seen W),
    (67, SO.ext (HO.obj [] y.s.m)), (74, SO.cells [i6 (mdF c k a b y.s.m).fst.fst, i6 (mdF c k a b y.s.m).fst.snd] 33), (75, SO.cells [i6 (mdF c' k' a' b' (mdF c k a b
    y.s.m).snd).fst.fst, i6 (mdF c' k' a' b' (mdF c k a b y.s.m).snd).fst.snd] 33)] 78) Scr.nil.t.t)) ∧ True) ∧ (∀ (K : KO XM6), (fun X1 : Prop => (MdOk (mdF c k a b y.s.m).snd ∧ ((mdF
    c k a b y.s.m).snd.nilq = true → (mdF c k a b y.s.m).snd.q = [])) ∧ c = c ∧ k = k ∧ a = a ∧ b = b ∧ c' = c' ∧ k' = k' ∧ a' = a' ∧ b' = b' ∧ W = W ∧ (c = c ∧ k = k ∧ a = a ∧ b = b ∧
    c' = c' ∧ k' = k' ∧ a' = a' ∧ b' = b' ∧ W = W ∧ (c = c ∧ k = k ∧ a = a ∧ b = b ∧ c' = c' ∧ k' = k' ∧ a' = a' ∧ b' = b' ∧ W = W ∧ (c = c ∧ k = k ∧ a = a ∧ b = b ∧ c' = c' ∧ k' = k' ∧
    a' = a' ∧ b' = b' ∧ W = W ∧ X1 ∧ True) ∧ True) ∧ True) ∧ (∀ (K : KO XM6), (fun X2 : Prop => c = c ∧ k = k ∧ a = a ∧ b = b ∧ c' = c' ∧ k' = k' ∧ a' = a' ∧ b' = b' ∧ W = W ∧ (c = c ∧
    k = k ∧ a = a ∧ b = b ∧ c' = c' ∧ k' = k' ∧ a' = a' ∧ b' = b' ∧ W = W ∧ (c = c ∧ k = k ∧ a = a ∧ b = b ∧ c' = c' ∧ k' = k' ∧ a' = a' ∧ b' = b' ∧ W = W ∧ X2 ∧ True) ∧ True) ∧ True →
    c = c ∧ k = k ∧ a = a ∧ b = b ∧ c' = c' ∧ k' = k' ∧ a' = a' ∧ b' = b' ∧ W = W ∧ (c = c ∧ k = k ∧ a = a ∧ b = b ∧ c' = c' ∧ k' = k' ∧ a' = a' ∧ b' = b' ∧ W = W ∧ (c = c ∧ k = k ∧ a =
    a ∧ b = b ∧ c' = c' ∧ k' = k' ∧ a' = a' ∧ b' = b' ∧ W = W ∧ X2 ∧ True) ∧ True) ∧ True) (K (SF.mk 75 (N6 (rw6 ρ 0) (N6 (rw6 ρ 1) (N6 (rw6 ρ 3) (N6 (SV.c (SC.ptr 31 0)) (N6 (rw6 ρ 15)
    (N6 (rw6 ρ 31) (lf6 (rw6 ρ 63)) n6) (lf6 (rw6 ρ 47))) (N6 (rw6 ρ 23) (N6 (SV.c (i6 (↑y.i : Int))) (lf6 (rw6 ρ 71)) n6) (N6 (SV.agg [i6 (mdF c' k' a' b' (mdF c k a b
    y.s.m).snd).fst.fst, i6 (mdF c' k' a' b' (mdF c k a b y.s.m).snd).fst.snd]) n6 n6))) (N6 (SV.c (SC.ptr 74 0)) (N6 (rw6 ρ 19) (N6 (rw6 ρ 35) (lf6 (rw6 ρ 67)) n6) (lf6 (SV.agg [i6 c,
    i6 k, i6 a, i6 b]))) (N6 (rw6 ρ 27) (lf6 (rw6 ρ 43)) (lf6 (rw6 ρ 59))))) (N6 (SV.c (SC.ptr 33 0)) (N6 (rw6 ρ 9) (N6 (rw6 ρ 17) (N6 (rw6 ρ 33) (lf6 (rw6 ρ 65)) n6) (N6 (SV.c (SC.ptr
    67 0)) n6 n6)) (N6 (rw6 ρ 25) (N6 (rw6 ρ 41) (lf6 (rw6 ρ 73)) n6) (lf6 (rw6 ρ 57)))) (N6 (rw6 ρ 13) (N6 (rw6 ρ 21) (N6 (SV.c (SC.sliv p false len cap)) (lf6 (rw6 ρ 69)) n6) (N6
    (SV.c (SC.ptr 31 0)) n6 n6)) (N6 (rw6 ρ 29) (lf6 (rw6 ρ 45)) (lf6 (rw6 ρ 61)))))) (N6 (rw6 ρ 2) (N6 (SV.c (SC.ptr 32 0)) (N6 (rw6 ρ 8) (N6 (rw6 ρ 16) (N6 (rw6 ρ 32) (lf6 (rw6 ρ 64))
    n6) (N6 (SV.c (SC.ptr 31 0)) n6 n6)) (N6 (rw6 ρ 24) (N6 (SV.c (SC.boo true false)) (lf6 (rw6 ρ 72)) n6) (lf6 (rw6 ρ 56)))) (N6 (SV.c (SC.ptr 75 0)) (N6 (rw6 ρ 20) (N6 (rw6 ρ 36)
    (lf6 (rw6 ρ 68)) n6) (N6 (SV.agg [i6 (mdF c k a b y.s.m).fst.fst, i6 (mdF c k a b y.s.m).fst.snd]) n6 n6)) (N6 (rw6 ρ 28) (lf6 (rw6 ρ 44)) (lf6 (rw6 ρ 60))))) (N6 (rw6 ρ 6) (N6
    (SV.c (SC.ptr 67 0)) (N6 (rw6 ρ 18) (N6 (rw6 ρ 34) (lf6 (rw6 ρ 66)) n6) (N6 (SV.c (SC.ptr 31 0)) n6 n6)) (N6 (rw6 ρ 26) (N6 (rw6 ρ 42) (lf6 (rw6 ρ 74)) n6) (lf6 (rw6 ρ 58)))) (N6
    (rw6 ρ 14) (N6 (rw6 ρ 22) (N6 (SV.c (i6 (↑len : Int))) (lf6 (rw6 ρ 70)) n6) (lf6 (SV.agg [i6 c', i6 k', i6 a', i6 b']))) (N6 (rw6 ρ 30) (lf6 (rw6 ρ 46)) (lf6 (rw6 ρ 62))))))) [])
    (Mem.mk [(31, SO.ext (ob6 (mdF c' k' a' b' (mdF c k a b y.s.m).snd).snd)), (32, SO.cells [i6 c, i6 k, i6 a, i6 b] (OfNat.ofNat 26)), (33, SO.cells [i6 c', i6 k', i6 a', i6 b']
    (OfNat.ofNat 26)), (0, SO.seen W), (67, SO.ext (HO.obj [] y.s.m)), (74, SO.cells [i6 (mdF c k a b y.s.m).fst.fst, i6 (mdF c k a b y.s.m).fst.snd] 33), (75, SO.cells [i6 (mdF c' k'
    a' b' (mdF c k a b y.s.m).snd).fst.fst, i6 (mdF c' k' a' b' (mdF c k a b y.s.m).snd).fst.snd] 33)] 78) Scr.nil.t.t)) ∧ True → c = c ∧ k = k ∧ a = a ∧ b = b ∧ c' = c' ∧ k' = k' ∧ a'
    = a' ∧ b' = b' ∧ W = W ∧ ((MdOk (mdF c k a b y.s.m).snd ∧ ((mdF c k a b y.s.m).snd.nilq = true → (mdF c k a b y.s.m).snd.q = [])) ∧ c = c ∧ k = k ∧ a = a ∧ b = b ∧ c' = c' ∧ k' = k'
    ∧ a' = a' ∧ b' = b' ∧ W = W ∧ (c = c ∧ k = k ∧ a = a ∧ b = b ∧ c' = c' ∧ k' = k' ∧ a' = a' ∧ b' = b' ∧ W = W ∧ (c = c ∧ k = k ∧ a = a ∧ b = b ∧ c' = c' ∧ k' = k' ∧ a' = a' ∧ b' = b'
    ∧ W = W ∧ X1 ∧ True) ∧ True) ∧ True) ∧ (∀ (K : KO XM6), (fun X2 : Prop => (MdOk (mdF c k a b y.s.m).snd ∧ ((mdF c k a b y.s.m).snd.nilq = true → (mdF c k a b y.s.m).snd.q = [])) ∧ c
    = c ∧ k = k ∧ a = a ∧ b = b ∧ c' = c' ∧ k' = k' ∧ a' = a' ∧ b' = b' ∧ W = W ∧ (c = c ∧ k = k ∧ a = a ∧ b = b ∧ c' = c' ∧ k' = k' ∧ a' = a' ∧ b' = b' ∧ W = W ∧ (c = c ∧ k = k ∧ a = a
    ∧ b = b ∧ c' = c' ∧ k' = k' ∧ a' = a' ∧ b' = b' ∧ W = W ∧ X2 ∧ True) ∧ True) ∧ True → c = c ∧ k = k ∧ a = a ∧ b = b ∧ c' = c' ∧ k' = k' ∧ a' = a' ∧ b' = b' ∧ W = W ∧ ((MdOk (mdF c k
    a b y.s.m).snd ∧ ((mdF c k a b y.s.m).snd.nilq = true → (mdF c k a b y.s.m).snd.q = [])) ∧ c = c ∧ k = k ∧ a = a ∧ b = b ∧ c' = c' ∧ k' = k' ∧ a' = a' ∧ b' = b' ∧ W = W ∧ (c = c ∧ k
    = k ∧ a = a ∧ b = b ∧ c' = c' ∧ k' = k' ∧ a' = a' ∧ b' = b' ∧ W = W ∧ X2 ∧ True) ∧ True) ∧ True) (K (SF.mk 75 (N6 (rw6 ρ 0) (N6 (rw6 ρ 1) (N6 (rw6 ρ 3) (N6 (SV.c (SC.ptr 31 0)) (N6
    (rw6 ρ 15) (N6 (rw6 ρ 31) (lf6 (rw6 ρ 63)) n6) (lf6 (rw6 ρ 47))) (N6 (rw6 ρ 23) (N6 (SV.c (i6 (↑y.i : Int))) (lf6 (rw6 ρ 71)) n6) (N6 (SV.agg [i6 (mdF c' k' a' b' (mdF c k a b
    y.s.m).snd).fst.fst, i6 (mdF c' k' a' b' (mdF c k a b y.s.m).snd).fst.snd]) n6 n6))) (N6 (SV.c (SC.ptr 74 0)) (N6 (rw6 ρ 19) (N6 (rw6 ρ 35) (lf6 (rw6 ρ 67)) n6) (lf6 (SV.agg [i6 c,
    i6 k, i6 a, i6 b]))) (N6 (rw6 ρ 27) (lf6 (rw6 ρ 43)) (lf6 (rw6 ρ 59))))) (N6 (SV.c (SC.ptr 33 0)) (N6 (rw6 ρ 9) (N6 (rw6 ρ 17) (N6 (rw6 ρ 33) (lf6 (rw6 ρ 65)) n6) (N6 (SV.c (SC.ptr
    67 0)) n6 n6)) (N6 (rw6 ρ 25) (N6 (rw6 ρ 41) (lf6 (rw6 ρ 73)) n6) (lf6 (rw6 ρ 57)))) (N6 (rw6 ρ 13) (N6 (rw6 ρ 21) (N6 (SV.c (SC.sliv p false len cap)) (lf6 (rw6 ρ 69)) n6) (N6
    (SV.c (SC.ptr 31 0)) n6 n6)) (N6 (rw6 ρ 29) (lf6 (rw6 ρ 45)) (lf6 (rw6 ρ 61)))))) (N6 (rw6 ρ 2) (N6 (SV.c (SC.ptr 32 0)) (N6 (rw6 ρ 8) (N6 (rw6 ρ 16) (N6 (rw6 ρ 32) (lf6 (rw6 ρ 64))
    n6) (N6 (SV.c (SC.ptr 31 0)) n6 n6)) (N6 (rw6 ρ 24) (N6 (SV.c (SC.boo true false)) (lf6 (rw6 ρ 72)) n6) (lf6 (rw6 ρ 56)))) (N6 (SV.c (SC.ptr 75 0)) (N6 (rw6 ρ 20) (N6 (rw6 ρ 36)
    (lf6 (rw6 ρ 68)) n6) (N6 (SV.agg [i6 (mdF c k a b y.s.m).fst.fst, i6 (mdF c k a b y.s.m).fst.snd]) n6 n6)) (N6 (rw6 ρ 28) (lf6 (rw6 ρ 44)) (lf6 (rw6 ρ 60))))) (N6 (rw6 ρ 6) (N6
    (SV.c (SC.ptr 67 0)) (N6 (rw6 ρ 18) (N6 (rw6 ρ 34) (lf6 (rw6 ρ 66)) n6) (N6 (SV.c (SC.ptr 31 0)) n6 n6)) (N6 (rw6 ρ 26) (N6 (rw6 ρ 42) (lf6 (rw6 ρ 74)) n6) (lf6 (rw6 ρ 58)))) (N6
    (rw6 ρ 14) (N6 (rw6 ρ 22) (N6 (SV.c (i6 (↑len : Int))) (lf6 (rw6 ρ 70)) n6) (lf6 (SV.agg [i6 c', i6 k', i6 a', i6 b']))) (N6 (rw6 ρ 30) (lf6 (rw6 ρ 46)) (lf6 (rw6 ρ 62))))))) [])
    (Mem.mk [(31, SO.ext (ob6 (mdF c' k' a' b' (mdF c k a b y.s.m).snd).snd)), (32, SO.cells [i6 c, i6 k, i6 a, i6 b] (OfNat.ofNat 26)), (33, SO.cells [i6 c', i6 k', i6 a', i6 b']
    (OfNat.ofNat 26)), (0, SO.seen W), (67, SO.ext (HO.obj [] y.s.m)), (74, SO.cells [i6 (mdF c k a b y.s.m).fst.fst, i6 (mdF c k a b y.s.m).fst.snd] 33), (75, SO.cells [i6 (mdF c' k'
    a' b' (mdF c k a b y.s.m).snd).fst.fst, i6 (mdF c' k' a' b' (mdF c k a b y.s.m).snd).fst.snd] 33)] 78) Scr.nil.t.t)) ∧ True) (K (SF.mk 75 (N6 (rw6 ρ 0) (N6 (rw6 ρ 1) (N6 (rw6 ρ 3)
    (N6 (SV.c (SC.ptr 31 0)) (N6 (rw6 ρ 15) (N6 (rw6 ρ 31) (lf6 (rw6 ρ 63)) n6) (lf6 (rw6 ρ 47))) (N6 (rw6 ρ 23) (N6 (SV.c (i6 (↑y.i : Int))) (lf6 (rw6 ρ 71)) n6) (N6 (SV.agg [i6 (mdF
    c' k' a' b' (mdF c k a b y.s.m).snd).fst.fst, i6 (mdF c' k' a' b' (mdF c k a b y.s.m).snd).fst.snd]) n6 n6))) (N6 (SV.c (SC.ptr 74 0)) (N6 (rw6 ρ 19) (N6 (rw6 ρ 35) (lf6 (rw6 ρ 67))
    n6) (lf6 (SV.agg [i6 c, i6 k, i6 a, i6 b]))) (N6 (rw6 ρ 27) (lf6 (rw6 ρ 43)) (lf6 (rw6 ρ 59))))) (N6 (SV.c (SC.ptr 33 0)) (N6 (rw6 ρ 9) (N6 (rw6 ρ 17) (N6 (rw6 ρ 33) (lf6 (rw6 ρ
    65)) n6) (N6 (SV.c (SC.ptr 67 0)) n6 n6)) (N6 (rw6 ρ 25) (N6 (rw6 ρ 41) (lf6 (rw6 ρ 73)) n6) (lf6 (rw6 ρ 57)))) (N6 (rw6 ρ 13) (N6 (rw6 ρ 21) (N6 (SV.c (SC.sliv p false len cap))
    (lf6 (rw6 ρ 69)) n6) (N6 (SV.c (SC.ptr 31 0)) n6 n6)) (N6 (rw6 ρ 29) (lf6 (rw6 ρ 45)) (lf6 (rw6 ρ 61)))))) (N6 (rw6 ρ 2) (N6 (SV.c (SC.ptr 32 0)) (N6 (rw6 ρ 8) (N6 (rw6 ρ 16) (N6
    (rw6 ρ 32) (lf6 (rw6 ρ 64)) n6) (N6 (SV.c (SC.ptr 31 0)) n6 n6)) (N6 (rw6 ρ 24) (N6 (SV.c (SC.boo true false)) (lf6 (rw6 ρ 72)) n6) (lf6 (rw6 ρ 56)))) (N6 (SV.c (SC.ptr 75 0)) (N6
    (rw6 ρ 20) (N6 (rw6 ρ 36) (lf6 (rw6 ρ 68)) n6) (N6 (SV.agg [i6 (mdF c k a b y.s.m).fst.fst, i6 (mdF c k a b y.s.m).fst.snd]) n6 n6)) (N6 (rw6 ρ 28) (lf6 (rw6 ρ 44)) (lf6 (rw6 ρ
    60))))) (N6 (rw6 ρ 6) (N6 (SV.c (SC.ptr 67 0)) (N6 (rw6 ρ 18) (N6 (rw6 ρ 34) (lf6 (rw6 ρ 66)) n6) (N6 (SV.c (SC.ptr 31 0)) n6 n6)) (N6 (rw6 ρ 26) (N6 (rw6 ρ 42) (lf6 (rw6 ρ 74)) n6)
    (lf6 (rw6 ρ 58)))) (N6 (rw6 ρ 14) (N6 (rw6 ρ 22) (N6 (SV.c (i6 (↑len : Int))) (lf6 (rw6 ρ 70)) n6) (lf6 (SV.agg [i6 c', i6 k', i6 a', i6 b']))) (N6 (rw6 ρ 30) (lf6 (rw6 ρ 46)) (lf6
    (rw6 ρ 62))))))) []) (Mem.mk [(31, SO.ext (ob6 (mdF c' k' a' b' (mdF c k a b y.s.m).snd).snd)), (32, SO.cells [i6 c, i6 k, i6 a, i6 b] (OfNat.ofNat 26)), (33, SO.cells [i6 c', i6
    k', i6 a', i6 b'] (OfNat.ofNat 26)), (0, SO.seen W), (67, SO.ext (HO.obj [] y.s.m)), (74, SO.cells [i6 (mdF c k a b y.s.m).fst.fst, i6 (mdF c k a b y.s.m).fst.snd] 33), (75,
    SO.cells [i6 (mdF c' k' a' b' (mdF c k a b y.s.m).snd).fst.fst, i6 (mdF c' k' a' b' (mdF c k a b y.s.m).snd).fst.snd] 33)] 78) Scr.nil.t.t)) ∧ (∀ (K : KO XM6), (fun X1 : Prop =>
    (MdOk (mdF c k a b y.s.m).snd ∧ ((mdF c k a b y.s.m).snd.nilq = true → (mdF c k a b y.s.m).snd.q = [])) ∧ c = c ∧ k = k ∧ a = a ∧ b = b ∧ c' = c' ∧ k' = k' ∧ a' = a' ∧ b' = b' ∧ W =
    W ∧ (c = c ∧ k = k ∧ a = a ∧ b = b ∧ c' = c' ∧ k' = k' ∧ a' = a' ∧ b' = b' ∧ W = W ∧ (c = c ∧ k = k ∧ a = a ∧ b = b ∧ c' = c' ∧ k' = k' ∧ a' = a' ∧ b' = b' ∧ W = W ∧ (c = c ∧ k = k
    ∧ a = a ∧ b = b ∧ c' = c' ∧ k' = k' ∧ a' = a' ∧ b' = b' ∧ W = W ∧ X1 ∧ True) ∧ True) ∧ True) ∧ (∀ (K : KO XM6), (fun X2 : Prop => c = c ∧ k = k ∧ a = a ∧ b = b ∧ c' = c' ∧ k' = k' ∧
    a' = a' ∧ b' = b' ∧ W = W ∧ (c = c ∧ k = k ∧ a = a ∧ b = b ∧ c' = c' ∧ k' = k' ∧ a' = a' ∧ b' = b' ∧ W = W ∧ (c = c ∧ k = k ∧ a = a ∧ b = b ∧ c' = c' ∧ k' = k' ∧ a' = a' ∧ b' = b' ∧
    W = W ∧ X2 ∧ True) ∧ True) ∧ True → c = c ∧ k = k ∧ a = a ∧ b = b ∧ c' = c' ∧ k' = k' ∧ a' = a' ∧ b' = b' ∧ W = W ∧ (c = c ∧ k = k ∧ a = a ∧ b = b ∧ c' = c' ∧ k' = k' ∧ a' = a' ∧ b'
    = b' ∧ W = W ∧ (c = c ∧ k = k ∧ a = a ∧ b = b ∧ c' = c' ∧ k' = k' ∧ a' = a' ∧ b' = b' ∧ W = W ∧ X2 ∧ True) ∧ True) ∧ True) (K (SF.mk 75 (N6 (rw6 ρ 0) (N6 (rw6 ρ 1) (N6 (rw6 ρ 3) (N6
    (SV.c (SC.ptr 31 0)) (N6 (rw6 ρ 15) (N6 (rw6 ρ 31) (lf6 (rw6 ρ 63)) n6) (lf6 (rw6 ρ 47))) (N6 (rw6 ρ 23) (N6 (SV.c (i6 (↑y.i : Int))) (lf6 (rw6 ρ 71)) n6) (N6 (SV.agg [i6 (mdF c' k'
    a' b' (mdF c k a b y.s.m).snd).fst.fst, i6 (mdF c' k' a' b' (mdF c k a b y.s.m).snd).fst.snd]) n6 n6))) (N6 (SV.c (SC.ptr 74 0)) (N6 (rw6 ρ 19) (N6 (rw6 ρ 35) (lf6 (rw6 ρ 67)) n6)
    (lf6 (SV.agg [i6 c, i6 k, i6 a, i6 b]))) (N6 (rw6 ρ 27) (lf6 (rw6 ρ 43)) (lf6 (rw6 ρ 59))))) (N6 (SV.c (SC.ptr 33 0)) (N6 (rw6 ρ 9) (N6 (rw6 ρ 17) (N6 (rw6 ρ 33) (lf6 (rw6 ρ 65))
    n6) (N6 (SV.c (SC.ptr 67 0)) n6 n6)) (N6 (rw6 ρ 25) (N6 (rw6 ρ 41) (lf6 (rw6 ρ 73)) n6) (lf6 (rw6 ρ 57)))) (N6 (rw6 ρ 13) (N6 (rw6 ρ 21) (N6 (SV.c (SC.sliv p false len cap)) (lf6
    (rw6 ρ 69)) n6) (N6 (SV.c (SC.ptr 31 0)) n6 n6)) (N6 (rw6 ρ 29) (lf6 (rw6 ρ 45)) (lf6 (rw6 ρ 61)))))) (N6 (rw6 ρ 2) (N6 (SV.c (SC.ptr 32 0)) (N6 (rw6 ρ 8) (N6 (rw6 ρ 16) (N6 (rw6 ρ
    32) (lf6 (rw6 ρ 64)) n6) (N6 (SV.c (SC.ptr 31 0)) n6 n6)) (N6 (rw6 ρ 24) (N6 (SV.c (SC.boo true false)) (lf6 (rw6 ρ 72)) n6) (lf6 (rw6 ρ 56)))) (N6 (SV.c (SC.ptr 75 0)) (N6 (rw6 ρ
    20) (N6 (rw6 ρ 36) (lf6 (rw6 ρ 68)) n6) (N6 (SV.agg [i6 (mdF c k a b y.s.m).fst.fst, i6 (mdF c k a b y.s.m).fst.snd]) n6 n6)) (N6 (rw6 ρ 28) (lf6 (rw6 ρ 44)) (lf6 (rw6 ρ 60))))) (N6
    (rw6 ρ 6) (N6 (SV.c (SC.ptr 67 0)) (N6 (rw6 ρ 18) (N6 (rw6 ρ 34) (lf6 (rw6 ρ 66)) n6) (N6 (SV.c (SC.ptr 31 0)) n6 n6)) (N6 (rw6 ρ 26) (N6 (rw6 ρ 42) (lf6 (rw6 ρ 74)) n6) (lf6 (rw6 ρ
    58)))) (N6 (rw6 ρ 14) (N6 (rw6 ρ 22) (N6 (SV.c (i6 (↑len : Int))) (lf6 (rw6 ρ 70)) n6) (lf6 (SV.agg [i6 c', i6 k', i6 a', i6 b']))) (N6 (rw6 ρ 30) (lf6 (rw6 ρ 46)) (lf6 (rw6 ρ
    62))))))) []) (Mem.mk [(31, SO.ext (ob6 (mdF c' k' a' b' (mdF c k a b y.s.m).snd).snd)), (32, SO.cells [i6 c, i6 k, i6 a, i6 b] (OfNat.ofNat 26)), (33, SO.cells [i6 c', i6 k', i6
    a', i6 b'] (OfNat.ofNat 26)), (0, SO.seen W), (67, SO.ext (HO.obj [] y.s.m)), (74, SO.cells [i6 (mdF c k a b y.s.m).fst.fst, i6 (mdF c k a b y.s.m).fst.snd] 33), (75, SO.cells [i6
    (mdF c' k' a' b' (mdF c k a b y.s.m).snd).fst.fst, i6 (mdF c' k' a' b' (mdF c k a b y.s.m).snd).fst.snd] 33)] 78) Scr.nil.t.t)) ∧ True → c = c ∧ k = k ∧ a = a ∧ b = b ∧ c' = c' ∧ k'
    = k' ∧ a' = a' ∧ b' = b' ∧ W = W ∧ ((MdOk (mdF c k a b y.s.m).snd ∧ ((mdF c k a b y.s.m).snd.nilq = true → (mdF c k a b y.s.m).snd.q = [])) ∧ c = c ∧ k = k ∧ a = a ∧ b = b ∧ c' = c'
    ∧ k' = k' ∧ a' = a' ∧ b' = b' ∧ W = W ∧ (c = c ∧ k = k ∧ a = a ∧ b = b ∧ c' = c' ∧ k' = k' ∧ a' = a' ∧ b' = b' ∧ W = W ∧ (c = c ∧ k = k ∧ a = a ∧ b = b ∧ c' = c' ∧ k' = k' ∧ a' = a'
    ∧ b' = b' ∧ W = W ∧ X1 ∧ True) ∧ True) ∧ True) ∧ (∀ (K : KO XM6), (fun X2 : Prop => (MdOk (mdF c k a b y.s.m).snd ∧ ((mdF c k a b y.s.m).snd.nilq = true → (mdF c k a b y.s.m).snd.q
    = [])) ∧ c = c ∧ k = k ∧ a = a ∧ b = b ∧ c' = c' ∧ k' = k' ∧ a' = a' ∧ b' = b' ∧ W = W ∧ (c = c ∧ k = k ∧ a = a ∧ b = b ∧ c' = c' ∧ k' = k' ∧ a' = a' ∧ b' = b' ∧ W = W ∧ (c = c ∧ k
    = k ∧ a = a ∧ b = b ∧ c' = c' ∧ k' = k' ∧ a' = a' ∧ b' = b' ∧ W = W ∧ X2 ∧ True) ∧ True) ∧ True → c = c ∧ k = k ∧ a = a ∧ b = b ∧ c' = c' ∧ k' = k' ∧ a' = a' ∧ b' = b' ∧ W = W ∧
    ((MdOk (mdF c k a b y.s.m).snd ∧ ((mdF c k a b y.s.m).snd.nilq = true → (mdF c k a b y.s.m).snd.q = [])) ∧ c = c ∧ k = k ∧ a = a ∧ b = b ∧ c' = c' ∧ k' = k' ∧ a' = a' ∧ b' = b' ∧ W
    = W ∧ (c = c ∧ k = k ∧ a = a ∧ b = b ∧ c' = c' ∧ k' = k' ∧ a' = a' ∧ b' = b' ∧ W = W ∧ X2 ∧ True) ∧ True) ∧ True) (K (SF.mk 75 (N6 (rw6 ρ 0) (N6 (rw6 ρ 1) (N6 (rw6 ρ 3) (N6 (SV.c
    (SC.ptr 31 0)) (N6 (rw6 ρ 15) (N6 (rw6 ρ 31) (lf6 (rw6 ρ 63)) n6) (lf6 (rw6 ρ 47))) (N6 (rw6 ρ 23) (N6 (SV.c (i6 (↑y.i : Int))) (lf6 (rw6 ρ 71)) n6) (N6 (SV.agg [i6 (mdF c' k' a' b'
    (mdF c k a b y.s.m).snd).fst.fst, i6 (mdF c' k' a' b' (mdF c k a b y.s.m).snd).fst.snd]) n6 n6))) (N6 (SV.c (SC.ptr 74 0)) (N6 (rw6 ρ 19) (N6 (rw6 ρ 35) (lf6 (rw6 ρ 67)) n6) (lf6
    (SV.agg [i6 c, i6 k, i6 a, i6 b]))) (N6 (rw6 ρ 27) (lf6 (rw6 ρ 43)) (lf6 (rw6 ρ 59))))) (N6 (SV.c (SC.ptr 33 0)) (N6 (rw6 ρ 9) (N6 (rw6 ρ 17) (N6 (rw6 ρ 33) (lf6 (rw6 ρ 65)) n6) (N6
    (SV.c (SC.ptr 67 0)) n6 n6)) (N6 (rw6 ρ 25) (N6 (rw6 ρ 41) (lf6 (rw6 ρ 73)) n6) (lf6 (rw6 ρ 57)))) (N6 (rw6 ρ 13) (N6 (rw6 ρ 21) (N6 (SV.c (SC.sliv p false len cap)) (lf6 (rw6 ρ
    69)) n6) (N6 (SV.c (SC.ptr 31 0)) n6 n6)) (N6 (rw6 ρ 29) (lf6 (rw6 ρ 45)) (lf6 (rw6 ρ 61)))))) (N6 (rw6 ρ 2) (N6 (SV.c (SC.ptr 32 0)) (N6 (rw6 ρ 8) (N6 (rw6 ρ 16) (N6 (rw6 ρ 32)
    (lf6 (rw6 ρ 64)) n6) (N6 (SV.c (SC.ptr 31 0)) n6 n6)) (N6 (rw6 ρ 24) (N6 (SV.c (SC.boo true false)) (lf6 (rw6 ρ 72)) n6) (lf6 (rw6 ρ 56)))) (N6 (SV.c (SC.ptr 75 0)) (N6 (rw6 ρ 20)
    (N6 (rw6 ρ 36) (lf6 (rw6 ρ 68)) n6) (N6 (SV.agg [i6 (mdF c k a b y.s.m).fst.fst, i6 (mdF c k a b y.s.m).fst.snd]) n6 n6)) (N6 (rw6 ρ 28) (lf6 (rw6 ρ 44)) (lf6 (rw6 ρ 60))))) (N6
    (rw6 ρ 6) (N6 (SV.c (SC.ptr 67 0)) (N6 (rw6 ρ 18) (N6 (rw6 ρ 34) (lf6 (rw6 ρ 66)) n6) (N6 (SV.c (SC.ptr 31 0)) n6 n6)) (N6 (rw6 ρ 26) (N6 (rw6 ρ 42) (lf6 (rw6 ρ 74)) n6) (lf6 (rw6 ρ
    58)))) (N6 (rw6 ρ 14) (N6 (rw6 ρ 22) (N6 (SV.c (i6 (↑len : Int))) (lf6 (rw6 ρ 70)) n6) (lf6 (SV.agg [i6 c', i6 k', i6 a', i6 b']))) (N6 (rw6 ρ 30) (lf6 (rw6 ρ 46)) (lf6 (rw6 ρ
    62))))))) []) (Mem.mk [(31, SO.ext (ob6 (mdF c' k' a' b' (mdF c k a b y.s.m).snd).snd)), (32, SO.cells [i6 c, i6 k, i6 a, i6 b] (OfNat.ofNat 26)), (33, SO.cells [i6 c', i6 k', i6
    a', i6 b'] (OfNat.ofNat 26)), (0, SO.seen W), (67, SO.ext (HO.obj [] y.s.m)), (74, SO.cells [i6 (mdF c k a b y.s.m).fst.fst, i6 (mdF c k a b y.s.m).fst.snd] 33), (75, SO.cells [i6
    (mdF c' k' a' b' (mdF c k a b y.s.m).snd).fst.fst, i6 (mdF c' k' a' b' (mdF c k a b y.s.m).snd).fst.snd] 33)] 78) Scr.nil.t.t)) ∧ True) (K (SF.mk 75 (N6 (rw6 ρ 0) (N6 (rw6 ρ 1) (N6
    (rw6 ρ 3) (N6 (SV.c (SC.ptr 31 0)) (N6 (rw6 ρ 15) (N6 (rw6 ρ 31) (lf6 (rw6 ρ 63)) n6) (lf6 (rw6 ρ 47))) (N6 (rw6 ρ 23) (N6 (SV.c (i6 (↑y.i : Int))) (lf6 (rw6 ρ 71)) n6) (N6 (SV.agg
    [i6 (mdF c' k' a' b' (mdF c k a b y.s.m).snd).fst.fst, i6 (mdF c' k' a' b' (mdF c k a b y.s.m).snd).fst.snd]) n6 n6))) (N6 (SV.c (SC.ptr 74 0)) (N6 (rw6 ρ 19) (N6 (rw6 ρ 35) (lf6
    (rw6 ρ 67)) n6) (lf6 (SV.agg [i6 c, i6 k, i6 a, i6 b]))) (N6 (rw6 ρ 27) (lf6 (rw6 ρ 43)) (lf6 (rw6 ρ 59))))) (N6 (SV.c (SC.ptr 33 0)) (N6 (rw6 ρ 9) (N6 (rw6 ρ 17) (N6 (rw6 ρ 33)
    (lf6 (rw6 ρ 65)) n6) (N6 (SV.c (SC.ptr 67 0)) n6 n6)) (N6 (rw6 ρ 25) (N6 (rw6 ρ 41) (lf6 (rw6 ρ 73)) n6) (lf6 (rw6 ρ 57)))) (N6 (rw6 ρ 13) (N6 (rw6 ρ 21) (N6 (SV.c (SC.sliv p false
    len cap)) (lf6 (rw6 ρ 69)) n6) (N6 (SV.c (SC.ptr 31 0)) n6 n6)) (N6 (rw6 ρ 29) (lf6 (rw6 ρ 45)) (lf6 (rw6 ρ 61)))))) (N6 (rw6 ρ 2) (N6 (SV.c (SC.ptr 32 0)) (N6 (rw6 ρ 8) (N6 (rw6 ρ
    16) (N6 (rw6 ρ 32) (lf6 (rw6 ρ 64)) n6) (N6 (SV.c (SC.ptr 31 0)) n6 n6)) (N6 (rw6 ρ 24) (N6 (SV.c (SC.boo true false)) (lf6 (rw6 ρ 72)) n6) (lf6 (rw6 ρ 56)))) (N6 (SV.c (SC.ptr 75
    0)) (N6 (rw6 ρ 20) (N6 (rw6 ρ 36) (lf6 (rw6 ρ 68)) n6) (N6 (SV.agg [i6 (mdF c k a b y.s.m).fst.fst, i6 (mdF c k a b y.s.m).fst.snd]) n6 n6)) (N6 (rw6 ρ 28) (lf6 (rw6 ρ 44)) (lf6
    (rw6 ρ 60))))) (N6 (rw6 ρ 6) (N6 (SV.c (SC.ptr 67 0)) (N6 (rw6 ρ 18) (N6 (rw6 ρ 34) (lf6 (rw6 ρ 66)) n6) (N6 (SV.c (SC.ptr 31 0)) n6 n6)) (N6 (rw6 ρ 26) (N6 (rw6 ρ 42) (lf6 (rw6 ρ
    74)) n6) (lf6 (rw6 ρ 58)))) (N6 (rw6 ρ 14) (N6 (rw6 ρ 22) (N6 (SV.c (i6 (↑len : Int))) (lf6 (rw6 ρ 70)) n6) (lf6 (SV.agg [i6 c', i6 k', i6 a', i6 b']))) (N6 (rw6 ρ 30) (lf6 (rw6 ρ
    46)) (lf6 (rw6 ρ 62))))))) []) (Mem.mk [(31, SO.ext (ob6 (mdF c' k' a' b' (mdF c k a b y.s.m).snd).snd)), (32, SO.cells [i6 c, i6 k, i6 a, i6 b] (OfNat.ofNat 26)), (33, SO.cells [i6
    c', i6 k', i6 a', i6 b'] (OfNat.ofNat 26)), (0, SO.seen W), (67, SO.ext (HO.obj [] y.s.m)), (74, SO.cells [i6 (mdF c k a b y.s.m).fst.fst, i6 (mdF c k a b y.s.m).fst.snd] 33), (75,
    SO.cells [i6 (mdF c' k' a' b' (mdF c k a b y.s.m).snd).fst.fst, i6 (mdF c' k' a' b' (mdF c k a b y.s.m).snd).fst.snd] 33)] 78) Scr.nil.t.t)) ∧ True → c = c ∧ k = k ∧ a = a ∧ b = b ∧
    c' = c' ∧ k' = k' ∧ a' = a' ∧ b' = b' ∧ W = W ∧ ((MdOk y.s.m ∧ (y.s.m.nilq = true → y.s.m.q = [])) ∧ c = c ∧ k = k ∧ a = a ∧ b = b ∧ c' = c' ∧ k' = k' ∧ a' = a' ∧ b' = b' ∧ W = W ∧
    ((MdOk (mdF c k a b y.s.m).snd ∧ ((mdF c k a b y.s.m).snd.nilq = true → (mdF c k a b y.s.m).snd.q = [])) ∧ c = c ∧ k = k ∧ a = a ∧ b = b ∧ c' = c' ∧ k' = k' ∧ a' = a' ∧ b' = b' ∧ W
    = W ∧ (c = c ∧ k = k ∧ a = a ∧ b = b ∧ c' = c' ∧ k' = k' ∧ a' = a' ∧ b' = b' ∧ W = W ∧ (c = c ∧ k = k ∧ a = a ∧ b = b ∧ c' = c' ∧ k' = k' ∧ a' = a' ∧ b' = b' ∧ W = W ∧ X0 ∧ True) ∧
    True) ∧ True) ∧ (∀ (K : KO XM6), (fun X1 : Prop => (MdOk (mdF c k a b y.s.m).snd ∧ ((mdF c k a b y.s.m).snd.nilq = true → (mdF c k a b y.s.m).snd.q = [])) ∧ c = c ∧ k = k ∧ a = a ∧
    b = b ∧ c' = c' ∧ k' = k' ∧ a' = a' ∧ b' = b' ∧ W = W ∧ (c = c ∧ k = k ∧ a = a ∧ b = b ∧ c' = c' ∧ k' = k' ∧ a' = a' ∧ b' = b' ∧ W = W ∧ (c = c ∧ k = k ∧ a = a ∧ b = b ∧ c' = c' ∧
    k' = k' ∧ a' = a' ∧ b' = b' ∧ W = W ∧ X1 ∧ True) ∧ True) ∧ True → c = c ∧ k = k ∧ a = a ∧ b = b ∧ c' = c' ∧ k' = k' ∧ a' = a' ∧ b' = b' ∧ W = W ∧ ((MdOk (mdF c k a b y.s.m).snd ∧
    ((mdF c k a b y.s.m).snd.nilq = true → (mdF c k a b y.s.m).snd.q = [])) ∧ c = c ∧ k = k ∧ a = a ∧ b = b ∧ c' = c' ∧ k' = k' ∧ a' = a' ∧ b' = b' ∧ W = W ∧ (c = c ∧ k = k ∧ a = a ∧ b
    = b ∧ c' = c' ∧ k' = k' ∧ a' = a' ∧ b' = b' ∧ W = W ∧ X1 ∧ True) ∧ True) ∧ True) (K (SF.mk 75 (N6 (rw6 ρ 0) (N6 (rw6 ρ 1) (N6 (rw6 ρ 3) (N6 (SV.c (SC.ptr 31 0)) (N6 (rw6 ρ 15) (N6
    (rw6 ρ 31) (lf6 (rw6 ρ 63)) n6) (lf6 (rw6 ρ 47))) (N6 (rw6 ρ 23) (N6 (SV.c (i6 (↑y.i : Int))) (lf6 (rw6 ρ 71)) n6) (N6 (SV.agg [i6 (mdF c' k' a' b' (mdF c k a b y.s.m).snd).fst.fst,
    i6 (mdF c' k' a' b' (mdF c k a b y.s.m).snd).fst.snd]) n6 n6))) (N6 (SV.c (SC.ptr 74 0)) (N6 (rw6 ρ 19) (N6 (rw6 ρ 35) (lf6 (rw6 ρ 67)) n6) (lf6 (SV.agg [i6 c, i6 k, i6 a, i6 b])))
    (N6 (rw6 ρ 27) (lf6 (rw6 ρ 43)) (lf6 (rw6 ρ 59))))) (N6 (SV.c (SC.ptr 33 0)) (N6 (rw6 ρ 9) (N6 (rw6 ρ 17) (N6 (rw6 ρ 33) (lf6 (rw6 ρ 65)) n6) (N6 (SV.c (SC.ptr 67 0)) n6 n6)) (N6
    (rw6 ρ 25) (N6 (rw6 ρ 41) (lf6 (rw6 ρ 73)) n6) (lf6 (rw6 ρ 57)))) (N6 (rw6 ρ 13) (N6 (rw6 ρ 21) (N6 (SV.c (SC.sliv p false len cap)) (lf6 (rw6 ρ 69)) n6) (N6 (SV.c (SC.ptr 31 0)) n6
    n6)) (N6 (rw6 ρ 29) (lf6 (rw6 ρ 45)) (lf6 (rw6 ρ 61)))))) (N6 (rw6 ρ 2) (N6 (SV.c (SC.ptr 32 0)) (N6 (rw6 ρ 8) (N6 (rw6 ρ 16) (N6 (rw6 ρ 32) (lf6 (rw6 ρ 64)) n6) (N6 (SV.c (SC.ptr
    31 0)) n6 n6)) (N6 (rw6 ρ 24) (N6 (SV.c (SC.boo true false)) (lf6 (rw6 ρ 72)) n6) (lf6 (rw6 ρ 56)))) (N6 (SV.c (SC.ptr 75 0)) (N6 (rw6 ρ 20) (N6 (rw6 ρ 36) (lf6 (rw6 ρ 68)) n6) (N6
    (SV.agg [i6 (mdF c k a b y.s.m).fst.fst, i6 (mdF c k a b y.s.m).fst.snd]) n6 n6)) (N6 (rw6 ρ 28) (lf6 (rw6 ρ 44)) (lf6 (rw6 ρ 60))))) (N6 (rw6 ρ 6) (N6 (SV.c (SC.ptr 67 0)) (N6 (rw6
    ρ 18) (N6 (rw6 ρ 34) (lf6 (rw6 ρ 66)) n6) (N6 (SV.c (SC.ptr 31 0)) n6 n6)) (N6 (rw6 ρ 26) (N6 (rw6 ρ 42) (lf6 (rw6 ρ 74)) n6) (lf6 (rw6 ρ 58)))) (N6 (rw6 ρ 14) (N6 (rw6 ρ 22) (N6
    (SV.c (i6 (↑len : Int))) (lf6 (rw6 ρ 70)) n6) (lf6 (SV.agg [i6 c', i6 k', i6 a', i6 b']))) (N6 (rw6 ρ 30) (lf6 (rw6 ρ 46)) (lf6 (rw6 ρ 62))))))) []) (Mem.mk [(31, SO.ext (ob6 (mdF
    c' k' a' b' (mdF c k a b y.s.m).snd).snd)), (32, SO.cells [i6 c, i6 k, i6 a, i6 b] (OfNat.ofNat 26)), (33, SO.cells [i6 c', i6 k', i6 a', i6 b'] (OfNat.ofNat 26)), (0, SO.seen W),
    (67, SO.ext (HO.obj [] y.s.m)), (74, SO.cells [i6 (mdF c k a b y.s.m).fst.fst, i6 (mdF c k a b y.s.m).fst.snd] 33), (75, SO.cells [i6 (mdF c' k' a' b' (mdF c k a b
    y.s.m).snd).fst.fst, i6 (mdF c' k' a' b' (mdF c k a b y.s.m).snd).fst.snd] 33)] 78) Scr.nil.t.t)) ∧ True) ∧ (∀ (K : KO XM6), (fun X1 : Prop => (MdOk y.s.m ∧ (y.s.m.nilq = true →
    y.s.m.q = [])) ∧ c = c ∧ k = k ∧ a = a ∧ b = b ∧ c' = c' ∧ k' = k' ∧ a' = a' ∧ b' = b' ∧ W = W ∧ ((MdOk (mdF c k a b y.s.m).snd ∧ ((mdF c k a b y.s.m).snd.nilq = true → (mdF c k a b
    y.s.m).snd.q = [])) ∧ c = c ∧ k = k ∧ a = a ∧ b = b ∧ c' = c' ∧ k' = k' ∧ a' = a' ∧ b' = b' ∧ W = W ∧ (c = c ∧ k = k ∧ a = a ∧ b = b ∧ c' = c' ∧ k' = k' ∧ a' = a' ∧ b' = b' ∧ W = W
    ∧ (c = c ∧ k = k ∧ a = a ∧ b = b ∧ c' = c' ∧ k' = k' ∧ a' = a' ∧ b' = b' ∧ W = W ∧ X1 ∧ True) ∧ True) ∧ True) ∧ (∀ (K : KO XM6), (fun X2 : Prop => (MdOk (mdF c k a b y.s.m).snd ∧
    ((mdF c k a b y.s.m).snd.nilq = true → (mdF c k a b y.s.m).snd.q = [])) ∧ c = c ∧ k = k ∧ a = a ∧ b = b ∧ c' = c' ∧ k' = k' ∧ a' = a' ∧ b' = b' ∧ W = W ∧ (c = c ∧ k = k ∧ a = a ∧ b
    = b ∧ c' = c' ∧ k' = k' ∧ a' = a' ∧ b' = b' ∧ W = W ∧ (c = c ∧ k = k ∧ a = a ∧ b = b ∧ c' = c' ∧ k' = k' ∧ a' = a' ∧ b' = b' ∧ W = W ∧ X2 ∧ True) ∧ True) ∧ True → c = c ∧ k = k ∧ a
    = a ∧ b = b ∧ c' = c' ∧ k' = k' ∧ a' = a' ∧ b' = b' ∧ W = W ∧ ((MdOk (mdF c k a b y.s.m).snd ∧ ((mdF c k a b y.s.m).snd.nilq = true → (mdF c k a b y.s.m).snd.q = [])) ∧ c = c ∧ k =
    k ∧ a = a ∧ b = b ∧ c' = c' ∧ k' = k' ∧ a' = a' ∧ b' = b' ∧ W = W ∧ (c = c ∧ k = k ∧ a = a ∧ b = b ∧ c' = c' ∧ k' = k' ∧ a' = a' ∧ b' = b' ∧ W = W ∧ X2 ∧ True) ∧ True) ∧ True) (K
    (SF.mk 75 (N6 (rw6 ρ 0) (N6 (rw6 ρ 1) (N6 (rw6 ρ 3) (N6 (SV.c (SC.ptr 31 0)) (N6 (rw6 ρ 15) (N6 (rw6 ρ 31) (lf6 (rw6 ρ 63)) n6) (lf6 (rw6 ρ 47))) (N6 (rw6 ρ 23) (N6 (SV.c (i6 (↑y.i
    : Int))) (lf6 (rw6 ρ 71)) n6) (N6 (SV.agg [i6 (mdF c' k' a' b' (mdF c k a b y.s.m).snd).fst.fst, i6 (mdF c' k' a' b' (mdF c k a b y.s.m).snd).fst.snd]) n6 n6))) (N6 (SV.c (SC.ptr 74
    0)) (N6 (rw6 ρ 19) (N6 (rw6 ρ 35) (lf6 (rw6 ρ 67)) n6) (lf6 (SV.agg [i6 c, i6 k, i6 a, i6 b]))) (N6 (rw6 ρ 27) (lf6 (rw6 ρ 43)) (lf6 (rw6 ρ 59))))) (N6 (SV.c (SC.ptr 33 0)) (N6 (rw6
    ρ 9) (N6 (rw6 ρ 17) (N6 (rw6 ρ 33) (lf6 (rw6 ρ 65)) n6) (N6 (SV.c (SC.ptr 67 0)) n6 n6)) (N6 (rw6 ρ 25) (N6 (rw6 ρ 41) (lf6 (rw6 ρ 73)) n6) (lf6 (rw6 ρ 57)))) (N6 (rw6 ρ 13) (N6
    (rw6 ρ 21) (N6 (SV.c (SC.sliv p false len cap)) (lf6 (rw6 ρ 69)) n6) (N6 (SV.c (SC.ptr 31 0)) n6 n6)) (N6 (rw6 ρ 29) (lf6 (rw6 ρ 45)) (lf6 (rw6 ρ 61)))))) (N6 (rw6 ρ 2) (N6 (SV.c
    (SC.ptr 32 0)) (N6 (rw6 ρ 8) (N6 (rw6 ρ 16) (N6 (rw6 ρ 32) (lf6 (rw6 ρ 64)) n6) (N6 (SV.c (SC.ptr 31 0)) n6 n6)) (N6 (rw6 ρ 24) (N6 (SV.c (SC.boo true false)) (lf6 (rw6 ρ 72)) n6)
    (lf6 (rw6 ρ 56)))) (N6 (SV.c (SC.ptr 75 0)) (N6 (rw6 ρ 20) (N6 (rw6 ρ 36) (lf6 (rw6 ρ 68)) n6) (N6 (SV.agg [i6 (mdF c k a b y.s.m).fst.fst, i6 (mdF c k a b y.s.m).fst.snd]) n6 n6))
    (N6 (rw6 ρ 28) (lf6 (rw6 ρ 44)) (lf6 (rw6 ρ 60))))) (N6 (rw6 ρ 6) (N6 (SV.c (SC.ptr 67 0)) (N6 (rw6 ρ 18) (N6 (rw6 ρ 34) (lf6 (rw6 ρ 66)) n6) (N6 (SV.c (SC.ptr 31 0)) n6 n6)) (N6
    (rw6 ρ 26) (N6 (rw6 ρ 42) (lf6 (rw6 ρ 74)) n6) (lf6 (rw6 ρ 58)))) (N6 (rw6 ρ 14) (N6 (rw6 ρ 22) (N6 (SV.c (i6 (↑len : Int))) (lf6 (rw6 ρ 70)) n6) (lf6 (SV.agg [i6 c', i6 k', i6 a',
    i6 b']))) (N6 (rw6 ρ 30) (lf6 (rw6 ρ 46)) (lf6 (rw6 ρ 62))))))) []) (Mem.mk [(31, SO.ext (ob6 (mdF c' k' a' b' (mdF c k a b y.s.m).snd).snd)), (32, SO.cells [i6 c, i6 k, i6 a, i6 b]
    (OfNat.ofNat 26)), (33, SO.cells [i6 c', i6 k', i6 a', i6 b'] (OfNat.ofNat 26)), (0, SO.seen W), (67, SO.ext (HO.obj [] y.s.m)), (74, SO.cells [i6 (mdF c k a b y.s.m).fst.fst, i6
    (mdF c k a b y.s.m).fst.snd] 33), (75, SO.cells [i6 (mdF c' k' a' b' (mdF c k a b y.s.m).snd).fst.fst, i6 (mdF c' k' a' b' (mdF c k a b y.s.m).snd).fst.snd] 33)] 78) Scr.nil.t.t)) ∧
    True → c = c ∧ k = k ∧ a = a ∧ b = b ∧ c' = c' ∧ k' = k' ∧ a' = a' ∧ b' = b' ∧ W = W ∧ ((MdOk y.s.m ∧ (y.s.m.nilq = true → y.s.m.q = [])) ∧ c = c ∧ k = k ∧ a = a ∧ b = b ∧ c' = c' ∧
    k' = k' ∧ a' = a' ∧ b' = b' ∧ W = W ∧ ((MdOk (mdF c k a b y.s.m).snd ∧ ((mdF c k a b y.s.m).snd.nilq = true → (mdF c k a b y.s.m).snd.q = [])) ∧ c = c ∧ k = k ∧ a = a ∧ b = b ∧ c' =
    c' ∧ k' = k' ∧ a' = a' ∧ b' = b' ∧ W = W ∧ (c = c ∧ k = k ∧ a = a ∧ b = b ∧ c' = c' ∧ k' = k' ∧ a' = a' ∧ b' = b' ∧ W = W ∧ X1 ∧ True) ∧ True) ∧ True) ∧ True) (K (SF.mk 75 (N6 (rw6
    ρ 0) (N6 (rw6 ρ 1) (N6 (rw6 ρ 3) (N6 (SV.c (SC.ptr 31 0)) (N6 (rw6 ρ 15) (N6 (rw6 ρ 31) (lf6 (rw6 ρ 63)) n6) (lf6 (rw6 ρ 47))) (N6 (rw6 ρ 23) (N6 (SV.c (i6 (↑y.i : Int))) (lf6 (rw6
    ρ 71)) n6) (N6 (SV.agg [i6 (mdF c' k' a' b' (mdF c k a b y.s.m).snd).fst.fst, i6 (mdF c' k' a' b' (mdF c k a b y.s.m).snd).fst.snd]) n6 n6))) (N6 (SV.c (SC.ptr 74 0)) (N6 (rw6 ρ 19)
    (N6 (rw6 ρ 35) (lf6 (rw6 ρ 67)) n6) (lf6 (SV.agg [i6 c, i6 k, i6 a, i6 b]))) (N6 (rw6 ρ 27) (lf6 (rw6 ρ 43)) (lf6 (rw6 ρ 59))))) (N6 (SV.c (SC.ptr 33 0)) (N6 (rw6 ρ 9) (N6 (rw6 ρ
    17) (N6 (rw6 ρ 33) (lf6 (rw6 ρ 65)) n6) (N6 (SV.c (SC.ptr 67 0)) n6 n6)) (N6 (rw6 ρ 25) (N6 (rw6 ρ 41) (lf6 (rw6 ρ 73)) n6) (lf6 (rw6 ρ 57)))) (N6 (rw6 ρ 13) (N6 (rw6 ρ 21) (N6
    (SV.c (SC.sliv p false len cap)) (lf6 (rw6 ρ 69)) n6) (N6 (SV.c (SC.ptr 31 0)) n6 n6)) (N6 (rw6 ρ 29) (lf6 (rw6 ρ 45)) (lf6 (rw6 ρ 61)))))) (N6 (rw6 ρ 2) (N6 (SV.c (SC.ptr 32 0))
    (N6 (rw6 ρ 8) (N6 (rw6 ρ 16) (N6 (rw6 ρ 32) (lf6 (rw6 ρ 64)) n6) (N6 (SV.c (SC.ptr 31 0)) n6 n6)) (N6 (rw6 ρ 24) (N6 (SV.c (SC.boo true false)) (lf6 (rw6 ρ 72)) n6) (lf6 (rw6 ρ
    56)))) (N6 (SV.c (SC.ptr 75 0)) (N6 (rw6 ρ 20) (N6 (rw6 ρ 36) (lf6 (rw6 ρ 68)) n6) (N6 (SV.agg [i6 (mdF c k a b y.s.m).fst.fst, i6 (mdF c k a b y.s.m).fst.snd]) n6 n6)) (N6 (rw6 ρ
    28) (lf6 (rw6 ρ 44)) (lf6 (rw6 ρ 60))))) (N6 (rw6 ρ 6) (N6 (SV.c (SC.ptr 67 0)) (N6 (rw6 ρ 18) (N6 (rw6 ρ 34) (lf6 (rw6 ρ 66)) n6) (N6 (SV.c (SC.ptr 31 0)) n6 n6)) (N6 (rw6 ρ 26)
    (N6 (rw6 ρ 42) (lf6 (rw6 ρ 74)) n6) (lf6 (rw6 ρ 58)))) (N6 (rw6 ρ 14) (N6 (rw6 ρ 22) (N6 (SV.c (i6 (↑len : Int))) (lf6 (rw6 ρ 70)) n6) (lf6 (SV.agg [i6 c', i6 k', i6 a', i6 b'])))
    (N6 (rw6 ρ 30) (lf6 (rw6 ρ 46)) (lf6 (rw6 ρ 62))))))) []) (Mem.mk [(31, SO.ext (ob6 (mdF c' k' a' b' (mdF c k a b y.s.m).snd).snd)), (32, SO.cells [i6 c, i6 k, i6 a, i6 b]
    (OfNat.ofNat 26)), (33, SO.cells [i6 c', i6 k', i6 a', i6 b'] (OfNat.ofNat 26)), (0, SO.seen W), (67, SO.ext (HO.obj [] y.s.m)), (74, SO.cells [i6 (mdF c k a b y.s.m).fst.fst, i6
    (mdF c k a b y.s.m).fst.snd] 33), (75, SO.cells [i6 (mdF c' k' a' b' (mdF c k a b y.s.m).snd).fst.fst, i6 (mdF c' k' a' b' (mdF c k a b y.s.m).snd).fst.snd] 33)] 78) Scr.nil.t.t)) ∧
    True) (K (SF.mk 75 (N6 (rw6 ρ 0) (N6 (rw6 ρ 1) (N6 (rw6 ρ 3) (N6 (SV.c (SC.ptr 31 0)) (N6 (rw6 ρ 15) (N6 (rw6 ρ 31) (lf6 (rw6 ρ 63)) n6) (lf6 (rw6 ρ 47))) (N6 (rw6 ρ 23) (N6 (SV.c
    (i6 (↑y.i : Int))) (lf6 (rw6 ρ 71)) n6) (N6 (SV.agg [i6 (mdF c' k' a' b' (mdF c k a b y.s.m).snd).fst.fst, i6 (mdF c' k' a' b' (mdF c k a b y.s.m).snd).fst.snd]) n6 n6))) (N6 (SV.c
    (SC.ptr 74 0)) (N6 (rw6 ρ 19) (N6 (rw6 ρ 35) (lf6 (rw6 ρ 67)) n6) (lf6 (SV.agg [i6 c, i6 k, i6 a, i6 b]))) (N6 (rw6 ρ 27) (lf6 (rw6 ρ 43)) (lf6 (rw6 ρ 59))))) (N6 (SV.c (SC.ptr 33
    0)) (N6 (rw6 ρ 9) (N6 (rw6 ρ 17) (N6 (rw6 ρ 33) (lf6 (rw6 ρ 65)) n6) (N6 (SV.c (SC.ptr 67 0)) n6 n6)) (N6 (rw6 ρ 25) (N6 (rw6 ρ 41) (lf6 (rw6 ρ 73)) n6) (lf6 (rw6 ρ 57)))) (N6 (rw6
    ρ 13) (N6 (rw6 ρ 21) (N6 (SV.c (SC.sliv p false len cap)) (lf6 (rw6 ρ 69)) n6) (N6 (SV.c (SC.ptr 31 0)) n6 n6)) (N6 (rw6 ρ 29) (lf6 (rw6 ρ 45)) (lf6 (rw6 ρ 61)))))) (N6 (rw6 ρ 2)
    (N6 (SV.c (SC.ptr 32 0)) (N6 (rw6 ρ 8) (N6 (rw6 ρ 16) (N6 (rw6 ρ 32) (lf6 (rw6 ρ 64)) n6) (N6 (SV.c (SC.ptr 31 0)) n6 n6)) (N6 (rw6 ρ 24) (N6 (SV.c (SC.boo true false)) (lf6 (rw6 ρ
    72)) n6) (lf6 (rw6 ρ 56)))) (N6 (SV.c (SC.ptr 75 0)) (N6 (rw6 ρ 20) (N6 (rw6 ρ 36) (lf6 (rw6 ρ 68)) n6) (N6 (SV.agg [i6 (mdF c k a b y.s.m).fst.fst, i6 (mdF c k a b y.s.m).fst.snd])
    n6 n6)) (N6 (rw6 ρ 28) (lf6 (rw6 ρ 44)) (lf6 (rw6 ρ 60))))) (N6 (rw6 ρ 6) (N6 (SV.c (SC.ptr 67 0)) (N6 (rw6 ρ 18) (N6 (rw6 ρ 34) (lf6 (rw6 ρ 66)) n6) (N6 (SV.c (SC.ptr 31 0)) n6
    n6)) (N6 (rw6 ρ 26) (N6 (rw6 ρ 42) (lf6 (rw6 ρ 74)) n6) (lf6 (rw6 ρ 58)))) (N6 (rw6 ρ 14) (N6 (rw6 ρ 22) (N6 (SV.c (i6 (↑len : Int))) (lf6 (rw6 ρ 70)) n6) (lf6 (SV.agg [i6 c', i6
    k', i6 a', i6 b']))) (N6 (rw6 ρ 30) (lf6 (rw6 ρ 46)) (lf6 (rw6 ρ 62))))))) []) (Mem.mk [(31, SO.ext (ob6 (mdF c' k' a' b' (mdF c k a b y.s.m).snd).snd)), (32, SO.cells [i6 c, i6 k,
    i6 a, i6 b] (OfNat.ofNat 26)), (33, SO.cells [i6 c', i6 k', i6 a', i6 b'] (OfNat.ofNat 26)), (0, SO.seen W), (67, SO.ext (HO.obj [] y.s.m)), (74, SO.cells [i6 (mdF c k a b
    y.s.m).fst.fst, i6 (mdF c k a b y.s.m).fst.snd] 33), (75, SO.cells [i6 (mdF c' k' a' b' (mdF c k a b y.s.m).snd).fst.fst, i6 (mdF c' k' a' b' (mdF c k a b y.s.m).snd).fst.snd] 33)]
    78) Scr.nil.t.t)) ∧ True))) ∧ True) ∧ True) ∧ True) ∧ True)) ∧ True) ∧ True)) ∧ True) ∧ True)) ∧ True) := by
  kernel_rfl
theorem mapart_run (W : World) (p : Option Addr) (len cap : Nat) (c k a b c' k' a' b' : Int) (hc : (0 < len → p.isSome = true) ∧ (∀ j, j < len → SeenL W (addOpt p (j * 7)) 0 stepK) ∧ len ≤ maxLen) : Run (callN Try.prog (tbl6 : List (Smry Try.prog XM6)) (fun _ _ => false) 100 20 8 [.c (.sliv p false len cap), .agg [.int false .i64 c, .int false .i64 k, .int false .i64 a, .int false .i64 b], .agg [.int false .i64 c', .int false .i64 k', .int false .i64 a', .int false .i64 b']] ⟨[(0, .seen W)], 1⟩ (aScr c k a b c' k' a' b' len) (fun v m _ => retSeen W v m)) := by
  constructor
  rw [mapart_vc]
  obtain ⟨h1, h2, h3⟩ := hc
  have h3' : len ≤ 9223372036854775807 := h3
  have hp : partF c k a b ≠ 0 → partF c' k' a' b' ≠ 0 → partF c k a b ≠ partF c' k' a' b' → ∀ y : HY1 len, Apart y.s.m (mdF c k a b) (mdF c' k' a' b') := fun p1 p2 p3 y => mdF_apart y.s.ok p1 p2 p3
  have D : ∀ m, MdOk m → MdOk (mdF c k a b m).2 := fun m h => (mdF_ok h).2.1
  have D' : ∀ m, MdOk m → MdOk (mdF c' k' a' b' m).2 := fun m h => (mdF_ok h).2.1
  have V : ∀ m, MdWf m → ((mdF c k a b m).2.nilq = true → (mdF c k a b m).2.q = []) := fun m h => mdF_wf h
  have V' : ∀ m, MdWf m → ((mdF c' k' a' b' m).2.nilq = true → (mdF c' k' a' b' m).2.q = []) := fun m h => mdF_wf h
  repeat' first
    | with_reducible apply And.intro
    | with_reducible exact trivial
    | with_reducible exact Eq.refl _
    | exact h2
    | (with_reducible refine fun (y : HY1 len) (ρ : Nat → Value) => ?_
       have o1 := y.s.ok
       have o2 := D _ o1
       have o3 := D' _ o1
       have o4 := D _ o3
       have o5 := D' _ o2
       have w1 : y.s.m.nilq = true → y.s.m.q = [] := y.s.wf
       have w2 := V _ y.s.wf
       have w3 := V' _ y.s.wf
       have w4 := V _ w3
       have w5 := V' _ w2)
    | with_reducible exact o1
    | with_reducible exact o2
    | with_reducible exact o3
    | with_reducible exact o4
    | with_reducible exact o5
    | with_reducible exact w1
    | with_reducible exact w2
    | with_reducible exact w3
    | with_reducible exact w4
    | with_reducible exact w5
    | (with_reducible refine fun (K : KO XM6) => ?_; generalize K _ _ _ = X; dsimp only; simp only [eq_self, true_and, and_true, and_imp]; done)
    | (with_reducible refine fun (K : KO XM6) => ?_; generalize K _ _ _ = X; dsimp only; simp only [eq_self, true_and, and_true, and_imp]; intros)
    | (with_reducible refine (Exists.intro (⟨0, Nat.zero_le _, MdS.new⟩ : HY1 len) ?_ : ∃ y : HY1 len, p = p ∧ _))
    | (with_reducible refine fun (h : decide _ = true) => ?_; replace h := of_decide_eq_true h)
    | (with_reducible refine fun (h : decide _ = false) => ?_; replace h := of_decide_eq_false h)
    | (with_reducible refine fun (h : (_ == _) = true) => ?_; replace h := eq_of_beq h)
    | (with_reducible refine fun (h : (_ == _) = false) => ?_; replace h := beq_eq_false_iff_ne.1 h)
    | with_reducible assumption
    | (with_reducible refine fun (K : KO XM6) => ?_; simp only [eq_self, true_and, and_true, and_imp]; intros)
    | intro _
  all_goals first
    | exact h1
    | exact h3
    | exact h1 (by omega)
    | omega
    | exact (h2 y.i (by omega)).1
    | exact (h2 y.i (by omega)).2.1
    | exact (h2 y.i (by omega)).2.2.1
    | exact (h2 y.i (by omega)).2.2.2.1
    | exact (h2 y.i (by omega)).2.2.2.2.1
    | exact (h2 y.i (by omega)).2.2.2.2.2.1
    | exact (h2 y.i (by omega)).2.2.2.2.2.2.1
    | (have A := hp (by assumption) (by assumption) (by assumption) y
       first
         | (rw [A.one]; simp; done)
         | (rw [A.two]; simp; done)
         | exact sameB_of o5 A.same)
    | (refine ⟨⟨y.i + 1, by omega, y.s.app (seenInt .i64 W (addOpt (addOpt p (y.i * 7)) 3)) (seenInt .i64 W (addOpt (addOpt p (y.i * 7)) 4)) (seenInt .i64 W (addOpt (addOpt p (y.i * 7)) 5)) (seenInt .i64 W (addOpt (addOpt p (y.i * 7)) 6))⟩, ?_⟩
       repeat' first
         | with_reducible apply And.intro
         | with_reducible exact trivial
         | with_reducible exact Eq.refl _
         | (show len - (y.i + 1) < len - y.i; omega)
         | (show ((y.i + 1 : Nat) : Int) = (y.i : Int) + 1; omega)
         | exact rfl)
    | exact rfl
    | assumption
    | (simp only [eq_self, true_and, and_true]; assumption)
    | (simp only [eq_self, true_and, and_true, and_imp] at *; assumption)
    | skip
end Go.Proofs.Ytaflaaiomlijbaa
