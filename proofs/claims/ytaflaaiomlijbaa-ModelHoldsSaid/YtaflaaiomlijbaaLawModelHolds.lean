/- ModelHolds: for all steps the law returns true and turns nothing; condition: the steps are read as numbers. -/
import Derived.Test.YtaflaaiomlijbaaMdlM
import Derived.Test.YtaflaaiomlijbaaMdlG
import Derived.Test.YtaflaaiomlijbaaFirst06
set_option linter.all false
namespace Go.Proofs.Ytaflaaiomlijbaa
open Go Go.RowKit
set_option maxRecDepth 1000000
set_option maxHeartbeats 0
def tbl6 : List (Smry Try.prog XM6) := [firstS 29 (fun W => by have h := law_true1 (first06_run trivial) W; exact h), greatS.lift, mdNewS, mdCloneS, mdSizeS, mdApplyS, mdSameS, rrespS.lift, partS.lift]
def allN6 : List Nat := (List.range 1500).map (· + 1)
structure MdS where
  m : Md
  ok : MdOk m
  wf : MdWf m
abbrev mdO (y : MdS) : SO XM6 := .ext (HO.obj [] y.m)
def MdS.new : MdS := ⟨⟨true, [], [], []⟩, MdOk.new, fun _ => rfl⟩
def MdS.app (c k a b : Int) (y : MdS) : MdS := ⟨(mdF c k a b y.m).2, (mdF_ok y.ok).2.1, mdF_wf y.wf⟩
structure HY1 (len : Nat) where
  i : Nat
  hi : i ≤ len
  s : MdS
structure HY2 where
  s : MdS
  j : Nat
  cnt : Nat
  hj : j ≤ cnt
  hc : cnt ≤ 300
  kd : Int
  pl : Int
  nn : Int
  c : Int
  k : Int
  a : Int
  b : Int
def hI1 (len n : Nat) (y : HY1 len) : List (Nat × SV) × List (Nat × SO XM6) := ([(3, .c (.ptr n 0)), (16, .c (.int false .i64 (y.i : Int)))], [(n, mdO y.s)])
def hI2 (n : Nat) (y : HY2) : List (Nat × SV) × List (Nat × SO XM6) := ([(3, .c (.ptr n 0)), (5, .c (.ptr (n + 1) 0)), (24, .c (.int false .i64 (y.cnt : Int))), (25, .c (.int false .i64 (y.j : Int)))], [(n, mdO y.s), (n + 1, .cells [.int false .i64 y.kd, .int false .i64 y.pl, .int false .u16 y.nn, .int false .i64 y.c, .int false .i64 y.k, .int false .i64 y.a, .int false .i64 y.b] 85)])
def hSw : Scr XM6 := .both (.f .nil) (.both (.f .nil) (.both (.f .nil) (.both (.f .nil) (.both (.f .nil) .nil))))
def hIn : Scr XM6 := .inv (liveL [3, 5, 14, 15, 16, 24, 25]) allN6 HY2 hI2 (fun y => y.cnt - y.j) fun _ => .both (.f (.f (.f (.f hSw)))) .nil
def hMain (len : Nat) : Scr XM6 := .inv (liveL [3, 14, 15, 16]) allN6 (HY1 len) (hI1 len) (fun y => len - y.i) fun _ => .both hIn .nil
/-- What the executor leaves to be shown of roundelay/roundelaylaw06.ModelHolds, written out. -/
theorem mholds_vc (W : World) (a : Option Addr) (len cap : Nat) : (callN Try.prog (tbl6 : List (Smry Try.prog XM6)) (fun _ _ => false) 100 20 7 [.c (.sliv a false len cap)] ⟨[(0, .seen W)], 1⟩ (.both .nil (hMain len)) (fun v m _ => retSeen W v m)) = (
    (((0 : Nat) < len → a.isSome = true) ∧ (∀ (j : Nat), j < len → (∃ (x : Addr), addOpt (addOpt a (j * (7 : Nat))) (0 : Nat) = some x ∧ W.cell? x = some (Value.int IntKind.i64 (seenInt
    IntKind.i64 W (addOpt (addOpt a (j * (7 : Nat))) (0 : Nat))))) ∧ (∃ (x : Addr), addOpt (addOpt a (j * (7 : Nat))) ((0 : Nat) + (1 : Nat)) = some x ∧ W.cell? x = some (Value.int
    IntKind.i64 (seenInt IntKind.i64 W (addOpt (addOpt a (j * (7 : Nat))) (1 : Nat))))) ∧ (∃ (x : Addr), addOpt (addOpt a (j * (7 : Nat))) ((0 : Nat) + (1 : Nat) + (1 : Nat)) = some x ∧
    W.cell? x = some (Value.int IntKind.u16 (seenInt IntKind.u16 W (addOpt (addOpt a (j * (7 : Nat))) (2 : Nat))))) ∧ (∃ (x : Addr), addOpt (addOpt a (j * (7 : Nat))) ((0 : Nat) + (1 :
    Nat) + (1 : Nat) + (1 : Nat)) = some x ∧ W.cell? x = some (Value.int IntKind.i64 (seenInt IntKind.i64 W (addOpt (addOpt a (j * (7 : Nat))) (3 : Nat))))) ∧ (∃ (x : Addr), addOpt
    (addOpt a (j * (7 : Nat))) ((0 : Nat) + (1 : Nat) + (1 : Nat) + (1 : Nat) + (1 : Nat)) = some x ∧ W.cell? x = some (Value.int IntKind.i64 (seenInt IntKind.i64 W (addOpt (addOpt a (j
    * (7 : Nat))) (4 : Nat))))) ∧ (∃ (x : Addr), addOpt (addOpt a (j * (7 : Nat))) ((0 : Nat) + (1 : Nat) + (1 : Nat) + (1 : Nat) + (1 : Nat) + (1 : Nat)) = some x ∧ W.cell? x = some
    (Value.int IntKind.i64 (seenInt IntKind.i64 W (addOpt (addOpt a (j * (7 : Nat))) (5 : Nat))))) ∧ (∃ (x : Addr), addOpt (addOpt a (j * (7 : Nat))) ((0 : Nat) + (1 : Nat) + (1 : Nat)
    + (1 : Nat) + (1 : Nat) + (1 : Nat) + (1 : Nat)) = some x ∧ W.cell? x = some (Value.int IntKind.i64 (seenInt IntKind.i64 W (addOpt (addOpt a (j * (7 : Nat))) (6 : Nat))))) ∧ True) ∧
    len ≤ (9223372036854775807 : Nat)) ∧ ∀ (b : Bool), (b = true → true = true ∧ some W = some W) ∧ (b = false → True ∧ (∃ (y : HY1 len), a = a ∧ len = len ∧ cap = cap ∧ (↑len : Int) =
    (↑len : Int) ∧ W = W ∧ (↑y.i : Int) = (0 : Int) ∧ y.s.m = Md.mk true [] [] [] ∧ True) ∧ ∀ (y : HY1 len) (ρ : Nat → Value), (decide ((↑y.i : Int) < (↑len : Int)) = true → ((0 : Int)
    ≤ (↑y.i : Int) ∧ (↑y.i : Int) < (↑len : Int) ∧ a.isSome = true) ∧ ((∃ (x : Addr), addOpt (addOpt a ((↑y.i : Int).toNat * Try.prog.types[(85 : Nat)].size)) (0 : Nat) = some x ∧
    W.cell? x = some (Value.int IntKind.i64 (seenInt IntKind.i64 W (addOpt (addOpt a ((↑y.i : Int).toNat * (7 : Nat))) (0 : Nat))))) ∧ (∃ (x : Addr), addOpt (addOpt a ((↑y.i :
    Int).toNat * Try.prog.types[(85 : Nat)].size)) ((0 : Nat) + (1 : Nat)) = some x ∧ W.cell? x = some (Value.int IntKind.i64 (seenInt IntKind.i64 W (addOpt (addOpt a ((↑y.i :
    Int).toNat * (7 : Nat))) (1 : Nat))))) ∧ (∃ (x : Addr), addOpt (addOpt a ((↑y.i : Int).toNat * Try.prog.types[(85 : Nat)].size)) ((0 : Nat) + (1 : Nat) + (1 : Nat)) = some x ∧
    W.cell? x = some (Value.int IntKind.u16 (seenInt IntKind.u16 W (addOpt (addOpt a ((↑y.i : Int).toNat * (7 : Nat))) (2 : Nat))))) ∧ (∃ (x : Addr), addOpt (addOpt a ((↑y.i :
    Int).toNat * Try.prog.types[(85 : Nat)].size)) ((0 : Nat) + (1 : Nat) + (1 : Nat) + (1 : Nat)) = some x ∧ W.cell? x = some (Value.int IntKind.i64 (seenInt IntKind.i64 W (addOpt
    (addOpt a ((↑y.i : Int).toNat * (7 : Nat))) (3 : Nat))))) ∧ (∃ (x : Addr), addOpt (addOpt a ((↑y.i : Int).toNat * Try.prog.types[(85 : Nat)].size)) ((0 : Nat) + (1 : Nat) + (1 :
    Nat) + (1 : Nat) + (1 : Nat)) = some x ∧ W.cell? x = some (Value.int IntKind.i64 (seenInt IntKind.i64 W (addOpt (addOpt a ((↑y.i : Int).toNat * (7 : Nat))) (4 : Nat))))) ∧ (∃ (x :
    Addr), addOpt (addOpt a ((↑y.i : Int).toNat * Try.prog.types[(85 : Nat)].size)) ((0 : Nat) + (1 : Nat) + (1 : Nat) + (1 : Nat) + (1 : Nat) + (1 : Nat)) = some x ∧ W.cell? x = some
    (Value.int IntKind.i64 (seenInt IntKind.i64 W (addOpt (addOpt a ((↑y.i : Int).toNat * (7 : Nat))) (5 : Nat))))) ∧ (∃ (x : Addr), addOpt (addOpt a ((↑y.i : Int).toNat *
    Try.prog.types[(85 : Nat)].size)) ((0 : Nat) + (1 : Nat) + (1 : Nat) + (1 : Nat) + (1 : Nat) + (1 : Nat) + (1 : Nat)) = some x ∧ W.cell? x = some (Value.int IntKind.i64 (seenInt
    IntKind.i64 W (addOpt (addOpt a ((↑y.i : Int).toNat * (7 : Nat))) (6 : Nat))))) ∧ True) ∧ (∃ (y_1 : HY2), a = a ∧ len = len ∧ cap = cap ∧ (↑len : Int) = (↑len : Int) ∧ (↑y.i : Int)
    = (↑y.i : Int) ∧ W = W ∧ (↑y_1.cnt : Int) = (1 : Int) + seenInt IntKind.u16 W (addOpt (addOpt a ((↑y.i : Int).toNat * (7 : Nat))) (2 : Nat)) % (300 : Int) ∧ (↑y_1.j : Int) = (0 :
    Int) ∧ y_1.s.m = y.s.m ∧ (y_1.kd = seenInt IntKind.i64 W (addOpt (addOpt a ((↑y.i : Int).toNat * (7 : Nat))) (0 : Nat)) ∧ y_1.pl = seenInt IntKind.i64 W (addOpt (addOpt a ((↑y.i :
    Int).toNat * (7 : Nat))) (1 : Nat)) ∧ y_1.nn = seenInt IntKind.u16 W (addOpt (addOpt a ((↑y.i : Int).toNat * (7 : Nat))) (2 : Nat)) ∧ y_1.c = seenInt IntKind.i64 W (addOpt (addOpt a
    ((↑y.i : Int).toNat * (7 : Nat))) (3 : Nat)) ∧ y_1.k = seenInt IntKind.i64 W (addOpt (addOpt a ((↑y.i : Int).toNat * (7 : Nat))) (4 : Nat)) ∧ y_1.a = seenInt IntKind.i64 W (addOpt
    (addOpt a ((↑y.i : Int).toNat * (7 : Nat))) (5 : Nat)) ∧ y_1.b = seenInt IntKind.i64 W (addOpt (addOpt a ((↑y.i : Int).toNat * (7 : Nat))) (6 : Nat)) ∧ True) ∧ True) ∧ ∀ (y_1 : HY2)
    (ρ : Nat → Value), (decide ((↑y_1.j : Int) < (↑y_1.cnt : Int)) = true → (MdOk y_1.s.m ∧ (y_1.s.m.nilq = true → y_1.s.m.q = [])) ∧ (MdOk y_1.s.m ∧ (y_1.s.m.nilq = true → y_1.s.m.q =
    [])) ∧ (MdOk y_1.s.m ∧ (y_1.s.m.nilq = true → y_1.s.m.q = [])) ∧ True ∧ (∀ (z : Un), True → (!decide (RespR (mdF y_1.c y_1.k y_1.a y_1.b y_1.s.m).fst.fst (mdF y_1.c y_1.k y_1.a
    y_1.b y_1.s.m).fst.snd)) = false ∧ ((mdF y_1.c y_1.k y_1.a y_1.b y_1.s.m).fst.fst == (5 : Int)) = false ∧ (MdOk (mdF (y_1.c, y_1.k, y_1.a, y_1.b).fst (y_1.c, y_1.k, y_1.a,
    y_1.b).snd.fst (y_1.c, y_1.k, y_1.a, y_1.b).snd.snd.fst (y_1.c, y_1.k, y_1.a, y_1.b).snd.snd.snd y_1.s.m).snd ∧ ((mdF y_1.c y_1.k y_1.a y_1.b y_1.s.m).snd.nilq = true → (mdF (y_1.c,
    y_1.k, y_1.a, y_1.b).fst (y_1.c, y_1.k, y_1.a, y_1.b).snd.fst (y_1.c, y_1.k, y_1.a, y_1.b).snd.snd.fst (y_1.c, y_1.k, y_1.a, y_1.b).snd.snd.snd y_1.s.m).snd.q = [])) ∧
    ((-9223372036854775808 : Int) ≤ mdSize (mdF y_1.c y_1.k y_1.a y_1.b y_1.s.m).snd - mdSize y_1.s.m ∧ mdSize (mdF y_1.c y_1.k y_1.a y_1.b y_1.s.m).snd - mdSize y_1.s.m ≤
    (9223372036854775807 : Int)) ∧ decide (mdSize (mdF y_1.c y_1.k y_1.a y_1.b y_1.s.m).snd - mdSize y_1.s.m > (1 : Int)) = false ∧ (MdOk (mdF (y_1.c, y_1.k, y_1.a, y_1.b).fst (y_1.c,
    y_1.k, y_1.a, y_1.b).snd.fst (y_1.c, y_1.k, y_1.a, y_1.b).snd.snd.fst (y_1.c, y_1.k, y_1.a, y_1.b).snd.snd.snd y_1.s.m).snd ∧ ((mdF y_1.c y_1.k y_1.a y_1.b y_1.s.m).snd.nilq = true
    → (mdF (y_1.c, y_1.k, y_1.a, y_1.b).fst (y_1.c, y_1.k, y_1.a, y_1.b).snd.fst (y_1.c, y_1.k, y_1.a, y_1.b).snd.snd.fst (y_1.c, y_1.k, y_1.a, y_1.b).snd.snd.snd y_1.s.m).snd.q = []))
    ∧ ((-9223372036854775808 : Int) ≤ mdSize y_1.s.m - mdSize (mdF y_1.c y_1.k y_1.a y_1.b y_1.s.m).snd ∧ mdSize y_1.s.m - mdSize (mdF y_1.c y_1.k y_1.a y_1.b y_1.s.m).snd ≤
    (9223372036854775807 : Int)) ∧ decide (mdSize y_1.s.m - mdSize (mdF y_1.c y_1.k y_1.a y_1.b y_1.s.m).snd > (1 : Int)) = false ∧ ((y_1.c == (3 : Int)) = true → ((MdOk (mdF (y_1.c,
    y_1.k, y_1.a, y_1.b).fst (y_1.c, y_1.k, y_1.a, y_1.b).snd.fst (y_1.c, y_1.k, y_1.a, y_1.b).snd.snd.fst (y_1.c, y_1.k, y_1.a, y_1.b).snd.snd.snd y_1.s.m).snd ∧ ((mdF y_1.c y_1.k
    y_1.a y_1.b y_1.s.m).snd.nilq = true → (mdF (y_1.c, y_1.k, y_1.a, y_1.b).fst (y_1.c, y_1.k, y_1.a, y_1.b).snd.fst (y_1.c, y_1.k, y_1.a, y_1.b).snd.snd.fst (y_1.c, y_1.k, y_1.a,
    y_1.b).snd.snd.snd y_1.s.m).snd.q = [])) ∧ MdOk y_1.s.m ∧ (y_1.s.m.nilq = true → y_1.s.m.q = [])) ∧ (!sameB (mdF y_1.c y_1.k y_1.a y_1.b y_1.s.m).snd y_1.s.m) = false ∧
    ((-9223372036854775808 : Int) ≤ (↑y_1.j : Int) + (1 : Int) ∧ (↑y_1.j : Int) + (1 : Int) ≤ (9223372036854775807 : Int)) ∧ ∃ (y' : HY2), y'.cnt - y'.j < y_1.cnt - y_1.j ∧ a = a ∧ len
    = len ∧ cap = cap ∧ (↑len : Int) = (↑len : Int) ∧ (↑y.i : Int) = (↑y.i : Int) ∧ W = W ∧ (↑y'.cnt : Int) = (↑y_1.cnt : Int) ∧ (↑y'.j : Int) = (↑y_1.j : Int) + (1 : Int) ∧ y'.s.m =
    (mdF (y_1.c, y_1.k, y_1.a, y_1.b).fst (y_1.c, y_1.k, y_1.a, y_1.b).snd.fst (y_1.c, y_1.k, y_1.a, y_1.b).snd.snd.fst (y_1.c, y_1.k, y_1.a, y_1.b).snd.snd.snd y_1.s.m).snd ∧ (y'.kd =
    y_1.kd ∧ y'.pl = y_1.pl ∧ y'.nn = y_1.nn ∧ y'.c = y_1.c ∧ y'.k = y_1.k ∧ y'.a = y_1.a ∧ y'.b = y_1.b ∧ True) ∧ True) ∧ ((y_1.c == (3 : Int)) = false → ((y_1.c == (4 : Int)) = true →
    ((MdOk (mdF (y_1.c, y_1.k, y_1.a, y_1.b).fst (y_1.c, y_1.k, y_1.a, y_1.b).snd.fst (y_1.c, y_1.k, y_1.a, y_1.b).snd.snd.fst (y_1.c, y_1.k, y_1.a, y_1.b).snd.snd.snd y_1.s.m).snd ∧
    ((mdF y_1.c y_1.k y_1.a y_1.b y_1.s.m).snd.nilq = true → (mdF (y_1.c, y_1.k, y_1.a, y_1.b).fst (y_1.c, y_1.k, y_1.a, y_1.b).snd.fst (y_1.c, y_1.k, y_1.a, y_1.b).snd.snd.fst (y_1.c,
    y_1.k, y_1.a, y_1.b).snd.snd.snd y_1.s.m).snd.q = [])) ∧ MdOk y_1.s.m ∧ (y_1.s.m.nilq = true → y_1.s.m.q = [])) ∧ (!sameB (mdF y_1.c y_1.k y_1.a y_1.b y_1.s.m).snd y_1.s.m) = false
    ∧ ((-9223372036854775808 : Int) ≤ (↑y_1.j : Int) + (1 : Int) ∧ (↑y_1.j : Int) + (1 : Int) ≤ (9223372036854775807 : Int)) ∧ ∃ (y' : HY2), y'.cnt - y'.j < y_1.cnt - y_1.j ∧ a = a ∧
    len = len ∧ cap = cap ∧ (↑len : Int) = (↑len : Int) ∧ (↑y.i : Int) = (↑y.i : Int) ∧ W = W ∧ (↑y'.cnt : Int) = (↑y_1.cnt : Int) ∧ (↑y'.j : Int) = (↑y_1.j : Int) + (1 : Int) ∧ y'.s.m
    = (mdF (y_1.c, y_1.k, y_1.a, y_1.b).fst (y_1.c, y_1.k, y_1.a, y_1.b).snd.fst (y_1.c, y_1.k, y_1.a, y_1.b).snd.snd.fst (y_1.c, y_1.k, y_1.a, y_1.b).snd.snd.snd y_1.s.m).snd ∧ (y'.kd
    = y_1.kd ∧ y'.pl = y_1.pl ∧ y'.nn = y_1.nn ∧ y'.c = y_1.c ∧ y'.k = y_1.k ∧ y'.a = y_1.a ∧ y'.b = y_1.b ∧ True) ∧ True) ∧ ((y_1.c == (4 : Int)) = false → ((y_1.c == (8 : Int)) = true
    → ((MdOk (mdF (y_1.c, y_1.k, y_1.a, y_1.b).fst (y_1.c, y_1.k, y_1.a, y_1.b).snd.fst (y_1.c, y_1.k, y_1.a, y_1.b).snd.snd.fst (y_1.c, y_1.k, y_1.a, y_1.b).snd.snd.snd y_1.s.m).snd ∧
    ((mdF y_1.c y_1.k y_1.a y_1.b y_1.s.m).snd.nilq = true → (mdF (y_1.c, y_1.k, y_1.a, y_1.b).fst (y_1.c, y_1.k, y_1.a, y_1.b).snd.fst (y_1.c, y_1.k, y_1.a, y_1.b).snd.snd.fst (y_1.c,
    y_1.k, y_1.a, y_1.b).snd.snd.snd y_1.s.m).snd.q = [])) ∧ MdOk y_1.s.m ∧ (y_1.s.m.nilq = true → y_1.s.m.q = [])) ∧ (!sameB (mdF y_1.c y_1.k y_1.a y_1.b y_1.s.m).snd y_1.s.m) = false
    ∧ ((-9223372036854775808 : Int) ≤ (↑y_1.j : Int) + (1 : Int) ∧ (↑y_1.j : Int) + (1 : Int) ≤ (9223372036854775807 : Int)) ∧ ∃ (y' : HY2), y'.cnt - y'.j < y_1.cnt - y_1.j ∧ a = a ∧
    len = len ∧ cap = cap ∧ (↑len : Int) = (↑len : Int) ∧ (↑y.i : Int) = (↑y.i : Int) ∧ W = W ∧ (↑y'.cnt : Int) = (↑y_1.cnt : Int) ∧ (↑y'.j : Int) = (↑y_1.j : Int) + (1 : Int) ∧ y'.s.m
    = (mdF (y_1.c, y_1.k, y_1.a, y_1.b).fst (y_1.c, y_1.k, y_1.a, y_1.b).snd.fst (y_1.c, y_1.k, y_1.a, y_1.b).snd.snd.fst (y_1.c, y_1.k, y_1.a, y_1.b).snd.snd.snd y_1.s.m).snd ∧ (y'.kd
    = y_1.kd ∧ y'.pl = y_1.pl ∧ y'.nn = y_1.nn ∧ y'.c = y_1.c ∧ y'.k = y_1.k ∧ y'.a = y_1.a ∧ y'.b = y_1.b ∧ True) ∧ True) ∧ ((y_1.c == (8 : Int)) = false → ((y_1.c == (9 : Int)) = true
    → ((MdOk (mdF (y_1.c, y_1.k, y_1.a, y_1.b).fst (y_1.c, y_1.k, y_1.a, y_1.b).snd.fst (y_1.c, y_1.k, y_1.a, y_1.b).snd.snd.fst (y_1.c, y_1.k, y_1.a, y_1.b).snd.snd.snd y_1.s.m).snd ∧
    ((mdF y_1.c y_1.k y_1.a y_1.b y_1.s.m).snd.nilq = true → (mdF (y_1.c, y_1.k, y_1.a, y_1.b).fst (y_1.c, y_1.k, y_1.a, y_1.b).snd.fst (y_1.c, y_1.k, y_1.a, y_1.b).snd.snd.fst (y_1.c,
    y_1.k, y_1.a, y_1.b).snd.snd.snd y_1.s.m).snd.q = [])) ∧ MdOk y_1.s.m ∧ (y_1.s.m.nilq = true → y_1.s.m.q = [])) ∧ (!sameB (mdF y_1.c y_1.k y_1.a y_1.b y_1.s.m).snd y_1.s.m) = false
    ∧ ((-9223372036854775808 : Int) ≤ (↑y_1.j : Int) + (1 : Int) ∧ (↑y_1.j : Int) + (1 : Int) ≤ (9223372036854775807 : Int)) ∧ ∃ (y' : HY2), y'.cnt - y'.j < y_1.cnt - y_1.j ∧ a = a ∧
    len = len ∧ cap = cap ∧ (↑len : Int) = (↑len : Int) ∧ (↑y.i : Int) = (↑y.i : Int) ∧ W = W ∧ (↑y'.cnt : Int) = (↑y_1.cnt : Int) ∧ (↑y'.j : Int) = (↑y_1.j : Int) + (1 : Int) ∧ y'.s.m
    = (mdF (y_1.c, y_1.k, y_1.a, y_1.b).fst (y_1.c, y_1.k, y_1.a, y_1.b).snd.fst (y_1.c, y_1.k, y_1.a, y_1.b).snd.snd.fst (y_1.c, y_1.k, y_1.a, y_1.b).snd.snd.snd y_1.s.m).snd ∧ (y'.kd
    = y_1.kd ∧ y'.pl = y_1.pl ∧ y'.nn = y_1.nn ∧ y'.c = y_1.c ∧ y'.k = y_1.k ∧ y'.a = y_1.a ∧ y'.b = y_1.b ∧ True) ∧ True) ∧ ((y_1.c == (9 : Int)) = false → ((y_1.c == (13 : Int)) =
    true → ((MdOk (mdF (y_1.c, y_1.k, y_1.a, y_1.b).fst (y_1.c, y_1.k, y_1.a, y_1.b).snd.fst (y_1.c, y_1.k, y_1.a, y_1.b).snd.snd.fst (y_1.c, y_1.k, y_1.a, y_1.b).snd.snd.snd
    y_1.s.m).snd ∧ ((mdF y_1.c y_1.k y_1.a y_1.b y_1.s.m).snd.nilq = true → (mdF (y_1.c, y_1.k, y_1.a, y_1.b).fst (y_1.c, y_1.k, y_1.a, y_1.b).snd.fst (y_1.c, y_1.k, y_1.a,
    y_1.b).snd.snd.fst (y_1.c, y_1.k, y_1.a, y_1.b).snd.snd.snd y_1.s.m).snd.q = [])) ∧ MdOk y_1.s.m ∧ (y_1.s.m.nilq = true → y_1.s.m.q = [])) ∧ (!sameB (mdF y_1.c y_1.k y_1.a y_1.b
    y_1.s.m).snd y_1.s.m) = false ∧ ((-9223372036854775808 : Int) ≤ (↑y_1.j : Int) + (1 : Int) ∧ (↑y_1.j : Int) + (1 : Int) ≤ (9223372036854775807 : Int)) ∧ ∃ (y' : HY2), y'.cnt - y'.j
    < y_1.cnt - y_1.j ∧ a = a ∧ len = len ∧ cap = cap ∧ (↑len : Int) = (↑len : Int) ∧ (↑y.i : Int) = (↑y.i : Int) ∧ W = W ∧ (↑y'.cnt : Int) = (↑y_1.cnt : Int) ∧ (↑y'.j : Int) = (↑y_1.j
    : Int) + (1 : Int) ∧ y'.s.m = (mdF (y_1.c, y_1.k, y_1.a, y_1.b).fst (y_1.c, y_1.k, y_1.a, y_1.b).snd.fst (y_1.c, y_1.k, y_1.a, y_1.b).snd.snd.fst (y_1.c, y_1.k, y_1.a,
    y_1.b).snd.snd.snd y_1.s.m).snd ∧ (y'.kd = y_1.kd ∧ y'.pl = y_1.pl ∧ y'.nn = y_1.nn ∧ y'.c = y_1.c ∧ y'.k = y_1.k ∧ y'.a = y_1.a ∧ y'.b = y_1.b ∧ True) ∧ True) ∧ ((y_1.c == (13 :
    Int)) = false → ((-9223372036854775808 : Int) ≤ (↑y_1.j : Int) + (1 : Int) ∧ (↑y_1.j : Int) + (1 : Int) ≤ (9223372036854775807 : Int)) ∧ ∃ (y' : HY2), y'.cnt - y'.j < y_1.cnt -
    y_1.j ∧ a = a ∧ len = len ∧ cap = cap ∧ (↑len : Int) = (↑len : Int) ∧ (↑y.i : Int) = (↑y.i : Int) ∧ W = W ∧ (↑y'.cnt : Int) = (↑y_1.cnt : Int) ∧ (↑y'.j : Int) = (↑y_1.j : Int) + (1
    : Int) ∧ y'.s.m = (mdF (y_1.c, y_1.k, y_1.a, y_1.b).fst (y_1.c, y_1.k, y_1.a, y_1.b).snd.fst (y_1.c, y_1.k, y_1.a, y_1.b).snd.snd.fst (y_1.c, y_1.k, y_1.a, y_1.b).snd.snd.snd
    y_1.s.m).snd ∧ (y'.kd = y_1.kd ∧ y'.pl = y_1.pl ∧ y'.nn = y_1.nn ∧ y'.c = y_1.c ∧ y'.k = y_1.k ∧ y'.a = y_1.a ∧ y'.b = y_1.b ∧ True) ∧ True)))))) ∧ True) ∧ (decide ((↑y_1.j : Int) <
    (↑y_1.cnt : Int)) = false → ((-9223372036854775808 : Int) ≤ (↑y.i : Int) + (1 : Int) ∧ (↑y.i : Int) + (1 : Int) ≤ (9223372036854775807 : Int)) ∧ ∃ (y' : HY1 len), len - y'.i < len -
    y.i ∧ a = a ∧ len = len ∧ cap = cap ∧ (↑len : Int) = (↑len : Int) ∧ W = W ∧ (↑y'.i : Int) = (↑y.i : Int) + (1 : Int) ∧ y'.s.m = y_1.s.m ∧ True)) ∧ (decide ((↑y.i : Int) < (↑len :
    Int)) = false → true = true ∧ some W = some W))) := by
  kernel_rfl
def HY2.next (y : HY2) (h : y.j < y.cnt) : HY2 := { y with s := y.s.app y.c y.k y.a y.b, j := y.j + 1, hj := h }
theorem step6 (y : HY2) : Step1 y.s.m (mdF y.c y.k y.a y.b y.s.m) := mdF_ok y.s.ok
theorem resp6 (y : HY2) : RespR (mdF y.c y.k y.a y.b y.s.m).1.1 (mdF y.c y.k y.a y.b y.s.m).1.2 := by
  have h := (step6 y).1
  obtain ⟨⟨h1, h2⟩, ⟨h3, h4⟩, h5⟩ := h
  exact ⟨h1, by omega, h3, h4, h5⟩
theorem wf6 (y : HY2) : MdWf (mdF y.c y.k y.a y.b y.s.m).2 := mdF_wf y.s.wf
theorem ok6 (y : HY2) : MdOk (mdF y.c y.k y.a y.b y.s.m).2 := (step6 y).2.1
theorem asks6 (y : HY2) (h : y.c = 3 ∨ y.c = 4 ∨ y.c = 8 ∨ y.c = 9 ∨ y.c = 13) : (!sameB (mdF y.c y.k y.a y.b y.s.m).2 y.s.m) = false := by
  rw [mdF_asks h, sameB_of y.s.ok (SameP.refl y.s.ok)]; rfl
theorem size6 (m : Md) (h : MdOk m) : 0 ≤ mdSize m ∧ mdSize m ≤ 1000 := by
  have h1 := h.ql
  have h2 := h.ps.len
  have h3 := h.ss.len
  unfold mdSize
  omega
theorem mholds_run (W : World) (a : Option Addr) (len cap : Nat) (hc : (0 < len → a.isSome = true) ∧ (∀ j, j < len → SeenL W (addOpt a (j * 7)) 0 stepK) ∧ len ≤ maxLen) : Run (callN Try.prog (tbl6 : List (Smry Try.prog XM6)) (fun _ _ => false) 100 20 7 [.c (.sliv a false len cap)] ⟨[(0, .seen W)], 1⟩ (.both .nil (hMain len)) (fun v m _ => retSeen W v m)) := by
  constructor
  rw [mholds_vc]
  obtain ⟨h1, h2, h3⟩ := hc
  unfold maxLen at h3
  refine ⟨⟨h1, h2, h3⟩, fun b => ⟨fun _ => ⟨rfl, rfl⟩, fun _ => ⟨trivial, ⟨⟨0, Nat.zero_le _, MdS.new⟩, ?_⟩, fun y ρ => ⟨fun hlt => ?_, fun hge => ?_⟩⟩⟩⟩
  · repeat' first
      | with_reducible apply And.intro
      | with_reducible exact trivial
      | with_reducible exact Eq.refl _
      | exact rfl
  · have hlt' : y.i < len := by have := of_decide_eq_true hlt; omega
    have hk := h2 y.i hlt'
    have m1 := Int.emod_nonneg (seenInt .u16 W (addOpt (addOpt a (y.i * 7)) 2)) (show (300 : Int) ≠ 0 by decide)
    have m2 := Int.emod_lt_of_pos (seenInt .u16 W (addOpt (addOpt a (y.i * 7)) 2)) (show (0 : Int) < 300 by decide)
    have hb := seenInt_bd .u16 W (addOpt (addOpt a (y.i * 7)) 2)
    simp only [Int.toNat_natCast]
    refine ⟨⟨by omega, by omega, h1 (by omega)⟩, hk, ?_⟩
    repeat' first
      | with_reducible apply And.intro
      | with_reducible exact trivial
      | with_reducible exact Eq.refl _
    · refine ⟨⟨y.s, 0, (1 + seenInt .u16 W (addOpt (addOpt a (y.i * 7)) 2) % 300).toNat, Nat.zero_le _, by omega, seenInt .i64 W (addOpt (addOpt a (y.i * 7)) 0), seenInt .i64 W (addOpt (addOpt a (y.i * 7)) 1), seenInt .u16 W (addOpt (addOpt a (y.i * 7)) 2), seenInt .i64 W (addOpt (addOpt a (y.i * 7)) 3), seenInt .i64 W (addOpt (addOpt a (y.i * 7)) 4), seenInt .i64 W (addOpt (addOpt a (y.i * 7)) 5), seenInt .i64 W (addOpt (addOpt a (y.i * 7)) 6)⟩, ?_⟩
      repeat' first
        | with_reducible apply And.intro
        | with_reducible exact trivial
        | with_reducible exact Eq.refl _
        | exact rfl
        | (show (((1 + seenInt .u16 W (addOpt (addOpt a (y.i * 7)) 2) % 300).toNat : Nat) : Int) = _; omega)
    · intro z ρ2
      refine ⟨fun hl2 => ?_, fun hg2 => ?_⟩
      · have hj : z.j < z.cnt := by have := of_decide_eq_true hl2; omega
        have hcnt := z.hc
        have s1 := size6 z.s.m z.s.ok
        have s2 := size6 _ (ok6 z)
        have st := step6 z
        have st1 := st.2.2.1
        have st2 := st.2.2.2
        have w1 := wf6 z
        have w2 := z.s.wf
        have o1 := ok6 z
        have o2 := z.s.ok
        have r1 := resp6 z
        have k1 := st.1.1.2
        repeat' first
          | with_reducible apply And.intro
          | with_reducible exact trivial
          | with_reducible exact Eq.refl _
          | exact o1
          | exact o2
          | exact w1
          | exact w2
          | (with_reducible refine fun (h : (_ == _) = true) => ?_; replace h := eq_of_beq h)
          | (with_reducible refine fun (h : (_ == _) = false) => ?_; replace h := beq_eq_false_iff_ne.1 h)
          | (with_reducible refine (Exists.intro (z.next hj) ?_ : ∃ y' : HY2, _))
          | intro _
        all_goals first
          | omega
          | exact asks6 z (by omega)
          | (rw [decide_eq_true r1]; rfl)
          | exact decide_eq_false (by omega)
          | exact beq_eq_false_iff_ne.2 (by omega)
          | (show ((z.j + 1 : Nat) : Int) = (z.j : Int) + 1; omega)
          | (show z.cnt - (z.j + 1) < z.cnt - z.j; omega)
          | exact rfl
          | skip
      · refine ⟨⟨by omega, by omega⟩, ⟨⟨y.i + 1, by omega, z.s⟩, ?_⟩⟩
        repeat' first
          | with_reducible apply And.intro
          | with_reducible exact trivial
          | with_reducible exact Eq.refl _
          | (show len - (y.i + 1) < len - y.i; omega)
          | (show ((y.i + 1 : Nat) : Int) = (y.i : Int) + 1; omega)
          | exact rfl
  · exact ⟨rfl, rfl⟩
end Go.Proofs.Ytaflaaiomlijbaa
