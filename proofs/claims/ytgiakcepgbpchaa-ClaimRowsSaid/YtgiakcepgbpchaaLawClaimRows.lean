/- ClaimRows: for all n and all that are let go the law returns true and turns nothing; condition: the slice is read as numbers of one byte. -/
import Derived.Test.YtgiakcepgbpchaaClmEnd
import Derived.Test.YtgiakcepgbpchaaFirst11
import Derived.Test.YtgiakcepgbpchaaBaseC
set_option linter.all false
namespace Go.Proofs.Ytgiakcepgbpchaa
open Go Go.RowKit
set_option maxRecDepth 1000000
set_option maxHeartbeats 0
def tblCR : List (Smry Try.prog XM) := [firstS 52 (fun W => by have h := law_trueR first11 W; exact h), newQ.lift, writeQ.lift, faultsQ.lift, clmNewX, clmStepX, clmPlaceX, rsegS]
def allN : List Nat := (List.range 1500).map (· + 1)
abbrev parM (x : PA) : SO XM := .ext (HO.old (HO.obj [] x))
inductive RY (cnt : Nat) where
  | z (y : {y : R1 cnt // y.i = 0})
  | s (y : {y : R1 cnt // 0 < y.i})
def RY.y {cnt : Nat} : RY cnt → R1 cnt
  | .z y => y.1
  | .s y => y.1
def embsR (cnt : Nat) : List (Emb (RY cnt)) := [⟨_, RY.z⟩, ⟨_, RY.s⟩]
def psS (n cap i : Nat) : SV := .c (.sli n 2 true 0 false i cap)
def psO (cap i : Nat) : SO XM := .vals 37 2 i cap plR
def invR (cnt n : Nat) : RY cnt → List (Nat × SV) × List (Nat × SO XM)
  | .z y => ([(6, .c (.ptr n 0)), (8, .c .nls), (31, .c (.int false .i64 0))], [(n, parM y.1.x)])
  | .s y => ([(6, .c (.ptr n 0)), (8, psS (n + 1) y.1.cap y.1.i), (31, .c (.int false .i64 (y.1.i : Int)))], [(n, parM y.1.x), (n + 1, psO y.1.cap y.1.i)])
def selR (f : SF) (_ : SH XM) : Nat := match f.at 8 with
  | .c .nls => 0
  | _ => 1
def stR {cnt : Nat} (y : RY cnt) (j : Nat) : CP := itC (c0R ((y.y.i : Int) + 1), y.y.x) j
def invR2 {cnt : Nat} (y : RY cnt) (n : Nat) (z : {j : Nat // j ≤ 100}) : List (Nat × SV) × List (Nat × SO XM) := match y with
  | .z _ => ([(6, .c (.ptr n 0)), (10, .c (.ptr (n + 1) 0)), (39, .c (.int false .i64 (z.1 : Int)))], [(n, parM (stR y z.1).2), (n + 1, .ext (HO.obj [n] (stR y z.1).1))])
  | .s w => ([(6, .c (.ptr n 0)), (8, psS (n + 2) w.1.cap w.1.i), (10, .c (.ptr (n + 1) 0)), (39, .c (.int false .i64 (z.1 : Int)))], [(n, parM (stR y z.1).2), (n + 1, .ext (HO.obj [n] (stR y z.1).1)), (n + 2, psO w.1.cap w.1.i)])
def invR3 (cnt m n : Nat) (y : R3 cnt m) : List (Nat × SV) × List (Nat × SO XM) := ([(6, .c (.ptr n 0)), (8, psS (n + 1) y.cap cnt), (13, .c (.int false .i64 (y.least : Int))), (69, .c (.int false .i64 (y.k : Int)))], [(n, parM y.x), (n + 1, psO y.cap cnt)])
def stR3 {cnt m : Nat} (y : R3 cnt m) (j : Nat) : CP := itC (c0R 99, y.x) j
def invR4 {cnt m : Nat} (y : R3 cnt m) (n : Nat) (z : {j : Nat // j ≤ 100}) : List (Nat × SV) × List (Nat × SO XM) := ([(6, .c (.ptr n 0)), (17, .c (.ptr (n + 1) 0)), (90, .c (.int false .i64 (z.1 : Int)))], [(n, parM (stR3 y z.1).2), (n + 1, .ext (HO.obj [n] (stR3 y z.1).1))])
def restR (W : World) (a : Option Addr) (cnt m : Nat) : Scr XM := .inv (liveL [5, 6, 8, 13, 67, 68, 69]) allN (R3 cnt m) (invR3 cnt m) (fun y => m - y.k) fun y => .both .nil
  (.inv (liveL [6, 13, 17, 90]) allN {j : Nat // j ≤ 100} (invR4 y) (fun z => 100 - z.1) fun _ => .both .nil (.t (.t .nil)))
def innR {cnt : Nat} (y : RY cnt) : Scr XM := .inv (liveL [1, 5, 6, 8, 9, 10, 30, 31, 39]) allN {j : Nat // j ≤ 100} (invR2 y) (fun z => 100 - z.1) fun _ => .both .nil (.f (.f .nil))
def scrR (W : World) (a : Option Addr) (cnt m : Nat) : Scr XM := .invs (liveL [1, 5, 6, 8, 30, 31]) allN (RY cnt) (embsR cnt) selR (invR cnt) (fun y => cnt - y.y.i) fun y => match y with
  | .z _ => .t (innR y)
  | .s _ => .both (innR y) (restR W a cnt m)
/-- What the executor leaves to be shown of roundelay/roundelaylaw11.ClaimRows, written out. -/
theorem claimRows_vc (W : World) (a : Option Addr) (len cap : Nat) (nn : Nat) : (callN Try.prog (tblCR : List (Smry Try.prog XM)) (fun _ _ => false) 100 20 8 [.c (.int false .u8 (nn : Int)), .c (.sliv a false len cap)] ⟨[(0, .seen W)], 1⟩ (scrR W a (1 + nn % 60) (min len 20)) (fun v m _ => retSeen W v m)) = (
    ((0 : Int) ≤ (↑nn : Int) ∧ (0 : Int) < (60 : Int)) ∧ ((0 : Int) ≤ (60000 : Int) ∧ (60000 : Int) ≤ (60000 : Int)) ∧ (∀ (y : RY ((1 : Nat) + nn % (60 : Nat))), (∃ (z : (Emb.mk { y :
    R1 ((1 : Nat) + nn % (60 : Nat)) // y.i = (0 : Nat) } RY.z).Z), RY.z z = y) ∨ (∃ (z : (Emb.mk { y : R1 ((1 : Nat) + nn % (60 : Nat)) // (0 : Nat) < y.i } RY.s).Z), RY.s z = y) ∨
    False) ∧ (∃ (z : (Emb.mk { y : R1 ((1 : Nat) + nn % (60 : Nat)) // y.i = (0 : Nat) } RY.z).Z), a = a ∧ len = len ∧ cap = cap ∧ (1 : Int) + (↑nn : Int) % (60 : Int) = (1 : Int) +
    (↑nn : Int) % (60 : Int) ∧ (1 : Int) + (↑nn : Int) % (60 : Int) = (1 : Int) + (↑nn : Int) % (60 : Int) ∧ W = W ∧ (0 : Int) = (0 : Int) ∧ z.val.x = PA.new (60000 : Nat) ∧ True) ∧ (∀
    (z : (Emb.mk { y : R1 ((1 : Nat) + nn % (60 : Nat)) // y.i = (0 : Nat) } RY.z).Z) (ρ : Nat → Value), decide ((0 : Int) < (1 : Int) + (↑nn : Int) % (60 : Int)) = true ∧
    ((-9223372036854775808 : Int) ≤ (1 : Int) ∧ (1 : Int) ≤ (9223372036854775807 : Int)) ∧ ((0 : Int) ≤ (1 : Int) ∧ (1 : Int) < (18446744073709551616 : Int)) ∧ Int.NonNeg (0 : Int) ∧ (∃
    (y : { j : Nat // j ≤ (100 : Nat) }), a = a ∧ len = len ∧ cap = cap ∧ (1 : Int) + (↑nn : Int) % (60 : Int) = (1 : Int) + (↑nn : Int) % (60 : Int) ∧ (0 : Int) = (0 : Int) ∧ (1 : Int)
    + (↑nn : Int) % (60 : Int) = (1 : Int) + (↑nn : Int) % (60 : Int) ∧ (0 : Int) = (0 : Int) ∧ W = W ∧ (↑y.val : Int) = (0 : Int) ∧ (stR ((Emb.mk { y : R1 ((1 : Nat) + nn % (60 : Nat))
    // y.i = (0 : Nat) } RY.z).e z) y.val).snd = z.val.x ∧ (stR ((Emb.mk { y : R1 ((1 : Nat) + nn % (60 : Nat)) // y.i = (0 : Nat) } RY.z).e z) y.val).fst = clm0 (1 : Int) (HO.obj []
    z.val.x) ∧ True) ∧ ∀ (y : { j : Nat // j ≤ (100 : Nat) }) (ρ : Nat → Value), (decide ((↑y.val : Int) < (100 : Int)) = true → (clmOk (stR ((Emb.mk { y : R1 ((1 : Nat) + nn % (60 :
    Nat)) // y.i = (0 : Nat) } RY.z).e z) y.val).fst (stR ((Emb.mk { y : R1 ((1 : Nat) + nn % (60 : Nat)) // y.i = (0 : Nat) } RY.z).e z) y.val).snd ∧ (stR (RY.z z) y.val).fst.ph ≤ (5 :
    Nat)) ∧ ((-9223372036854775808 : Int) ≤ (↑y.val : Int) + (1 : Int) ∧ (↑y.val : Int) + (1 : Int) ≤ (9223372036854775807 : Int)) ∧ ∃ (y' : { j : Nat // j ≤ (100 : Nat) }), (100 : Nat)
    - y'.val < (100 : Nat) - y.val ∧ a = a ∧ len = len ∧ cap = cap ∧ (1 : Int) + (↑nn : Int) % (60 : Int) = (1 : Int) + (↑nn : Int) % (60 : Int) ∧ (0 : Int) = (0 : Int) ∧ (1 : Int) +
    (↑nn : Int) % (60 : Int) = (1 : Int) + (↑nn : Int) % (60 : Int) ∧ (0 : Int) = (0 : Int) ∧ W = W ∧ (↑y'.val : Int) = (↑y.val : Int) + (1 : Int) ∧ (stR ((Emb.mk { y : R1 ((1 : Nat) +
    nn % (60 : Nat)) // y.i = (0 : Nat) } RY.z).e z) y'.val).snd = clmA (stR ((Emb.mk { y : R1 ((1 : Nat) + nn % (60 : Nat)) // y.i = (0 : Nat) } RY.z).e z) y.val).fst (stR ((Emb.mk { y
    : R1 ((1 : Nat) + nn % (60 : Nat)) // y.i = (0 : Nat) } RY.z).e z) y.val).snd ∧ (stR ((Emb.mk { y : R1 ((1 : Nat) + nn % (60 : Nat)) // y.i = (0 : Nat) } RY.z).e z) y'.val).fst =
    clmXF (stR ((Emb.mk { y : R1 ((1 : Nat) + nn % (60 : Nat)) // y.i = (0 : Nat) } RY.z).e z) y.val).fst (HO.obj [] (stR ((Emb.mk { y : R1 ((1 : Nat) + nn % (60 : Nat)) // y.i = (0 :
    Nat) } RY.z).e z) y.val).snd) ∧ True) ∧ (decide ((↑y.val : Int) < (100 : Int)) = false → (stR (RY.z z) y.val).fst.ph.le (5 : Nat) ∧ (!(stR (RY.z z) y.val).fst.got) = false ∧ ((↑(if
    (stR (RY.z z) y.val).fst.got = true then (stR (RY.z z) y.val).fst.slot else (0 : Nat)) : Int) != (0 : Int)) = false ∧ True ∧ True ∧ (1 : Nat) ≤ (1000000000 : Nat) ∧ ∀ (cap_1 : Nat),
    (1 : Nat) ≤ cap_1 → ((-9223372036854775808 : Int) ≤ (1 : Int) ∧ (1 : Int) ≤ (9223372036854775807 : Int)) ∧ ∃ (z_1 : (Emb.mk { y : R1 ((1 : Nat) + nn % (60 : Nat)) // (0 : Nat) < y.i
    } RY.s).Z), (1 : Nat) + nn % (60 : Nat) - (RY.s z_1).y.i < (1 : Nat) + nn % (60 : Nat) - (RY.z z).y.i ∧ a = a ∧ len = len ∧ cap = cap ∧ (1 : Int) + (↑nn : Int) % (60 : Int) = (1 :
    Int) + (↑nn : Int) % (60 : Int) ∧ (1 : Int) + (↑nn : Int) % (60 : Int) = (1 : Int) + (↑nn : Int) % (60 : Int) ∧ W = W ∧ (0 : Nat) = (0 : Nat) ∧ z_1.val.i = (1 : Nat) ∧ z_1.val.cap =
    cap_1 ∧ (↑z_1.val.i : Int) = (1 : Int) ∧ z_1.val.x = (stR ((Emb.mk { y : R1 ((1 : Nat) + nn % (60 : Nat)) // y.i = (0 : Nat) } RY.z).e z) y.val).snd ∧ (z_1.val.i = (1 : Nat) ∧
    z_1.val.cap = cap_1 ∧ (2 : Nat) = (2 : Nat) ∧ [Value.int IntKind.u64 (65537 : Int), Value.int IntKind.i64 (0 : Int)] = [Value.int IntKind.u64 (↑(if (stR (RY.z z) y.val).fst.got =
    true then (stR (RY.z z) y.val).fst.seg else (0 : Nat)) : Int), Value.int IntKind.i64 (↑(if (stR (RY.z z) y.val).fst.got = true then (stR (RY.z z) y.val).fst.slot else (0 : Nat)) :
    Int)] ∧ True) ∧ True)) ∧ (∀ (z : (Emb.mk { y : R1 ((1 : Nat) + nn % (60 : Nat)) // (0 : Nat) < y.i } RY.s).Z) (ρ : Nat → Value), (decide ((↑z.val.i : Int) < (1 : Int) + (↑nn : Int)
    % (60 : Int)) = true → ((-9223372036854775808 : Int) ≤ (↑z.val.i : Int) + (1 : Int) ∧ (↑z.val.i : Int) + (1 : Int) ≤ (9223372036854775807 : Int)) ∧ ((0 : Int) ≤ (↑z.val.i : Int) +
    (1 : Int) ∧ (↑z.val.i : Int) + (1 : Int) < (18446744073709551616 : Int)) ∧ ((↑z.val.i : Int) + (1 : Int) - (1 : Int)).NonNeg ∧ (∃ (y : { j : Nat // j ≤ (100 : Nat) }), a = a ∧ len =
    len ∧ cap = cap ∧ (1 : Int) + (↑nn : Int) % (60 : Int) = (1 : Int) + (↑nn : Int) % (60 : Int) ∧ (↑z.val.i : Int) = (↑z.val.i : Int) ∧ (1 : Int) + (↑nn : Int) % (60 : Int) = (1 :
    Int) + (↑nn : Int) % (60 : Int) ∧ (↑z.val.i : Int) = (↑z.val.i : Int) ∧ W = W ∧ (0 : Nat) = (0 : Nat) ∧ z.val.i = z.val.i ∧ z.val.cap = z.val.cap ∧ (↑y.val : Int) = (0 : Int) ∧ (stR
    ((Emb.mk { y : R1 ((1 : Nat) + nn % (60 : Nat)) // (0 : Nat) < y.i } RY.s).e z) y.val).snd = z.val.x ∧ (stR ((Emb.mk { y : R1 ((1 : Nat) + nn % (60 : Nat)) // (0 : Nat) < y.i }
    RY.s).e z) y.val).fst = clm0 ((↑z.val.i : Int) + (1 : Int)) (HO.obj [] z.val.x) ∧ (z.val.i = z.val.i ∧ z.val.cap = z.val.cap ∧ ∀ (i : Nat), i < z.val.i → [Value.int IntKind.u64
    (↑((segG i + (1 : Nat)) * (65537 : Nat)) : Int), Value.int IntKind.i64 (↑i : Int)] = [Value.int IntKind.u64 (↑((segG i + (1 : Nat)) * (65537 : Nat)) : Int), Value.int IntKind.i64
    (↑i : Int)]) ∧ True) ∧ ∀ (y : { j : Nat // j ≤ (100 : Nat) }) (ρ : Nat → Value), (decide ((↑y.val : Int) < (100 : Int)) = true → (clmOk (stR ((Emb.mk { y : R1 ((1 : Nat) + nn % (60
    : Nat)) // (0 : Nat) < y.i } RY.s).e z) y.val).fst (stR ((Emb.mk { y : R1 ((1 : Nat) + nn % (60 : Nat)) // (0 : Nat) < y.i } RY.s).e z) y.val).snd ∧ (stR (RY.s z) y.val).fst.ph ≤ (5
    : Nat)) ∧ ((-9223372036854775808 : Int) ≤ (↑y.val : Int) + (1 : Int) ∧ (↑y.val : Int) + (1 : Int) ≤ (9223372036854775807 : Int)) ∧ ∃ (y' : { j : Nat // j ≤ (100 : Nat) }), (100 :
    Nat) - y'.val < (100 : Nat) - y.val ∧ a = a ∧ len = len ∧ cap = cap ∧ (1 : Int) + (↑nn : Int) % (60 : Int) = (1 : Int) + (↑nn : Int) % (60 : Int) ∧ (↑z.val.i : Int) = (↑z.val.i :
    Int) ∧ (1 : Int) + (↑nn : Int) % (60 : Int) = (1 : Int) + (↑nn : Int) % (60 : Int) ∧ (↑z.val.i : Int) = (↑z.val.i : Int) ∧ W = W ∧ (0 : Nat) = (0 : Nat) ∧ z.val.i = z.val.i ∧
    z.val.cap = z.val.cap ∧ (↑y'.val : Int) = (↑y.val : Int) + (1 : Int) ∧ (stR ((Emb.mk { y : R1 ((1 : Nat) + nn % (60 : Nat)) // (0 : Nat) < y.i } RY.s).e z) y'.val).snd = clmA (stR
    ((Emb.mk { y : R1 ((1 : Nat) + nn % (60 : Nat)) // (0 : Nat) < y.i } RY.s).e z) y.val).fst (stR ((Emb.mk { y : R1 ((1 : Nat) + nn % (60 : Nat)) // (0 : Nat) < y.i } RY.s).e z)
    y.val).snd ∧ (stR ((Emb.mk { y : R1 ((1 : Nat) + nn % (60 : Nat)) // (0 : Nat) < y.i } RY.s).e z) y'.val).fst = clmXF (stR ((Emb.mk { y : R1 ((1 : Nat) + nn % (60 : Nat)) // (0 :
    Nat) < y.i } RY.s).e z) y.val).fst (HO.obj [] (stR ((Emb.mk { y : R1 ((1 : Nat) + nn % (60 : Nat)) // (0 : Nat) < y.i } RY.s).e z) y.val).snd) ∧ (z.val.i = z.val.i ∧ z.val.cap =
    z.val.cap ∧ ∀ (i : Nat), i < z.val.i → [Value.int IntKind.u64 (↑((segG i + (1 : Nat)) * (65537 : Nat)) : Int), Value.int IntKind.i64 (↑i : Int)] = [Value.int IntKind.u64 (↑((segG i
    + (1 : Nat)) * (65537 : Nat)) : Int), Value.int IntKind.i64 (↑i : Int)]) ∧ True) ∧ (decide ((↑y.val : Int) < (100 : Int)) = false → (stR (RY.s z) y.val).fst.ph.le (5 : Nat) ∧ (!(stR
    (RY.s z) y.val).fst.got) = false ∧ ((↑(if (stR (RY.s z) y.val).fst.got = true then (stR (RY.s z) y.val).fst.slot else (0 : Nat)) : Int) != (↑z.val.i : Int)) = false ∧ (z.val.cap =
    z.val.cap ∧ z.val.i ≤ z.val.i) ∧ True ∧ z.val.i + (1 : Nat) ≤ (1000000000 : Nat) ∧ ∀ (cap_1 : Nat), z.val.i + (1 : Nat) ≤ cap_1 → ((-9223372036854775808 : Int) ≤ (↑z.val.i : Int) +
    (1 : Int) ∧ (↑z.val.i : Int) + (1 : Int) ≤ (9223372036854775807 : Int)) ∧ ∃ (z_1 : (Emb.mk { y : R1 ((1 : Nat) + nn % (60 : Nat)) // (0 : Nat) < y.i } RY.s).Z), (1 : Nat) + nn % (60
    : Nat) - (RY.s z_1).y.i < (1 : Nat) + nn % (60 : Nat) - (RY.s z).y.i ∧ a = a ∧ len = len ∧ cap = cap ∧ (1 : Int) + (↑nn : Int) % (60 : Int) = (1 : Int) + (↑nn : Int) % (60 : Int) ∧
    (1 : Int) + (↑nn : Int) % (60 : Int) = (1 : Int) + (↑nn : Int) % (60 : Int) ∧ W = W ∧ (0 : Nat) = (0 : Nat) ∧ z_1.val.i = z.val.i + (1 : Nat) ∧ z_1.val.cap = cap_1 ∧ (↑z_1.val.i :
    Int) = (↑z.val.i : Int) + (1 : Int) ∧ z_1.val.x = (stR ((Emb.mk { y : R1 ((1 : Nat) + nn % (60 : Nat)) // (0 : Nat) < y.i } RY.s).e z) y.val).snd ∧ (z_1.val.i = z.val.i + (1 : Nat)
    ∧ z_1.val.cap = cap_1 ∧ ∀ (i : Nat), i < z_1.val.i → [Value.int IntKind.u64 (↑((segG i + (1 : Nat)) * (65537 : Nat)) : Int), Value.int IntKind.i64 (↑i : Int)] = if i < z.val.i then
    plR i else [Value.int IntKind.u64 (↑(if (stR ((Emb.mk { y : R1 ((1 : Nat) + nn % (60 : Nat)) // (0 : Nat) < y.i } RY.s).e z) y.val).fst.got = true then (stR ((Emb.mk { y : R1 ((1 :
    Nat) + nn % (60 : Nat)) // (0 : Nat) < y.i } RY.s).e z) y.val).fst.seg else (0 : Nat)) : Int), Value.int IntKind.i64 (↑(if (stR ((Emb.mk { y : R1 ((1 : Nat) + nn % (60 : Nat)) // (0
    : Nat) < y.i } RY.s).e z) y.val).fst.got = true then (stR ((Emb.mk { y : R1 ((1 : Nat) + nn % (60 : Nat)) // (0 : Nat) < y.i } RY.s).e z) y.val).fst.slot else (0 : Nat)) : Int)]) ∧
    True)) ∧ (decide ((↑z.val.i : Int) < (1 : Int) + (↑nn : Int) % (60 : Int)) = false → ((0 : Int) ≤ min (↑len : Int) (20 : Int) ∧ min (↑len : Int) (20 : Int) ≤ (↑cap : Int)) ∧ (∃ (y :
    R3 ((1 : Nat) + nn % (60 : Nat)) (min len (20 : Nat))), (1 : Int) + (↑nn : Int) % (60 : Int) = (1 : Int) + (↑nn : Int) % (60 : Int) ∧ a = a ∧ (min (↑len : Int) (20 : Int)).toNat =
    (min (↑len : Int) (20 : Int)).toNat ∧ cap = cap ∧ (↑(min (↑len : Int) (20 : Int)).toNat : Int) = (↑(min (↑len : Int) (20 : Int)).toNat : Int) ∧ W = W ∧ (0 : Nat) = (0 : Nat) ∧ (1 :
    Nat) + nn % (60 : Nat) = z.val.i ∧ y.cap = z.val.cap ∧ (↑y.least : Int) = (1 : Int) + (↑nn : Int) % (60 : Int) ∧ (↑y.k : Int) = (0 : Int) ∧ y.x = z.val.x ∧ ((1 : Nat) + nn % (60 :
    Nat) = z.val.i ∧ y.cap = z.val.cap ∧ ∀ (i : Nat), i < (1 : Nat) + nn % (60 : Nat) → [Value.int IntKind.u64 (↑((segG i + (1 : Nat)) * (65537 : Nat)) : Int), Value.int IntKind.i64 (↑i
    : Int)] = [Value.int IntKind.u64 (↑((segG i + (1 : Nat)) * (65537 : Nat)) : Int), Value.int IntKind.i64 (↑i : Int)]) ∧ True) ∧ ∀ (y : R3 ((1 : Nat) + nn % (60 : Nat)) (min len (20 :
    Nat))) (ρ : Nat → Value), (decide ((↑y.k : Int) < (↑(min (↑len : Int) (20 : Int)).toNat : Int)) = true → ((0 : Int) ≤ (↑y.k : Int) ∧ (↑y.k : Int) < (↑(min (↑len : Int) (20 :
    Int)).toNat : Int) ∧ a.isSome = true) ∧ (∃ (x : Addr), addOpt a (↑y.k : Int).toNat = some x ∧ W.cell? x = some (Value.int IntKind.u8 (seenInt IntKind.u8 W (addOpt a (↑y.k :
    Int).toNat)))) ∧ ((0 : Int) ≤ seenInt IntKind.u8 W (addOpt a (↑y.k : Int).toNat) % ((1 : Int) + (↑nn : Int) % (60 : Int)) ∧ seenInt IntKind.u8 W (addOpt a (↑y.k : Int).toNat) % ((1
    : Int) + (↑nn : Int) % (60 : Int)) < (↑((1 : Nat) + nn % (60 : Nat)) : Int)) ∧ addO true (0 : Nat) (seenInt IntKind.u8 W (addOpt a (↑y.k : Int).toNat) % ((1 : Int) + (↑nn : Int) %
    (60 : Int))).toNat < (1 : Nat) + nn % (60 : Nat) ∧ ((0 : Int) ≤ (↑(addO true (0 : Nat) (seenInt IntKind.u8 W (addOpt a (↑y.k : Int).toNat) % ((1 : Int) + (↑nn : Int) % (60 :
    Int))).toNat) : Int) ∧ (↑(addO true (0 : Nat) (seenInt IntKind.u8 W (addOpt a (↑y.k : Int).toNat) % ((1 : Int) + (↑nn : Int) % (60 : Int))).toNat) : Int) ≤ (254 : Int)) ∧
    ((-9223372036854775808 : Int) ≤ (5 : Int) * (↑(segO (↑(addO true (0 : Nat) (seenInt IntKind.u8 W (addOpt a (↑y.k : Int).toNat) % ((1 : Int) + (↑nn : Int) % (60 : Int))).toNat) :
    Int).toNat) : Int) ∧ (5 : Int) * (↑(segO (↑(addO true (0 : Nat) (seenInt IntKind.u8 W (addOpt a (↑y.k : Int).toNat) % ((1 : Int) + (↑nn : Int) % (60 : Int))).toNat) : Int).toNat) :
    Int) ≤ (9223372036854775807 : Int)) ∧ ((-9223372036854775808 : Int) ≤ (5 : Int) * (↑(segO (↑(addO true (0 : Nat) (seenInt IntKind.u8 W (addOpt a (↑y.k : Int).toNat) % ((1 : Int) +
    (↑nn : Int) % (60 : Int))).toNat) : Int).toNat) : Int) + (0 : Int) ∧ (5 : Int) * (↑(segO (↑(addO true (0 : Nat) (seenInt IntKind.u8 W (addOpt a (↑y.k : Int).toNat) % ((1 : Int) +
    (↑nn : Int) % (60 : Int))).toNat) : Int).toNat) : Int) + (0 : Int) ≤ (9223372036854775807 : Int)) ∧ y.x.Has (↑((segG (addO true (0 : Nat) (seenInt IntKind.u8 W (addOpt a (↑y.k :
    Int).toNat) % ((1 : Int) + (↑nn : Int) % (60 : Int))).toNat) + (1 : Nat)) * (65537 : Nat)) : Int) ((5 : Int) * (↑(segO (↑(addO true (0 : Nat) (seenInt IntKind.u8 W (addOpt a (↑y.k :
    Int).toNat) % ((1 : Int) + (↑nn : Int) % (60 : Int))).toNat) : Int).toNat) : Int) + (0 : Int)) ∧ ((0 : Int) ≤ (0 : Int) ∧ (0 : Int) < (18446744073709551616 : Int)) ∧
    ((-9223372036854775808 : Int) ≤ (↑y.k : Int) + (1 : Int) ∧ (↑y.k : Int) + (1 : Int) ≤ (9223372036854775807 : Int)) ∧ ∃ (y' : R3 ((1 : Nat) + nn % (60 : Nat)) (min len (20 : Nat))),
    min len (20 : Nat) - y'.k < min len (20 : Nat) - y.k ∧ (1 : Int) + (↑nn : Int) % (60 : Int) = (1 : Int) + (↑nn : Int) % (60 : Int) ∧ a = a ∧ (min (↑len : Int) (20 : Int)).toNat =
    (min (↑len : Int) (20 : Int)).toNat ∧ cap = cap ∧ (↑(min (↑len : Int) (20 : Int)).toNat : Int) = (↑(min (↑len : Int) (20 : Int)).toNat : Int) ∧ W = W ∧ (0 : Nat) = (0 : Nat) ∧ (1 :
    Nat) + nn % (60 : Nat) = (1 : Nat) + nn % (60 : Nat) ∧ y'.cap = y.cap ∧ (↑y'.least : Int) = min (↑y.least : Int) (seenInt IntKind.u8 W (addOpt a (↑y.k : Int).toNat) % ((1 : Int) +
    (↑nn : Int) % (60 : Int))) ∧ (↑y'.k : Int) = (↑y.k : Int) + (1 : Int) ∧ y'.x = y.x.writeQ (↑((segG (addO true (0 : Nat) (seenInt IntKind.u8 W (addOpt a (↑y.k : Int).toNat) % ((1 :
    Int) + (↑nn : Int) % (60 : Int))).toNat) + (1 : Nat)) * (65537 : Nat)) : Int) ((5 : Int) * (↑(segO (↑(addO true (0 : Nat) (seenInt IntKind.u8 W (addOpt a (↑y.k : Int).toNat) % ((1 :
    Int) + (↑nn : Int) % (60 : Int))).toNat) : Int).toNat) : Int) + (0 : Int)) (0 : Int) ∧ ((1 : Nat) + nn % (60 : Nat) = (1 : Nat) + nn % (60 : Nat) ∧ y'.cap = y.cap ∧ ∀ (i : Nat), i <
    (1 : Nat) + nn % (60 : Nat) → [Value.int IntKind.u64 (↑((segG i + (1 : Nat)) * (65537 : Nat)) : Int), Value.int IntKind.i64 (↑i : Int)] = [Value.int IntKind.u64 (↑((segG i + (1 :
    Nat)) * (65537 : Nat)) : Int), Value.int IntKind.i64 (↑i : Int)]) ∧ True) ∧ (decide ((↑y.k : Int) < (↑(min (↑len : Int) (20 : Int)).toNat : Int)) = false → Int.NonNeg (98 : Int) ∧
    (∃ (y_1 : { j : Nat // j ≤ (100 : Nat) }), (↑y.least : Int) = (↑y.least : Int) ∧ W = W ∧ (↑y_1.val : Int) = (0 : Int) ∧ (stR3 y y_1.val).snd = y.x ∧ (stR3 y y_1.val).fst = clm0 (99
    : Int) (HO.obj [] y.x) ∧ True) ∧ ∀ (y_1 : { j : Nat // j ≤ (100 : Nat) }) (ρ : Nat → Value), (decide ((↑y_1.val : Int) < (100 : Int)) = true → (clmOk (stR3 y y_1.val).fst (stR3 y
    y_1.val).snd ∧ (stR3 y y_1.val).fst.ph ≤ (5 : Nat)) ∧ ((-9223372036854775808 : Int) ≤ (↑y_1.val : Int) + (1 : Int) ∧ (↑y_1.val : Int) + (1 : Int) ≤ (9223372036854775807 : Int)) ∧ ∃
    (y' : { j : Nat // j ≤ (100 : Nat) }), (100 : Nat) - y'.val < (100 : Nat) - y_1.val ∧ (↑y.least : Int) = (↑y.least : Int) ∧ W = W ∧ (↑y'.val : Int) = (↑y_1.val : Int) + (1 : Int) ∧
    (stR3 y y'.val).snd = clmA (stR3 y y_1.val).fst (stR3 y y_1.val).snd ∧ (stR3 y y'.val).fst = clmXF (stR3 y y_1.val).fst (HO.obj [] (stR3 y y_1.val).snd) ∧ True) ∧ (decide ((↑y_1.val
    : Int) < (100 : Int)) = false → (stR3 y y_1.val).fst.ph.le (5 : Nat) ∧ (stR3 y y_1.val).fst.got = true ∧ ((↑(if (stR3 y y_1.val).fst.got = true then (stR3 y y_1.val).fst.slot else
    (0 : Nat)) : Int) == (↑y.least : Int)) = true ∧ (wr64 (stR3 y y_1.val).snd.faults == (0 : Int)) = true ∧ some W = some W)))) ∧ True) := by
  kernel_rfl
theorem claimRows_run (W : World) (a : Option Addr) (len cap : Nat) (nn : Nat) (hc : (0 < len → a.isSome = true) ∧ (∀ j, j < len → Seen .u8 W (addOpt a j)) ∧ nn ≤ 255 ∧ len ≤ cap) : Run (callN Try.prog (tblCR : List (Smry Try.prog XM)) (fun _ _ => false) 100 20 8 [.c (.int false .u8 (nn : Int)), .c (.sliv a false len cap)] ⟨[(0, .seen W)], 1⟩ (scrR W a (1 + nn % 60) (min len 20)) (fun v m _ => retSeen W v m)) := by
  constructor
  rw [claimRows_vc]
  obtain ⟨hsome, hseen, hnn, hcap⟩ := hc
  have hcnt : 1 + nn % 60 ≤ 60 := by omega
  have hcI : ((1 + nn % 60 : Nat) : Int) = 1 + (nn : Int) % 60 := by omega
  repeat' first
    | with_reducible apply And.intro
    | with_reducible exact trivial
    | with_reducible exact Eq.refl _
  · omega
  · omega
  · omega
  · omega
  · intro y
    cases y with
    | z z => exact .inl ⟨z, rfl⟩
    | s z => exact .inr (.inl ⟨z, rfl⟩)
  · obtain ⟨z, h0, hx⟩ := R1.zero (1 + nn % 60)
    exact ⟨⟨z, h0⟩, rfl, rfl, rfl, rfl, rfl, rfl, rfl, hx, trivial⟩
  · intro z ρ
    have hz : z.val.i = 0 := z.property
    have hat : ∀ j, j ≤ 100 → cpOk (stR (RY.z z) j) := fun j hj => R1.at hcnt z.val hj
    have hend : ∀ j, j = 100 → ∃ G' own', Ends z.val.G z.val.own ((z.val.i : Int) + 1).toNat z.val.i (stR (RY.z z) j).1 (stR (RY.z z) j).2 G' own' := fun j hj => R1.end hcnt z.val hj
    have hthen : z.val.i < 1 + nn % 60 → ∀ cap j, j = 100 → ∃ y : R1 (1 + nn % 60), y.i = z.val.i + 1 ∧ y.cap = cap ∧ y.x = (stR (RY.z z) j).2 := fun hlt cap j hj => R1.then hcnt z.val hlt cap hj
    have h0 : (stR (RY.z z) 0).2 = z.val.x := rfl
    have hs1 : ∀ j, (stR (RY.z z) (j + 1)).1 = clmXF (stR (RY.z z) j).1 (HO.obj (E := XE) (H := parH) [] (stR (RY.z z) j).2) := fun j => itC_fst _ j
    have hs2 : ∀ j, (stR (RY.z z) (j + 1)).2 = clmA (stR (RY.z z) j).1 (stR (RY.z z) j).2 := fun j => itC_snd _ j
    have h1 : (stR (RY.z z) 0).1 = clm0 1 (HO.obj (E := XE) (H := parH) [] z.val.x) := by
      show c0R ((z.val.i : Int) + 1) = _
      rw [hz]; rfl
    repeat' first
      | with_reducible apply And.intro
      | with_reducible exact trivial
      | with_reducible exact Eq.refl _
    · exact decide_eq_true (by omega)
    · omega
    · omega
    · omega
    · omega
    · exact Int.NonNeg.mk 0
    · refine ⟨⟨0, Nat.zero_le _⟩, ?_⟩
      repeat' first
        | with_reducible apply And.intro
        | with_reducible exact trivial
        | with_reducible exact Eq.refl _
        | exact h0
        | (show ((0 : Nat) : Int) = 0; rfl)
        | exact h1
    · intro y ρ
      refine ⟨fun hlt => ?_, fun hge => ?_⟩
      · have hj : y.val < 100 := by have := of_decide_eq_true hlt; omega
        refine ⟨hat _ (by omega), ⟨by omega, by omega⟩, ⟨y.val + 1, by omega⟩, ?_⟩
        repeat' first
          | with_reducible apply And.intro
          | with_reducible exact trivial
          | with_reducible exact Eq.refl _
          | exact hs1 _
          | exact hs2 _
          | (show 100 - (y.val + 1) < 100 - y.val; omega)
          | (show ((y.val + 1 : Nat) : Int) = (y.val : Int) + 1; omega)
      · have hj : y.val = 100 := by
          have := of_decide_eq_false hge
          have := y.property
          omega
        obtain ⟨G', own', en⟩ := hend _ hj
        have eg : (stR (RY.z z) y.val).1.got = true := en.got
        have es : (stR (RY.z z) y.val).1.slot = 0 := en.slot.trans hz
        have ee : (stR (RY.z z) y.val).1.seg = 65537 := by rw [en.seg, hz]; rfl
        refine ⟨?_, ?_, ?_, trivial, trivial, by omega, fun cap1 hc1 => ?_⟩
        · rw [en.ph]; exact Nat.le_refl 5
        · rw [eg]; rfl
        · rw [if_pos eg, es]; rfl
        · obtain ⟨y2, e1, e2, e3⟩ := hthen (by omega) cap1 _ hj
          refine ⟨⟨by omega, by omega⟩, ⟨y2, by omega⟩, ?_⟩
          repeat' first
            | with_reducible apply And.intro
            | with_reducible exact trivial
            | with_reducible exact Eq.refl _
            | (show 1 + nn % 60 - y2.i < 1 + nn % 60 - z.val.i; omega)
            | (show y2.i = 1; omega)
            | (show (y2.i : Int) = 1; omega)
            | exact e2
            | exact e3
            | (rw [if_pos eg, if_pos eg, es, ee]; rfl)
  · intro z ρ
    have hz : 0 < z.val.i := z.property
    have hat : ∀ j, j ≤ 100 → cpOk (stR (RY.s z) j) := fun j hj => R1.at hcnt z.val hj
    have hend : ∀ j, j = 100 → ∃ G' own', Ends z.val.G z.val.own ((z.val.i : Int) + 1).toNat z.val.i (stR (RY.s z) j).1 (stR (RY.s z) j).2 G' own' := fun j hj => R1.end hcnt z.val hj
    have hthen : z.val.i < 1 + nn % 60 → ∀ cap j, j = 100 → ∃ y : R1 (1 + nn % 60), y.i = z.val.i + 1 ∧ y.cap = cap ∧ y.x = (stR (RY.s z) j).2 := fun hlt cap j hj => R1.then hcnt z.val hlt cap hj
    have h0 : (stR (RY.s z) 0).2 = z.val.x := rfl
    have hs1 : ∀ j, (stR (RY.s z) (j + 1)).1 = clmXF (stR (RY.s z) j).1 (HO.obj (E := XE) (H := parH) [] (stR (RY.s z) j).2) := fun j => itC_fst _ j
    have hs2 : ∀ j, (stR (RY.s z) (j + 1)).2 = clmA (stR (RY.s z) j).1 (stR (RY.s z) j).2 := fun j => itC_snd _ j
    have h1 : (stR (RY.s z) 0).1 = clm0 ((z.val.i : Int) + 1) (HO.obj (E := XE) (H := parH) [] z.val.x) := rfl
    refine ⟨fun hl => ?_, fun hl => ?_⟩
    · have hlt : z.val.i < 1 + nn % 60 := by have := of_decide_eq_true hl; omega
      refine ⟨⟨by omega, by omega⟩, ⟨by omega, by omega⟩, ?_, ⟨⟨0, Nat.zero_le _⟩, ?_⟩, fun y ρ => ⟨fun hlt => ?_, fun hge => ?_⟩⟩
      · rw [Int.add_sub_cancel]; exact Int.NonNeg.mk _
      · repeat' first
          | with_reducible apply And.intro
          | with_reducible exact trivial
          | with_reducible exact Eq.refl _
          | exact h0
          | (show ((0 : Nat) : Int) = 0; rfl)
          | exact h1
          | exact fun i _ => rfl
      · have hj : y.val < 100 := by have := of_decide_eq_true hlt; omega
        refine ⟨hat _ (by omega), ⟨by omega, by omega⟩, ⟨y.val + 1, by omega⟩, ?_⟩
        repeat' first
          | with_reducible apply And.intro
          | with_reducible exact trivial
          | with_reducible exact Eq.refl _
          | exact hs1 _
          | exact hs2 _
          | exact fun i _ => rfl
          | (show 100 - (y.val + 1) < 100 - y.val; omega)
          | (show ((y.val + 1 : Nat) : Int) = (y.val : Int) + 1; omega)
      · have hj : y.val = 100 := by
          have := of_decide_eq_false hge
          have := y.property
          omega
        obtain ⟨G', own', en⟩ := hend _ hj
        have eg : (stR (RY.s z) y.val).1.got = true := en.got
        have es : (stR (RY.s z) y.val).1.slot = z.val.i := en.slot
        have ee : (stR (RY.s z) y.val).1.seg = (segG z.val.i + 1) * 65537 := en.seg
        refine ⟨?_, ?_, ?_, ?_, ?_, by omega, fun cap1 hc1 => ?_⟩
        · rw [en.ph]; exact Nat.le_refl 5
        · rw [eg]; rfl
        · rw [if_pos eg, es]; exact bne_self_eq_false _
        · exact ⟨rfl, Nat.le_refl _⟩
        · first | trivial | exact fun i _ => rfl
        · obtain ⟨y2, e1, e2, e3⟩ := hthen hlt cap1 _ hj
          refine ⟨⟨by omega, by omega⟩, ⟨y2, by omega⟩, ?_⟩
          repeat' first
            | with_reducible apply And.intro
            | with_reducible exact trivial
            | with_reducible exact Eq.refl _
            | (show 1 + nn % 60 - y2.i < 1 + nn % 60 - z.val.i; omega)
            | exact e1
            | (show (y2.i : Int) = (z.val.i : Int) + 1; omega)
            | exact e2
            | exact e3
            | (intro i hi; have hi2 : i < z.val.i + 1 := by rw [← e1]; exact hi
               by_cases h : i < z.val.i
               · rw [if_pos h]; rfl
               · have : i = z.val.i := by omega
                 rw [if_neg h, if_pos eg, if_pos eg, es, ee, this])
    · have hge := of_decide_eq_false hl
      have hiz := z.val.hi
      have hi : z.val.i = 1 + nn % 60 := by omega
      refine ⟨⟨by omega, by omega⟩, ?_, fun y ρ => ⟨fun hlt => ?_, fun hge2 => ?_⟩⟩
      · obtain ⟨y, e1, e2, e3, e4⟩ := R1.last (m := min len 20) z.val hi
        refine ⟨y, ?_⟩
        repeat' first
          | with_reducible apply And.intro
          | with_reducible exact trivial
          | with_reducible exact Eq.refl _
          | exact hi.symm
          | exact e2
          | exact e4
          | (rw [e3]; exact hcI)
          | (rw [e1]; rfl)
          | exact fun i _ => rfl
      · have hk : y.k < min len 20 := by have := of_decide_eq_true hlt; omega
        simp only [Int.toNat_natCast, addO_eq, Nat.zero_add, Int.add_zero]
        have hg : ∃ g : Nat, seenInt .u8 W (addOpt a y.k) % (1 + (nn : Int) % 60) = (g : Int) ∧ g < 1 + nn % 60 := by
          have h1 := Int.emod_nonneg (seenInt .u8 W (addOpt a y.k)) (show (1 + (nn : Int) % 60) ≠ 0 by omega)
          have h2 := Int.emod_lt_of_pos (seenInt .u8 W (addOpt a y.k)) (show 0 < (1 + (nn : Int) % 60) by omega)
          exact ⟨(seenInt .u8 W (addOpt a y.k) % (1 + (nn : Int) % 60)).toNat, by omega, by omega⟩
        obtain ⟨g, hg1, hg2⟩ := hg
        simp only [hg1, Int.toNat_natCast]
        have hso : segO g ≤ g + 1 := Nat.sub_le _ _
        obtain ⟨y2, e1, e2, e3, e4⟩ := R3.put hcnt y hg2 hk
        refine ⟨⟨by omega, by omega, hsome (by omega)⟩, ?_, ⟨by omega, by omega⟩, hg2, ⟨by omega, by omega⟩, ⟨by omega, by omega⟩, ⟨by omega, by omega⟩, R3.has hcnt y hg2, ⟨by omega, by omega⟩, ⟨by omega, by omega⟩, y2, ?_⟩
        · exact hseen y.k (by omega)
        · repeat' first
            | with_reducible apply And.intro
            | with_reducible exact trivial
            | with_reducible exact Eq.refl _
            | omega
            | exact e2
            | exact e4
            | exact fun _ _ => trivial
            | exact fun i _ => rfl
      · have hat3 : ∀ j, j ≤ 100 → cpOk (stR3 y j) := fun j hj => R3.at hcnt y hj
        have hend3 : ∀ j, j = 100 → ∃ G' own', Ends y.G y.own 99 y.least (stR3 y j).1 (stR3 y j).2 G' own' := fun j hj => R3.end hcnt y hj
        have g1 : ∀ j, (stR3 y (j + 1)).1 = clmXF (stR3 y j).1 (HO.obj (E := XE) (H := parH) [] (stR3 y j).2) := fun j => itC_fst _ j
        have g2 : ∀ j, (stR3 y (j + 1)).2 = clmA (stR3 y j).1 (stR3 y j).2 := fun j => itC_snd _ j
        have g3 : (stR3 y 0).2 = y.x := rfl
        have g4 : (stR3 y 0).1 = clm0 99 (HO.obj (E := XE) (H := parH) [] y.x) := rfl
        refine ⟨Int.NonNeg.mk 98, ⟨⟨0, Nat.zero_le _⟩, ?_⟩, fun y1 ρ => ⟨fun hlt => ?_, fun hge3 => ?_⟩⟩
        · repeat' first
            | with_reducible apply And.intro
            | with_reducible exact trivial
            | with_reducible exact Eq.refl _
            | exact g3
            | (show ((0 : Nat) : Int) = 0; rfl)
            | exact g4
        · have hj : y1.val < 100 := by have := of_decide_eq_true hlt; omega
          refine ⟨hat3 _ (by omega), ⟨by omega, by omega⟩, ⟨y1.val + 1, by omega⟩, ?_⟩
          repeat' first
            | with_reducible apply And.intro
            | with_reducible exact trivial
            | with_reducible exact Eq.refl _
            | exact g1 _
            | exact g2 _
            | (show 100 - (y1.val + 1) < 100 - y1.val; omega)
            | (show ((y1.val + 1 : Nat) : Int) = (y1.val : Int) + 1; omega)
        · have hj : y1.val = 100 := by
            have := of_decide_eq_false hge3
            have := y1.property
            omega
          obtain ⟨G', own', en⟩ := hend3 _ hj
          have eg : (stR3 y y1.val).1.got = true := en.got
          have es : (stR3 y y1.val).1.slot = y.least := en.slot
          have ef : (stR3 y y1.val).2.faults = 0 := en.ok.faults
          refine ⟨?_, eg, ?_, ?_, ?_⟩
          · rw [en.ph]; exact Nat.le_refl 5
          · rw [if_pos eg, es]; exact beq_self_eq_true _
          · rw [ef]; rfl
          · first | trivial | exact rfl
end Go.Proofs.Ytgiakcepgbpchaa
