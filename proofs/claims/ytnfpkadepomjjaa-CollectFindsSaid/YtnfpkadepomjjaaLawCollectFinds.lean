/- CollectFinds: for all slices of bytes the law returns true and turns nothing; condition: the slices are read as numbers of one byte. -/
import Derived.Test.YtnfpkadepomjjaaCntN
import Derived.Test.YtnfpkadepomjjaaFindC
import Derived.Test.YtnfpkadepomjjaaFndX
import Derived.Test.YtnfpkadepomjjaaBaseC
import Derived.Test.YtnfpkadepomjjaaFirst13
import Derived.Test.YtnfpkadepomjjaaBaseSeg
import Derived.Test.YtnfpkadepomjjaaBasePar
import Derived.Test.YtnfpkadepomjjaaShort
set_option linter.all false
namespace Go.Proofs.Ytnfpkadepomjjaa
open Go Go.RowKit
set_option maxRecDepth 1000000
set_option maxHeartbeats 0
abbrev XD : EXT := XC.hid (cntHg (xInHid colH))
abbrev ID : XIn XC := xInHid colH
def tblCO : List (Smry Try.prog XD) := [firstS 12 (fun W => by have h := law_trueR (first13_run trivial) W; exact h), segsX.lift.lift, colNewX.lift, colStepX.lift, colDoneX.lift, foundX.lift, placeX.lift.lift, cnStep ID, cnDone ID, cnEnter ID, cnExit ID, tallyX.lift.lift, rsegS]
def allN : List Nat := (List.range 3000).map (· + 1)
abbrev arD (A : Ar) : SO XD := .ext (HO.old (HO.old (XO.ar A)))
abbrev coD (n : Nat) (x : Col) : SO XD := .ext (HO.old (HO.obj [n] x))
abbrev csD (n len : Nat) (c : Nat → Option Cnt) : SO XD := .ext (HO.all [n] 41 len len c)
abbrev boD (len : Nat) (f : Nat → Bool) : SO XD := .vals 4 1 len len (fun j => [.bool (f j)])
def hD (n cap len : Nat) (A : Ar) (x : Col) (c : Nat → Option Cnt) (f alw som : Nat → Bool) : List (Nat × SO XD) := [(n, arD A), (n + 1, .ints 25 .u64 4 cap hsF), (n + 2, coD n x), (n + 3, csD n len c), (n + 4, boD len f), (n + 5, boD len alw), (n + 6, boD len som)]
def sD (n cap len : Nat) (r : Nat) : List (Nat × SV) := [(5, .c (.ptr n 0)), (7, .c (.sli (n + 1) 1 true 0 true 4 cap)), (8, .c (.ptr (n + 2) 0)), (9, .c (.sli (n + 3) 1 true 0 false len len)), (10, .c (.sli (n + 4) 1 true 0 false len len)), (11, .c (.sli (n + 5) 1 true 0 false len len)), (12, .c (.sli (n + 6) 1 true 0 false len len)), (13, .c (.int false .i64 (r : Int)))]
def iC1 {W : World} {a : Option Addr} {len plen : Nat} (n : Nat) (y : C1 W a len plen) : List (Nat × SV) × List (Nat × SO XD) := ((52, .c (.int false .i64 (y.k : Int))) :: sD n y.cap len y.r0, hD n y.cap len y.A y.x y.c y.f y.alw y.som)
def iC2 {W : World} {a : Option Addr} {len plen : Nat} (y : C1 W a len plen) (A : Ar) (r : Nat) (n : Nat) (z : C2 y) : List (Nat × SV) × List (Nat × SO XD) :=
  ((85, .c (.int false .i64 (z.j : Int))) :: sD n y.cap len r, hD n y.cap len A col0 y.c y.f z.alw z.som)
def iC0 (len n : Nat) (z : C0) : List (Nat × SV) × List (Nat × SO XD) := ([(5, .c (.ptr n 0)), (7, .c (.sli (n + 1) 1 true 0 true 4 z.cap)), (8, .c (.ptr (n + 2) 0)), (9, .c (.sli (n + 3) 1 true 0 false len len))], [(n, arD z.A), (n + 1, .ints 25 .u64 4 z.cap hsF), (n + 2, coD n col0), (n + 3, .vals 41 1 len len fun _ => [.pointer none])])
def scrC (W : World) (a : Option Addr) (len plen : Nat) : Scr XD := .both .nil (.both .nil (.cut 7 (liveL [0, 1, 5, 7, 8, 9]) allN C0 (iC0 len) .nil fun _ => .ghost 9 (nilsG 9 [5]) (.inv (liveL [0, 5, 7, 8, 9, 10, 11, 12, 13, 50, 51, 52]) allN (C1 W a len plen) iC1 (fun y => plen - y.k) fun y => .both
  (.both
    (.both
      (.f (.inv (liveL [0, 5, 7, 8, 9, 10, 11, 12, 13, 50, 51, 52, 83, 84, 85]) allN (C2 y) (iC2 y y.A y.A.t.reads) (fun z => len - z.j) fun _ => .both (.ghost 22 (focusG 9 17) (.ghost 23 (foldG 9) .nil)) .nil))
      .nil)
    (.ghost 26 (focusG 9 16) (.ghost 33 (foldG 9) .nil)))
  .nil)))
/-- What the executor leaves to be shown of roundelay/roundelaylaw13.CollectFinds, written out. -/
theorem collectFinds_vc (W : World) (a : Option Addr) (len cap : Nat) (pa : Option Addr) (plen pcap : Nat) : (callN Try.prog (tblCO : List (Smry Try.prog XD)) (fun _ _ => false) 100 20 3 [.c (.sliv a false len cap), .c (.sliv pa false plen pcap)] ⟨[(0, .seen W)], 1⟩ (scrC W a len plen) (fun v m _ => retSeen W v m)) = (
    (decide ((↑len : Int) > (12 : Int)) = true → true = true ∧ some W = some W) ∧ (decide ((↑len : Int) > (12 : Int)) = false → (decide ((↑plen : Int) > (400 : Int)) = true → true =
    true ∧ some W = some W) ∧ (decide ((↑plen : Int) > (400 : Int)) = false → ∀ (A : Ar) (cap_1 : Nat) (z : Nat → Int) (ad : Option Addr) (ln cp : Nat), SegOk (4 : Nat) A → (4 : Nat) ≤
    cap_1 → True ∧ ((↑len : Int) = (↑len : Int) ∧ (0 : Int) ≤ (↑len : Int) ∧ (8 : Int) * (↑len : Int) ≤ (281474976710656 : Int) ∧ (↑len : Int) ≤ (1000000000 : Int) ∧ ∃ (y : C0), a = a ∧
    len = len ∧ cap = cap ∧ pa = pa ∧ plen = plen ∧ pcap = pcap ∧ W = W ∧ (0 : Nat) = (0 : Nat) ∧ y.cap = cap_1 ∧ (0 : Nat) = (0 : Nat) ∧ len = (↑len : Int).toNat ∧ len = (↑len :
    Int).toNat ∧ y.A = A ∧ ((4 : Nat) = (4 : Nat) ∧ y.cap = cap_1 ∧ ∀ (i : Nat), i < (4 : Nat) → hsF i = hsF i) ∧ col0 = col0 ∧ (len = (↑len : Int).toNat ∧ len = (↑len : Int).toNat ∧ ∀
    (i : Nat), i < len → [Value.pointer none] = [Value.pointer none]) ∧ True) ∧ ∀ (y : C0) (ρ : Nat → Value), ((↑len : Int) = (↑len : Int) ∧ (0 : Int) ≤ (↑len : Int) ∧ (1 : Int) * (↑len
    : Int) ≤ (281474976710656 : Int) ∧ (↑len : Int) ≤ (1000000000 : Int) ∧ ((↑len : Int) = (↑len : Int) ∧ (0 : Int) ≤ (↑len : Int) ∧ (1 : Int) * (↑len : Int) ≤ (281474976710656 : Int) ∧
    (↑len : Int) ≤ (1000000000 : Int) ∧ ((↑len : Int) = (↑len : Int) ∧ (0 : Int) ≤ (↑len : Int) ∧ (1 : Int) * (↑len : Int) ≤ (281474976710656 : Int) ∧ (↑len : Int) ≤ (1000000000 : Int)
    ∧ (∀ (j : Nat), j < len → [Value.pointer none] = [Value.pointer none]) ∧ (∃ (y_1 : C1 W a len plen), a = a ∧ len = len ∧ cap = cap ∧ pa = pa ∧ plen = plen ∧ pcap = pcap ∧ (↑plen :
    Int) = (↑plen : Int) ∧ W = W ∧ (↑y_1.k : Int) = (0 : Int) ∧ (0 : Nat) = (0 : Nat) ∧ y_1.cap = y.cap ∧ (0 : Nat) = (0 : Nat) ∧ len = len ∧ len = len ∧ (0 : Nat) = (0 : Nat) ∧ len =
    (↑len : Int).toNat ∧ len = (↑len : Int).toNat ∧ (0 : Nat) = (0 : Nat) ∧ len = (↑len : Int).toNat ∧ len = (↑len : Int).toNat ∧ (0 : Nat) = (0 : Nat) ∧ len = (↑len : Int).toNat ∧ len
    = (↑len : Int).toNat ∧ (↑y_1.r0 : Int) = tlyZ y.A.t (2 : Nat) ∧ y_1.A = y.A ∧ ((4 : Nat) = (4 : Nat) ∧ y_1.cap = y.cap ∧ ∀ (i : Nat), i < (4 : Nat) → hsF i = hsF i) ∧ y_1.x = col0 ∧
    (len = len ∧ len = len ∧ y_1.c = fun (x : Nat) => none) ∧ (len = (↑len : Int).toNat ∧ len = (↑len : Int).toNat ∧ ∀ (i : Nat), i < len → [Value.bool (y_1.f i)] = [Value.bool false])
    ∧ (len = (↑len : Int).toNat ∧ len = (↑len : Int).toNat ∧ ∀ (i : Nat), i < len → [Value.bool (y_1.alw i)] = [Value.bool false]) ∧ (len = (↑len : Int).toNat ∧ len = (↑len : Int).toNat
    ∧ ∀ (i : Nat), i < len → [Value.bool (y_1.som i)] = [Value.bool false]) ∧ True) ∧ ∀ (y : C1 W a len plen) (ρ : Nat → Value), (decide ((↑y.k : Int) < (↑plen : Int)) = true → ((0 :
    Int) ≤ (↑y.k : Int) ∧ (↑y.k : Int) < (↑plen : Int) ∧ pa.isSome = true) ∧ (∃ (x : Addr), addOpt pa (↑y.k : Int).toNat = some x ∧ W.cell? x = some (Value.int IntKind.u8 (seenInt
    IntKind.u8 W (addOpt pa (↑y.k : Int).toNat)))) ∧ ((-9223372036854775808 : Int) ≤ (1 : Int) + (↑len : Int) ∧ (1 : Int) + (↑len : Int) ≤ (9223372036854775807 : Int)) ∧ ((0 : Int) ≤
    seenInt IntKind.u8 W (addOpt pa (↑y.k : Int).toNat) ∧ (0 : Int) < (1 : Int) + (↑len : Int)) ∧ ((seenInt IntKind.u8 W (addOpt pa (↑y.k : Int).toNat) % ((1 : Int) + (↑len : Int)) ==
    (0 : Int)) = true → y.x.ph.le (2 : Nat) ∧ (colDone y.x = true → ((-9223372036854775808 : Int) ≤ tlyZ y.A.t (2 : Nat) - (↑y.r0 : Int) ∧ tlyZ y.A.t (2 : Nat) - (↑y.r0 : Int) ≤
    (9223372036854775807 : Int)) ∧ (∃ (alw : Nat → Bool), ∃ (som : Nat → Bool), ∃ (reads : Nat), ((y.cap = y.cap ∧ ∀ (i : Nat), i < (4 : Nat) → hsF i = hsF i) ∧ (len = len ∧ len = len ∧
    len = len ∧ len = len) ∧ len = len ∧ len = len ∧ len = len ∧ len = len) ∧ (∀ (j : Nat), j < len → [Value.bool (y.alw j)] = [Value.bool (alw j)]) ∧ (∀ (j : Nat), j < len →
    [Value.bool (y.som j)] = [Value.bool (som j)]) ∧ tlyZ y.A.t (2 : Nat) - (↑y.r0 : Int) = (↑reads : Int) ∧ FoundOk W a len y.x alw som reads) ∧ false = false ∧ True ∧ (∃ (y_1 : C2 y),
    a = a ∧ len = len ∧ cap = cap ∧ pa = pa ∧ plen = plen ∧ pcap = pcap ∧ (↑plen : Int) = (↑plen : Int) ∧ (↑y.k : Int) = (↑y.k : Int) ∧ a = a ∧ len = len ∧ cap = cap ∧ (↑len : Int) =
    (↑len : Int) ∧ W = W ∧ (↑y_1.j : Int) = (0 : Int) ∧ (0 : Nat) = (0 : Nat) ∧ y.cap = y.cap ∧ (0 : Nat) = (0 : Nat) ∧ len = len ∧ len = len ∧ (0 : Nat) = (0 : Nat) ∧ len = len ∧ len =
    len ∧ (0 : Nat) = (0 : Nat) ∧ len = len ∧ len = len ∧ (0 : Nat) = (0 : Nat) ∧ len = len ∧ len = len ∧ (↑y.A.t.reads : Int) = tlyZ y.A.t (2 : Nat) ∧ y.A = y.A ∧ ((4 : Nat) = (4 :
    Nat) ∧ y.cap = y.cap ∧ ∀ (i : Nat), i < (4 : Nat) → hsF i = hsF i) ∧ col0 = col0 ∧ (len = len ∧ len = len ∧ y.c = y.c) ∧ (len = len ∧ len = len ∧ ∀ (i : Nat), i < len → [Value.bool
    (y.f i)] = [Value.bool (y.f i)]) ∧ (len = len ∧ len = len ∧ ∀ (i : Nat), i < len → [Value.bool (y_1.alw i)] = [Value.bool (y.alw i)]) ∧ (len = len ∧ len = len ∧ ∀ (i : Nat), i < len
    → [Value.bool (y_1.som i)] = [Value.bool (y.som i)]) ∧ True) ∧ ∀ (y_1 : C2 y) (ρ : Nat → Value), (decide ((↑y_1.j : Int) < (↑len : Int)) = true → ((0 : Int) ≤ (↑y_1.j : Int) ∧
    (↑y_1.j : Int) < (↑len : Int)) ∧ ∀ (g : Nat → List Value), (y.c (↑y_1.j : Int).toNat = none → ((0 : Int) ≤ (↑y_1.j : Int) ∧ (↑y_1.j : Int) < (↑len : Int)) ∧ addO true (0 : Nat)
    (↑y_1.j : Int).toNat < len ∧ ((0 : Int) ≤ (↑y_1.j : Int) ∧ (↑y_1.j : Int) < (↑len : Int)) ∧ addO true (0 : Nat) (↑y_1.j : Int).toNat < len ∧ (y.7 (addO true (0 : Nat) (↑y_1.j :
    Int).toNat) = true → ((0 : Int) ≤ (↑y_1.j : Int) ∧ (↑y_1.j : Int) < (↑len : Int)) ∧ addO true (0 : Nat) (↑y_1.j : Int).toNat = (↑y_1.j : Int).toNat ∧ (len = len ∧ len = len ∧ g = g
    ∧ (↑y_1.j : Int).toNat = (↑y_1.j : Int).toNat ∧ Value.pointer none = Value.pointer none ∧ len = len ∧ len = len ∧ ((fun (j : Nat) => [Value.bool (y.f j)]) = fun (j : Nat) =>
    [Value.bool (y.f j)]) ∧ W = W ∧ (y.7 (addO true (0 : Nat) (↑y_1.j : Int).toNat) = true → ((0 : Int) ≤ (↑y_1.j : Int) ∧ (↑y_1.j : Int) < (↑len : Int)) ∧ (addO true (0 : Nat) (↑y_1.j
    : Int).toNat < len ∧ (∀ (j : Nat), j < len → True) ∧ ((0 : Int) ≤ (↑y_1.j : Int) ∧ (↑y_1.j : Int) < (↑len : Int)) ∧ (addO true (0 : Nat) (↑y_1.j : Int).toNat < len ∧ (∀ (j : Nat), j
    < len → True) ∧ (len = len ∧ (↑y_1.j : Int).toNat = (↑y_1.j : Int).toNat ∧ g = g) ∧ ((-9223372036854775808 : Int) ≤ (↑y_1.j : Int) + (1 : Int) ∧ (↑y_1.j : Int) + (1 : Int) ≤
    (9223372036854775807 : Int)) ∧ ∃ (y' : C2 y), len - y'.j < len - y_1.j ∧ a = a ∧ len = len ∧ cap = cap ∧ pa = pa ∧ plen = plen ∧ pcap = pcap ∧ (↑plen : Int) = (↑plen : Int) ∧ (↑y.k
    : Int) = (↑y.k : Int) ∧ a = a ∧ len = len ∧ cap = cap ∧ (↑len : Int) = (↑len : Int) ∧ W = W ∧ (↑y'.j : Int) = (↑y_1.j : Int) + (1 : Int) ∧ (0 : Nat) = (0 : Nat) ∧ y.cap = y.cap ∧ (0
    : Nat) = (0 : Nat) ∧ len = len ∧ len = len ∧ (0 : Nat) = (0 : Nat) ∧ len = len ∧ len = len ∧ (0 : Nat) = (0 : Nat) ∧ len = len ∧ len = len ∧ (0 : Nat) = (0 : Nat) ∧ len = len ∧ len
    = len ∧ (↑y.A.t.reads : Int) = (↑y.A.t.reads : Int) ∧ y.A = y.A ∧ ((4 : Nat) = (4 : Nat) ∧ y.cap = y.cap ∧ ∀ (i : Nat), i < (4 : Nat) → hsF i = hsF i) ∧ col0 = col0 ∧ (len = len ∧
    len = len ∧ y.c = fun (j : Nat) => if j = (↑y_1.j : Int).toNat then none else y.c j) ∧ (len = len ∧ len = len ∧ ∀ (i : Nat), i < len → [Value.bool (y.f i)] = [Value.bool (y.f i)]) ∧
    (len = len ∧ len = len ∧ ∀ (i : Nat), i < len → [Value.bool (y'.alw i)] = [Value.bool (if i = addO true (0 : Nat) (↑y_1.j : Int).toNat then true else booOfV ([Value.bool (y_1.alw
    i)].getD (0 : Nat) undef))]) ∧ (len = len ∧ len = len ∧ ∀ (i : Nat), i < len → [Value.bool (y'.som i)] = [Value.bool (if i = addO true (0 : Nat) (↑y_1.j : Int).toNat then true else
    booOfV ([Value.bool (y_1.som i)].getD (0 : Nat) undef))]) ∧ True) ∧ True) ∧ True) ∧ (y.7 (addO true (0 : Nat) (↑y_1.j : Int).toNat) = false → ((0 : Int) ≤ (↑y_1.j : Int) ∧ (↑y_1.j :
    Int) < (↑len : Int)) ∧ addO true (0 : Nat) (↑y_1.j : Int).toNat = (↑y_1.j : Int).toNat ∧ (((0 : Int) ≤ (↑y_1.j : Int) ∧ (↑y_1.j : Int) < (↑len : Int)) ∧ (addO true (0 : Nat) (↑y_1.j
    : Int).toNat < len ∧ (∀ (j : Nat), j < len → True) ∧ ((0 : Int) ≤ (↑y_1.j : Int) ∧ (↑y_1.j : Int) < (↑len : Int)) ∧ (addO true (0 : Nat) (↑y_1.j : Int).toNat < len ∧ (∀ (j : Nat), j
    < len → True) ∧ (len = len ∧ (↑y_1.j : Int).toNat = (↑y_1.j : Int).toNat ∧ g = g) ∧ ((-9223372036854775808 : Int) ≤ (↑y_1.j : Int) + (1 : Int) ∧ (↑y_1.j : Int) + (1 : Int) ≤
    (9223372036854775807 : Int)) ∧ ∃ (y' : C2 y), len - y'.j < len - y_1.j ∧ a = a ∧ len = len ∧ cap = cap ∧ pa = pa ∧ plen = plen ∧ pcap = pcap ∧ (↑plen : Int) = (↑plen : Int) ∧ (↑y.k
    : Int) = (↑y.k : Int) ∧ a = a ∧ len = len ∧ cap = cap ∧ (↑len : Int) = (↑len : Int) ∧ W = W ∧ (↑y'.j : Int) = (↑y_1.j : Int) + (1 : Int) ∧ (0 : Nat) = (0 : Nat) ∧ y.cap = y.cap ∧ (0
    : Nat) = (0 : Nat) ∧ len = len ∧ len = len ∧ (0 : Nat) = (0 : Nat) ∧ len = len ∧ len = len ∧ (0 : Nat) = (0 : Nat) ∧ len = len ∧ len = len ∧ (0 : Nat) = (0 : Nat) ∧ len = len ∧ len
    = len ∧ (↑y.A.t.reads : Int) = (↑y.A.t.reads : Int) ∧ y.A = y.A ∧ ((4 : Nat) = (4 : Nat) ∧ y.cap = y.cap ∧ ∀ (i : Nat), i < (4 : Nat) → hsF i = hsF i) ∧ col0 = col0 ∧ (len = len ∧
    len = len ∧ y.c = fun (j : Nat) => if j = (↑y_1.j : Int).toNat then none else y.c j) ∧ (len = len ∧ len = len ∧ ∀ (i : Nat), i < len → [Value.bool (y.f i)] = [Value.bool (y.f i)]) ∧
    (len = len ∧ len = len ∧ ∀ (i : Nat), i < len → [Value.bool (y'.alw i)] = [Value.bool (if i = addO true (0 : Nat) (↑y_1.j : Int).toNat then true else booOfV ([Value.bool (y_1.alw
    i)].getD (0 : Nat) undef))]) ∧ (len = len ∧ len = len ∧ ∀ (i : Nat), i < len → [Value.bool (y'.som i)] = [Value.bool (if i = addO true (0 : Nat) (↑y_1.j : Int).toNat then !true else
    booOfV ([Value.bool (y_1.som i)].getD (0 : Nat) undef))]) ∧ True) ∧ True) ∧ True) ∧ True)) ∧ True) ∧ (y.7 (addO true (0 : Nat) (↑y_1.j : Int).toNat) = false → (y.7 (addO true (0 :
    Nat) (↑y_1.j : Int).toNat) = true → ((0 : Int) ≤ (↑y_1.j : Int) ∧ (↑y_1.j : Int) < (↑len : Int)) ∧ (addO true (0 : Nat) (↑y_1.j : Int).toNat < len ∧ (∀ (j : Nat), j < len → True) ∧
    ((0 : Int) ≤ (↑y_1.j : Int) ∧ (↑y_1.j : Int) < (↑len : Int)) ∧ (addO true (0 : Nat) (↑y_1.j : Int).toNat < len ∧ (∀ (j : Nat), j < len → True) ∧ (len = len ∧ (↑y_1.j : Int).toNat =
    (↑y_1.j : Int).toNat ∧ g = g) ∧ ((-9223372036854775808 : Int) ≤ (↑y_1.j : Int) + (1 : Int) ∧ (↑y_1.j : Int) + (1 : Int) ≤ (9223372036854775807 : Int)) ∧ ∃ (y' : C2 y), len - y'.j <
    len - y_1.j ∧ a = a ∧ len = len ∧ cap = cap ∧ pa = pa ∧ plen = plen ∧ pcap = pcap ∧ (↑plen : Int) = (↑plen : Int) ∧ (↑y.k : Int) = (↑y.k : Int) ∧ a = a ∧ len = len ∧ cap = cap ∧
    (↑len : Int) = (↑len : Int) ∧ W = W ∧ (↑y'.j : Int) = (↑y_1.j : Int) + (1 : Int) ∧ (0 : Nat) = (0 : Nat) ∧ y.cap = y.cap ∧ (0 : Nat) = (0 : Nat) ∧ len = len ∧ len = len ∧ (0 : Nat)
    = (0 : Nat) ∧ len = len ∧ len = len ∧ (0 : Nat) = (0 : Nat) ∧ len = len ∧ len = len ∧ (0 : Nat) = (0 : Nat) ∧ len = len ∧ len = len ∧ (↑y.A.t.reads : Int) = (↑y.A.t.reads : Int) ∧
    y.A = y.A ∧ ((4 : Nat) = (4 : Nat) ∧ y.cap = y.cap ∧ ∀ (i : Nat), i < (4 : Nat) → hsF i = hsF i) ∧ col0 = col0 ∧ (len = len ∧ len = len ∧ y.c = fun (j : Nat) => if j = (↑y_1.j :
    Int).toNat then none else y.c j) ∧ (len = len ∧ len = len ∧ ∀ (i : Nat), i < len → [Value.bool (y.f i)] = [Value.bool (y.f i)]) ∧ (len = len ∧ len = len ∧ ∀ (i : Nat), i < len →
    [Value.bool (y'.alw i)] = [Value.bool (if i = addO true (0 : Nat) (↑y_1.j : Int).toNat then false else booOfV ([Value.bool (y_1.alw i)].getD (0 : Nat) undef))]) ∧ (len = len ∧ len =
    len ∧ ∀ (i : Nat), i < len → [Value.bool (y'.som i)] = [Value.bool (if i = addO true (0 : Nat) (↑y_1.j : Int).toNat then true else booOfV ([Value.bool (y_1.som i)].getD (0 : Nat)
    undef))]) ∧ True) ∧ True) ∧ True) ∧ (y.7 (addO true (0 : Nat) (↑y_1.j : Int).toNat) = false → ((0 : Int) ≤ (↑y_1.j : Int) ∧ (↑y_1.j : Int) < (↑len : Int)) ∧ addO true (0 : Nat)
    (↑y_1.j : Int).toNat = (↑y_1.j : Int).toNat ∧ (((0 : Int) ≤ (↑y_1.j : Int) ∧ (↑y_1.j : Int) < (↑len : Int)) ∧ (addO true (0 : Nat) (↑y_1.j : Int).toNat < len ∧ (∀ (j : Nat), j < len
    → True) ∧ ((0 : Int) ≤ (↑y_1.j : Int) ∧ (↑y_1.j : Int) < (↑len : Int)) ∧ (addO true (0 : Nat) (↑y_1.j : Int).toNat < len ∧ (∀ (j : Nat), j < len → True) ∧ (len = len ∧ (↑y_1.j :
    Int).toNat = (↑y_1.j : Int).toNat ∧ g = g) ∧ ((-9223372036854775808 : Int) ≤ (↑y_1.j : Int) + (1 : Int) ∧ (↑y_1.j : Int) + (1 : Int) ≤ (9223372036854775807 : Int)) ∧ ∃ (y' : C2 y),
    len - y'.j < len - y_1.j ∧ a = a ∧ len = len ∧ cap = cap ∧ pa = pa ∧ plen = plen ∧ pcap = pcap ∧ (↑plen : Int) = (↑plen : Int) ∧ (↑y.k : Int) = (↑y.k : Int) ∧ a = a ∧ len = len ∧
    cap = cap ∧ (↑len : Int) = (↑len : Int) ∧ W = W ∧ (↑y'.j : Int) = (↑y_1.j : Int) + (1 : Int) ∧ (0 : Nat) = (0 : Nat) ∧ y.cap = y.cap ∧ (0 : Nat) = (0 : Nat) ∧ len = len ∧ len = len
    ∧ (0 : Nat) = (0 : Nat) ∧ len = len ∧ len = len ∧ (0 : Nat) = (0 : Nat) ∧ len = len ∧ len = len ∧ (0 : Nat) = (0 : Nat) ∧ len = len ∧ len = len ∧ (↑y.A.t.reads : Int) =
    (↑y.A.t.reads : Int) ∧ y.A = y.A ∧ ((4 : Nat) = (4 : Nat) ∧ y.cap = y.cap ∧ ∀ (i : Nat), i < (4 : Nat) → hsF i = hsF i) ∧ col0 = col0 ∧ (len = len ∧ len = len ∧ y.c = fun (j : Nat)
    => if j = (↑y_1.j : Int).toNat then none else y.c j) ∧ (len = len ∧ len = len ∧ ∀ (i : Nat), i < len → [Value.bool (y.f i)] = [Value.bool (y.f i)]) ∧ (len = len ∧ len = len ∧ ∀ (i :
    Nat), i < len → [Value.bool (y'.alw i)] = [Value.bool (if i = addO true (0 : Nat) (↑y_1.j : Int).toNat then false else booOfV ([Value.bool (y_1.alw i)].getD (0 : Nat) undef))]) ∧
    (len = len ∧ len = len ∧ ∀ (i : Nat), i < len → [Value.bool (y'.som i)] = [Value.bool (if i = addO true (0 : Nat) (↑y_1.j : Int).toNat then !true else booOfV ([Value.bool (y_1.som
    i)].getD (0 : Nat) undef))]) ∧ True) ∧ True) ∧ True) ∧ True))) ∧ ∀ (y_2 : (cntHg (xInHid colH)).X), y.c (↑y_1.j : Int).toNat = some y_2 → ((0 : Int) ≤ (↑y_1.j : Int) ∧ (↑y_1.j :
    Int) < (↑len : Int)) ∧ addO true (0 : Nat) (↑y_1.j : Int).toNat < len ∧ ((0 : Int) ≤ (↑y_1.j : Int) ∧ (↑y_1.j : Int) < (↑len : Int)) ∧ addO true (0 : Nat) (↑y_1.j : Int).toNat < len
    ∧ (y.7 (addO true (0 : Nat) (↑y_1.j : Int).toNat) = true → ((0 : Int) ≤ (↑y_1.j : Int) ∧ (↑y_1.j : Int) < (↑len : Int)) ∧ addO true (0 : Nat) (↑y_1.j : Int).toNat = (↑y_1.j :
    Int).toNat ∧ (len = len ∧ len = len ∧ g = g ∧ (↑y_1.j : Int).toNat = (↑y_1.j : Int).toNat ∧ len = len ∧ len = len ∧ ((fun (j : Nat) => [Value.bool (y.f j)]) = fun (j : Nat) =>
    [Value.bool (y.f j)]) ∧ W = W ∧ (y.7 (addO true (0 : Nat) (↑y_1.j : Int).toNat) = true → ((0 : Int) ≤ (↑y_1.j : Int) ∧ (↑y_1.j : Int) < (↑len : Int)) ∧ (addO true (0 : Nat) (↑y_1.j
    : Int).toNat < len ∧ (∀ (j : Nat), j < len → True) ∧ ((0 : Int) ≤ (↑y_1.j : Int) ∧ (↑y_1.j : Int) < (↑len : Int)) ∧ (addO true (0 : Nat) (↑y_1.j : Int).toNat < len ∧ (∀ (j : Nat), j
    < len → True) ∧ (len = len ∧ (↑y_1.j : Int).toNat = (↑y_1.j : Int).toNat ∧ g = g) ∧ ((-9223372036854775808 : Int) ≤ (↑y_1.j : Int) + (1 : Int) ∧ (↑y_1.j : Int) + (1 : Int) ≤
    (9223372036854775807 : Int)) ∧ ∃ (y' : C2 y), len - y'.j < len - y_1.j ∧ a = a ∧ len = len ∧ cap = cap ∧ pa = pa ∧ plen = plen ∧ pcap = pcap ∧ (↑plen : Int) = (↑plen : Int) ∧ (↑y.k
    : Int) = (↑y.k : Int) ∧ a = a ∧ len = len ∧ cap = cap ∧ (↑len : Int) = (↑len : Int) ∧ W = W ∧ (↑y'.j : Int) = (↑y_1.j : Int) + (1 : Int) ∧ (0 : Nat) = (0 : Nat) ∧ y.cap = y.cap ∧ (0
    : Nat) = (0 : Nat) ∧ len = len ∧ len = len ∧ (0 : Nat) = (0 : Nat) ∧ len = len ∧ len = len ∧ (0 : Nat) = (0 : Nat) ∧ len = len ∧ len = len ∧ (0 : Nat) = (0 : Nat) ∧ len = len ∧ len
    = len ∧ (↑y.A.t.reads : Int) = (↑y.A.t.reads : Int) ∧ y.A = y.A ∧ ((4 : Nat) = (4 : Nat) ∧ y.cap = y.cap ∧ ∀ (i : Nat), i < (4 : Nat) → hsF i = hsF i) ∧ col0 = col0 ∧ (len = len ∧
    len = len ∧ y.c = fun (j : Nat) => if j = (↑y_1.j : Int).toNat then some y_2 else y.c j) ∧ (len = len ∧ len = len ∧ ∀ (i : Nat), i < len → [Value.bool (y.f i)] = [Value.bool (y.f
    i)]) ∧ (len = len ∧ len = len ∧ ∀ (i : Nat), i < len → [Value.bool (y'.alw i)] = [Value.bool (if i = addO true (0 : Nat) (↑y_1.j : Int).toNat then isDone y_2 else booOfV
    ([Value.bool (y_1.alw i)].getD (0 : Nat) undef))]) ∧ (len = len ∧ len = len ∧ ∀ (i : Nat), i < len → [Value.bool (y'.som i)] = [Value.bool (if i = addO true (0 : Nat) (↑y_1.j :
    Int).toNat then true else booOfV ([Value.bool (y_1.som i)].getD (0 : Nat) undef))]) ∧ True) ∧ True) ∧ True) ∧ (y.7 (addO true (0 : Nat) (↑y_1.j : Int).toNat) = false → ((0 : Int) ≤
    (↑y_1.j : Int) ∧ (↑y_1.j : Int) < (↑len : Int)) ∧ addO true (0 : Nat) (↑y_1.j : Int).toNat = (↑y_1.j : Int).toNat ∧ (((0 : Int) ≤ (↑y_1.j : Int) ∧ (↑y_1.j : Int) < (↑len : Int)) ∧
    (addO true (0 : Nat) (↑y_1.j : Int).toNat < len ∧ (∀ (j : Nat), j < len → True) ∧ ((0 : Int) ≤ (↑y_1.j : Int) ∧ (↑y_1.j : Int) < (↑len : Int)) ∧ (addO true (0 : Nat) (↑y_1.j :
    Int).toNat < len ∧ (∀ (j : Nat), j < len → True) ∧ (len = len ∧ (↑y_1.j : Int).toNat = (↑y_1.j : Int).toNat ∧ g = g) ∧ ((-9223372036854775808 : Int) ≤ (↑y_1.j : Int) + (1 : Int) ∧
    (↑y_1.j : Int) + (1 : Int) ≤ (9223372036854775807 : Int)) ∧ ∃ (y' : C2 y), len - y'.j < len - y_1.j ∧ a = a ∧ len = len ∧ cap = cap ∧ pa = pa ∧ plen = plen ∧ pcap = pcap ∧ (↑plen :
    Int) = (↑plen : Int) ∧ (↑y.k : Int) = (↑y.k : Int) ∧ a = a ∧ len = len ∧ cap = cap ∧ (↑len : Int) = (↑len : Int) ∧ W = W ∧ (↑y'.j : Int) = (↑y_1.j : Int) + (1 : Int) ∧ (0 : Nat) =
    (0 : Nat) ∧ y.cap = y.cap ∧ (0 : Nat) = (0 : Nat) ∧ len = len ∧ len = len ∧ (0 : Nat) = (0 : Nat) ∧ len = len ∧ len = len ∧ (0 : Nat) = (0 : Nat) ∧ len = len ∧ len = len ∧ (0 : Nat)
    = (0 : Nat) ∧ len = len ∧ len = len ∧ (↑y.A.t.reads : Int) = (↑y.A.t.reads : Int) ∧ y.A = y.A ∧ ((4 : Nat) = (4 : Nat) ∧ y.cap = y.cap ∧ ∀ (i : Nat), i < (4 : Nat) → hsF i = hsF i)
    ∧ col0 = col0 ∧ (len = len ∧ len = len ∧ y.c = fun (j : Nat) => if j = (↑y_1.j : Int).toNat then some y_2 else y.c j) ∧ (len = len ∧ len = len ∧ ∀ (i : Nat), i < len → [Value.bool
    (y.f i)] = [Value.bool (y.f i)]) ∧ (len = len ∧ len = len ∧ ∀ (i : Nat), i < len → [Value.bool (y'.alw i)] = [Value.bool (if i = addO true (0 : Nat) (↑y_1.j : Int).toNat then isDone
    y_2 else booOfV ([Value.bool (y_1.alw i)].getD (0 : Nat) undef))]) ∧ (len = len ∧ len = len ∧ ∀ (i : Nat), i < len → [Value.bool (y'.som i)] = [Value.bool (if i = addO true (0 :
    Nat) (↑y_1.j : Int).toNat then !isDone y_2 else booOfV ([Value.bool (y_1.som i)].getD (0 : Nat) undef))]) ∧ True) ∧ True) ∧ True) ∧ True)) ∧ True) ∧ (y.7 (addO true (0 : Nat)
    (↑y_1.j : Int).toNat) = false → (y.7 (addO true (0 : Nat) (↑y_1.j : Int).toNat) = true → ((0 : Int) ≤ (↑y_1.j : Int) ∧ (↑y_1.j : Int) < (↑len : Int)) ∧ (addO true (0 : Nat) (↑y_1.j
    : Int).toNat < len ∧ (∀ (j : Nat), j < len → True) ∧ ((0 : Int) ≤ (↑y_1.j : Int) ∧ (↑y_1.j : Int) < (↑len : Int)) ∧ (addO true (0 : Nat) (↑y_1.j : Int).toNat < len ∧ (∀ (j : Nat), j
    < len → True) ∧ (len = len ∧ (↑y_1.j : Int).toNat = (↑y_1.j : Int).toNat ∧ g = g) ∧ ((-9223372036854775808 : Int) ≤ (↑y_1.j : Int) + (1 : Int) ∧ (↑y_1.j : Int) + (1 : Int) ≤
    (9223372036854775807 : Int)) ∧ ∃ (y' : C2 y), len - y'.j < len - y_1.j ∧ a = a ∧ len = len ∧ cap = cap ∧ pa = pa ∧ plen = plen ∧ pcap = pcap ∧ (↑plen : Int) = (↑plen : Int) ∧ (↑y.k
    : Int) = (↑y.k : Int) ∧ a = a ∧ len = len ∧ cap = cap ∧ (↑len : Int) = (↑len : Int) ∧ W = W ∧ (↑y'.j : Int) = (↑y_1.j : Int) + (1 : Int) ∧ (0 : Nat) = (0 : Nat) ∧ y.cap = y.cap ∧ (0
    : Nat) = (0 : Nat) ∧ len = len ∧ len = len ∧ (0 : Nat) = (0 : Nat) ∧ len = len ∧ len = len ∧ (0 : Nat) = (0 : Nat) ∧ len = len ∧ len = len ∧ (0 : Nat) = (0 : Nat) ∧ len = len ∧ len
    = len ∧ (↑y.A.t.reads : Int) = (↑y.A.t.reads : Int) ∧ y.A = y.A ∧ ((4 : Nat) = (4 : Nat) ∧ y.cap = y.cap ∧ ∀ (i : Nat), i < (4 : Nat) → hsF i = hsF i) ∧ col0 = col0 ∧ (len = len ∧
    len = len ∧ y.c = fun (j : Nat) => if j = (↑y_1.j : Int).toNat then some y_2 else y.c j) ∧ (len = len ∧ len = len ∧ ∀ (i : Nat), i < len → [Value.bool (y.f i)] = [Value.bool (y.f
    i)]) ∧ (len = len ∧ len = len ∧ ∀ (i : Nat), i < len → [Value.bool (y'.alw i)] = [Value.bool (if i = addO true (0 : Nat) (↑y_1.j : Int).toNat then false else booOfV ([Value.bool
    (y_1.alw i)].getD (0 : Nat) undef))]) ∧ (len = len ∧ len = len ∧ ∀ (i : Nat), i < len → [Value.bool (y'.som i)] = [Value.bool (if i = addO true (0 : Nat) (↑y_1.j : Int).toNat then
    true else booOfV ([Value.bool (y_1.som i)].getD (0 : Nat) undef))]) ∧ True) ∧ True) ∧ True) ∧ (y.7 (addO true (0 : Nat) (↑y_1.j : Int).toNat) = false → ((0 : Int) ≤ (↑y_1.j : Int) ∧
    (↑y_1.j : Int) < (↑len : Int)) ∧ addO true (0 : Nat) (↑y_1.j : Int).toNat = (↑y_1.j : Int).toNat ∧ (((0 : Int) ≤ (↑y_1.j : Int) ∧ (↑y_1.j : Int) < (↑len : Int)) ∧ (addO true (0 :
    Nat) (↑y_1.j : Int).toNat < len ∧ (∀ (j : Nat), j < len → True) ∧ ((0 : Int) ≤ (↑y_1.j : Int) ∧ (↑y_1.j : Int) < (↑len : Int)) ∧ (addO true (0 : Nat) (↑y_1.j : Int).toNat < len ∧ (∀
    (j : Nat), j < len → True) ∧ (len = len ∧ (↑y_1.j : Int).toNat = (↑y_1.j : Int).toNat ∧ g = g) ∧ ((-9223372036854775808 : Int) ≤ (↑y_1.j : Int) + (1 : Int) ∧ (↑y_1.j : Int) + (1 :
    Int) ≤ (9223372036854775807 : Int)) ∧ ∃ (y' : C2 y), len - y'.j < len - y_1.j ∧ a = a ∧ len = len ∧ cap = cap ∧ pa = pa ∧ plen = plen ∧ pcap = pcap ∧ (↑plen : Int) = (↑plen : Int) ∧
    (↑y.k : Int) = (↑y.k : Int) ∧ a = a ∧ len = len ∧ cap = cap ∧ (↑len : Int) = (↑len : Int) ∧ W = W ∧ (↑y'.j : Int) = (↑y_1.j : Int) + (1 : Int) ∧ (0 : Nat) = (0 : Nat) ∧ y.cap =
    y.cap ∧ (0 : Nat) = (0 : Nat) ∧ len = len ∧ len = len ∧ (0 : Nat) = (0 : Nat) ∧ len = len ∧ len = len ∧ (0 : Nat) = (0 : Nat) ∧ len = len ∧ len = len ∧ (0 : Nat) = (0 : Nat) ∧ len =
    len ∧ len = len ∧ (↑y.A.t.reads : Int) = (↑y.A.t.reads : Int) ∧ y.A = y.A ∧ ((4 : Nat) = (4 : Nat) ∧ y.cap = y.cap ∧ ∀ (i : Nat), i < (4 : Nat) → hsF i = hsF i) ∧ col0 = col0 ∧ (len
    = len ∧ len = len ∧ y.c = fun (j : Nat) => if j = (↑y_1.j : Int).toNat then some y_2 else y.c j) ∧ (len = len ∧ len = len ∧ ∀ (i : Nat), i < len → [Value.bool (y.f i)] = [Value.bool
    (y.f i)]) ∧ (len = len ∧ len = len ∧ ∀ (i : Nat), i < len → [Value.bool (y'.alw i)] = [Value.bool (if i = addO true (0 : Nat) (↑y_1.j : Int).toNat then false else booOfV
    ([Value.bool (y_1.alw i)].getD (0 : Nat) undef))]) ∧ (len = len ∧ len = len ∧ ∀ (i : Nat), i < len → [Value.bool (y'.som i)] = [Value.bool (if i = addO true (0 : Nat) (↑y_1.j :
    Int).toNat then !isDone y_2 else booOfV ([Value.bool (y_1.som i)].getD (0 : Nat) undef))]) ∧ True) ∧ True) ∧ True) ∧ True))) ∧ (decide ((↑y_1.j : Int) < (↑len : Int)) = false → ((0
    : Nat) < (1000000000 : Nat) ∧ ((0 : Nat) = (0 : Nat) ∧ (0 : Nat) < (8 : Nat) ∨ (0 : Nat) = (1 : Nat) ∧ (0 : Nat) < (8 : Nat) ∧ ((1 : Nat) ≤ (0 : Nat) ∧ (0 : Nat) < (2 : Nat)) ∧
    y.A.Has (0 : Int) (5 : Int) ∨ (0 : Nat) = (2 : Nat))) ∧ ((-9223372036854775808 : Int) ≤ (↑y.k : Int) + (1 : Int) ∧ (↑y.k : Int) + (1 : Int) ≤ (9223372036854775807 : Int)) ∧ ∃ (y' :
    C1 W a len plen), plen - y'.k < plen - y.k ∧ a = a ∧ len = len ∧ cap = cap ∧ pa = pa ∧ plen = plen ∧ pcap = pcap ∧ (↑plen : Int) = (↑plen : Int) ∧ W = W ∧ (↑y'.k : Int) = (↑y.k :
    Int) + (1 : Int) ∧ (0 : Nat) = (0 : Nat) ∧ y'.cap = y.cap ∧ (0 : Nat) = (0 : Nat) ∧ len = len ∧ len = len ∧ (0 : Nat) = (0 : Nat) ∧ len = len ∧ len = len ∧ (0 : Nat) = (0 : Nat) ∧
    len = len ∧ len = len ∧ (0 : Nat) = (0 : Nat) ∧ len = len ∧ len = len ∧ (↑y'.r0 : Int) = (↑y.A.t.reads : Int) ∧ y'.A = colRead col0 y.A ∧ ((4 : Nat) = (4 : Nat) ∧ y'.cap = y.cap ∧ ∀
    (i : Nat), i < (4 : Nat) → hsF i = hsF i) ∧ y'.x = colXF col0 (XO.ar y.A) ∧ (len = len ∧ len = len ∧ y'.c = y.c) ∧ (len = len ∧ len = len ∧ ∀ (i : Nat), i < len → [Value.bool (y'.f
    i)] = [Value.bool (y.f i)]) ∧ (len = len ∧ len = len ∧ ∀ (i : Nat), i < len → [Value.bool (y'.alw i)] = [Value.bool (y_1.alw i)]) ∧ (len = len ∧ len = len ∧ ∀ (i : Nat), i < len →
    [Value.bool (y'.som i)] = [Value.bool (y_1.som i)]) ∧ True)) ∧ (colDone y.x = false → (y.x.pl.length < (1000000000 : Nat) ∧ (y.x.ph = (0 : Nat) ∧ y.x.g < (8 : Nat) ∨ y.x.ph = (1 :
    Nat) ∧ y.x.g < (8 : Nat) ∧ ((1 : Nat) ≤ y.x.node ∧ y.x.node < (2 : Nat) * (2 : Nat) ^ y.x.g) ∧ y.A.Has (↑(y.x.4 y.x.g) : Int) (↑((5 : Nat) * (2 : Nat) ^ y.x.g + y.x.node) : Int) ∨
    y.x.ph = (2 : Nat))) ∧ ((-9223372036854775808 : Int) ≤ (↑y.k : Int) + (1 : Int) ∧ (↑y.k : Int) + (1 : Int) ≤ (9223372036854775807 : Int)) ∧ ∃ (y' : C1 W a len plen), plen - y'.k <
    plen - y.k ∧ a = a ∧ len = len ∧ cap = cap ∧ pa = pa ∧ plen = plen ∧ pcap = pcap ∧ (↑plen : Int) = (↑plen : Int) ∧ W = W ∧ (↑y'.k : Int) = (↑y.k : Int) + (1 : Int) ∧ (0 : Nat) = (0
    : Nat) ∧ y'.cap = y.cap ∧ (0 : Nat) = (0 : Nat) ∧ len = len ∧ len = len ∧ (0 : Nat) = (0 : Nat) ∧ len = len ∧ len = len ∧ (0 : Nat) = (0 : Nat) ∧ len = len ∧ len = len ∧ (0 : Nat) =
    (0 : Nat) ∧ len = len ∧ len = len ∧ (↑y'.r0 : Int) = (↑y.r0 : Int) ∧ y'.A = colRead y.x y.A ∧ ((4 : Nat) = (4 : Nat) ∧ y'.cap = y.cap ∧ ∀ (i : Nat), i < (4 : Nat) → hsF i = hsF i) ∧
    y'.x = colXF y.x (XO.ar y.A) ∧ (len = len ∧ len = len ∧ y'.c = y.c) ∧ (len = len ∧ len = len ∧ ∀ (i : Nat), i < len → [Value.bool (y'.f i)] = [Value.bool (y.f i)]) ∧ (len = len ∧
    len = len ∧ ∀ (i : Nat), i < len → [Value.bool (y'.alw i)] = [Value.bool (y.alw i)]) ∧ (len = len ∧ len = len ∧ ∀ (i : Nat), i < len → [Value.bool (y'.som i)] = [Value.bool (y.som
    i)]) ∧ True)) ∧ ((seenInt IntKind.u8 W (addOpt pa (↑y.k : Int).toNat) % ((1 : Int) + (↑len : Int)) == (0 : Int)) = false → ((-9223372036854775808 : Int) ≤ seenInt IntKind.u8 W
    (addOpt pa (↑y.k : Int).toNat) % ((1 : Int) + (↑len : Int)) - (1 : Int) ∧ seenInt IntKind.u8 W (addOpt pa (↑y.k : Int).toNat) % ((1 : Int) + (↑len : Int)) - (1 : Int) ≤
    (9223372036854775807 : Int)) ∧ ((0 : Int) ≤ seenInt IntKind.u8 W (addOpt pa (↑y.k : Int).toNat) % ((1 : Int) + (↑len : Int)) - (1 : Int) ∧ seenInt IntKind.u8 W (addOpt pa (↑y.k :
    Int).toNat) % ((1 : Int) + (↑len : Int)) - (1 : Int) < (↑len : Int)) ∧ ∀ (g : Nat → List Value), (y.c (seenInt IntKind.u8 W (addOpt pa (↑y.k : Int).toNat) % ((1 : Int) + (↑len :
    Int)) - (1 : Int)).toNat = none → ((0 : Int) ≤ seenInt IntKind.u8 W (addOpt pa (↑y.k : Int).toNat) % ((1 : Int) + (↑len : Int)) - (1 : Int) ∧ seenInt IntKind.u8 W (addOpt pa (↑y.k :
    Int).toNat) % ((1 : Int) + (↑len : Int)) - (1 : Int) < (↑len : Int)) ∧ addO true (0 : Nat) (seenInt IntKind.u8 W (addOpt pa (↑y.k : Int).toNat) % ((1 : Int) + (↑len : Int)) - (1 :
    Int)).toNat = (seenInt IntKind.u8 W (addOpt pa (↑y.k : Int).toNat) % ((1 : Int) + (↑len : Int)) - (1 : Int)).toNat ∧ (true = true → ((0 : Int) ≤ seenInt IntKind.u8 W (addOpt pa
    (↑y.k : Int).toNat) % ((1 : Int) + (↑len : Int)) - (1 : Int) ∧ seenInt IntKind.u8 W (addOpt pa (↑y.k : Int).toNat) % ((1 : Int) + (↑len : Int)) - (1 : Int) < (↑len : Int)) ∧ addO
    true (0 : Nat) (seenInt IntKind.u8 W (addOpt pa (↑y.k : Int).toNat) % ((1 : Int) + (↑len : Int)) - (1 : Int)).toNat < len ∧ (y.7 (addO true (0 : Nat) (seenInt IntKind.u8 W (addOpt
    pa (↑y.k : Int).toNat) % ((1 : Int) + (↑len : Int)) - (1 : Int)).toNat) = true → ((0 : Int) ≤ seenInt IntKind.u8 W (addOpt pa (↑y.k : Int).toNat) % ((1 : Int) + (↑len : Int)) - (1 :
    Int) ∧ seenInt IntKind.u8 W (addOpt pa (↑y.k : Int).toNat) % ((1 : Int) + (↑len : Int)) - (1 : Int) < (↑len : Int) ∧ a.isSome = true) ∧ (∃ (x : Addr), addOpt a (seenInt IntKind.u8 W
    (addOpt pa (↑y.k : Int).toNat) % ((1 : Int) + (↑len : Int)) - (1 : Int)).toNat = some x ∧ W.cell? x = some (Value.int IntKind.u8 (seenInt IntKind.u8 W (addOpt a (seenInt IntKind.u8
    W (addOpt pa (↑y.k : Int).toNat) % ((1 : Int) + (↑len : Int)) - (1 : Int)).toNat)))) ∧ (y.cap = y.cap ∧ (∀ (i : Nat), i < (4 : Nat) → hsF i = hsF i) ∧ (0 : Int) ≤ seenInt IntKind.u8
    W (addOpt a (seenInt IntKind.u8 W (addOpt pa (↑y.k : Int).toNat) % ((1 : Int) + (↑len : Int)) - (1 : Int)).toNat) ∧ seenInt IntKind.u8 W (addOpt a (seenInt IntKind.u8 W (addOpt pa
    (↑y.k : Int).toNat) % ((1 : Int) + (↑len : Int)) - (1 : Int)).toNat) ≤ (255 : Int)) ∧ ((0 : Int) ≤ hsF (segG (seenInt IntKind.u8 W (addOpt a (seenInt IntKind.u8 W (addOpt pa (↑y.k :
    Int).toNat) % ((1 : Int) + (↑len : Int)) - (1 : Int)).toNat) % (15 : Int)).toNat) ∧ (0 : Int) ≤ seenInt IntKind.u8 W (addOpt a (seenInt IntKind.u8 W (addOpt pa (↑y.k : Int).toNat) %
    ((1 : Int) + (↑len : Int)) - (1 : Int)).toNat) % (15 : Int) ∧ seenInt IntKind.u8 W (addOpt a (seenInt IntKind.u8 W (addOpt pa (↑y.k : Int).toNat) % ((1 : Int) + (↑len : Int)) - (1 :
    Int)).toNat) % (15 : Int) ≤ (254 : Int)) ∧ ((0 : Int) ≤ seenInt IntKind.u8 W (addOpt pa (↑y.k : Int).toNat) % ((1 : Int) + (↑len : Int)) - (1 : Int) ∧ seenInt IntKind.u8 W (addOpt
    pa (↑y.k : Int).toNat) % ((1 : Int) + (↑len : Int)) - (1 : Int) < (↑len : Int)) ∧ addO true (0 : Nat) (seenInt IntKind.u8 W (addOpt pa (↑y.k : Int).toNat) % ((1 : Int) + (↑len :
    Int)) - (1 : Int)).toNat = (seenInt IntKind.u8 W (addOpt pa (↑y.k : Int).toNat) % ((1 : Int) + (↑len : Int)) - (1 : Int)).toNat ∧ ((0 : Int) ≤ seenInt IntKind.u8 W (addOpt pa (↑y.k
    : Int).toNat) % ((1 : Int) + (↑len : Int)) - (1 : Int) ∧ seenInt IntKind.u8 W (addOpt pa (↑y.k : Int).toNat) % ((1 : Int) + (↑len : Int)) - (1 : Int) < (↑len : Int)) ∧ addO true (0
    : Nat) (seenInt IntKind.u8 W (addOpt pa (↑y.k : Int).toNat) % ((1 : Int) + (↑len : Int)) - (1 : Int)).toNat < len ∧ ((0 : Int) ≤ seenInt IntKind.u8 W (addOpt pa (↑y.k : Int).toNat)
    % ((1 : Int) + (↑len : Int)) - (1 : Int) ∧ seenInt IntKind.u8 W (addOpt pa (↑y.k : Int).toNat) % ((1 : Int) + (↑len : Int)) - (1 : Int) < (↑len : Int)) ∧ addO true (0 : Nat)
    (seenInt IntKind.u8 W (addOpt pa (↑y.k : Int).toNat) % ((1 : Int) + (↑len : Int)) - (1 : Int)).toNat < len ∧ (∀ (j : Nat), j < len → True) ∧ ((0 : Int) ≤ seenInt IntKind.u8 W
    (addOpt pa (↑y.k : Int).toNat) % ((1 : Int) + (↑len : Int)) - (1 : Int) ∧ seenInt IntKind.u8 W (addOpt pa (↑y.k : Int).toNat) % ((1 : Int) + (↑len : Int)) - (1 : Int) < (↑len :
    Int)) ∧ addO true (0 : Nat) (seenInt IntKind.u8 W (addOpt pa (↑y.k : Int).toNat) % ((1 : Int) + (↑len : Int)) - (1 : Int)).toNat < len ∧ (∀ (j : Nat), j < len → True) ∧ ((0 : Int) ≤
    seenInt IntKind.u8 W (addOpt pa (↑y.k : Int).toNat) % ((1 : Int) + (↑len : Int)) - (1 : Int) ∧ seenInt IntKind.u8 W (addOpt pa (↑y.k : Int).toNat) % ((1 : Int) + (↑len : Int)) - (1
    : Int) < (↑len : Int)) ∧ addO true (0 : Nat) (seenInt IntKind.u8 W (addOpt pa (↑y.k : Int).toNat) % ((1 : Int) + (↑len : Int)) - (1 : Int)).toNat < len ∧ (∀ (j : Nat), j < len →
    True) ∧ ((0 : Int) ≤ seenInt IntKind.u8 W (addOpt pa (↑y.k : Int).toNat) % ((1 : Int) + (↑len : Int)) - (1 : Int) ∧ seenInt IntKind.u8 W (addOpt pa (↑y.k : Int).toNat) % ((1 : Int)
    + (↑len : Int)) - (1 : Int) < (↑len : Int)) ∧ addO true (0 : Nat) (seenInt IntKind.u8 W (addOpt pa (↑y.k : Int).toNat) % ((1 : Int) + (↑len : Int)) - (1 : Int)).toNat = (seenInt
    IntKind.u8 W (addOpt pa (↑y.k : Int).toNat) % ((1 : Int) + (↑len : Int)) - (1 : Int)).toNat ∧ CntOk (cntNew (hsF (segG (seenInt IntKind.u8 W (addOpt a (seenInt IntKind.u8 W (addOpt
    pa (↑y.k : Int).toNat) % ((1 : Int) + (↑len : Int)) - (1 : Int)).toNat) % (15 : Int)).toNat)).toNat (seenInt IntKind.u8 W (addOpt a (seenInt IntKind.u8 W (addOpt pa (↑y.k :
    Int).toNat) % ((1 : Int) + (↑len : Int)) - (1 : Int)).toNat) % (15 : Int)).toNat (0 : Int) (9 : Int) (18446744073709551615 : Nat)) y.A ∧ (len = len ∧ (seenInt IntKind.u8 W (addOpt
    pa (↑y.k : Int).toNat) % ((1 : Int) + (↑len : Int)) - (1 : Int)).toNat = (seenInt IntKind.u8 W (addOpt pa (↑y.k : Int).toNat) % ((1 : Int) + (↑len : Int)) - (1 : Int)).toNat ∧ g =
    g) ∧ ((-9223372036854775808 : Int) ≤ (↑y.k : Int) + (1 : Int) ∧ (↑y.k : Int) + (1 : Int) ≤ (9223372036854775807 : Int)) ∧ ∃ (y' : C1 W a len plen), plen - y'.k < plen - y.k ∧ a = a
    ∧ len = len ∧ cap = cap ∧ pa = pa ∧ plen = plen ∧ pcap = pcap ∧ (↑plen : Int) = (↑plen : Int) ∧ W = W ∧ (↑y'.k : Int) = (↑y.k : Int) + (1 : Int) ∧ (0 : Nat) = (0 : Nat) ∧ y'.cap =
    y.cap ∧ (0 : Nat) = (0 : Nat) ∧ len = len ∧ len = len ∧ (0 : Nat) = (0 : Nat) ∧ len = len ∧ len = len ∧ (0 : Nat) = (0 : Nat) ∧ len = len ∧ len = len ∧ (0 : Nat) = (0 : Nat) ∧ len =
    len ∧ len = len ∧ (↑y'.r0 : Int) = (↑y.r0 : Int) ∧ y'.A = stepA (cntNew (hsF (segG (seenInt IntKind.u8 W (addOpt a (seenInt IntKind.u8 W (addOpt pa (↑y.k : Int).toNat) % ((1 : Int)
    + (↑len : Int)) - (1 : Int)).toNat) % (15 : Int)).toNat)).toNat (seenInt IntKind.u8 W (addOpt a (seenInt IntKind.u8 W (addOpt pa (↑y.k : Int).toNat) % ((1 : Int) + (↑len : Int)) -
    (1 : Int)).toNat) % (15 : Int)).toNat (0 : Int) (9 : Int) (18446744073709551615 : Nat)) y.A ∧ ((4 : Nat) = (4 : Nat) ∧ y'.cap = y.cap ∧ ∀ (i : Nat), i < (4 : Nat) → hsF i = hsF i) ∧
    y'.x = y.x ∧ (len = len ∧ len = len ∧ y'.c = fun (j : Nat) => if j = (seenInt IntKind.u8 W (addOpt pa (↑y.k : Int).toNat) % ((1 : Int) + (↑len : Int)) - (1 : Int)).toNat then some
    (stepC (cntNew (hsF (segG (seenInt IntKind.u8 W (addOpt a (seenInt IntKind.u8 W (addOpt pa (↑y.k : Int).toNat) % ((1 : Int) + (↑len : Int)) - (1 : Int)).toNat) % (15 :
    Int)).toNat)).toNat (seenInt IntKind.u8 W (addOpt a (seenInt IntKind.u8 W (addOpt pa (↑y.k : Int).toNat) % ((1 : Int) + (↑len : Int)) - (1 : Int)).toNat) % (15 : Int)).toNat (0 :
    Int) (9 : Int) (18446744073709551615 : Nat))) else y.c j) ∧ (len = len ∧ len = len ∧ ∀ (i : Nat), i < len → [Value.bool (y'.f i)] = [Value.bool (if i = addO true (0 : Nat) (seenInt
    IntKind.u8 W (addOpt pa (↑y.k : Int).toNat) % ((1 : Int) + (↑len : Int)) - (1 : Int)).toNat then !y.f (addO true (0 : Nat) (seenInt IntKind.u8 W (addOpt pa (↑y.k : Int).toNat) % ((1
    : Int) + (↑len : Int)) - (1 : Int)).toNat) else booOfV ([Value.bool (y.f i)].getD (0 : Nat) undef))]) ∧ (len = len ∧ len = len ∧ ∀ (i : Nat), i < len → [Value.bool (y'.alw i)] =
    [Value.bool (if i = addO true (0 : Nat) (seenInt IntKind.u8 W (addOpt pa (↑y.k : Int).toNat) % ((1 : Int) + (↑len : Int)) - (1 : Int)).toNat then false else booOfV ([Value.bool
    (y.alw i)].getD (0 : Nat) undef))]) ∧ (len = len ∧ len = len ∧ ∀ (i : Nat), i < len → [Value.bool (y'.som i)] = [Value.bool (if i = addO true (0 : Nat) (seenInt IntKind.u8 W (addOpt
    pa (↑y.k : Int).toNat) % ((1 : Int) + (↑len : Int)) - (1 : Int)).toNat then true else booOfV ([Value.bool (y.som i)].getD (0 : Nat) undef))]) ∧ True) ∧ (y.7 (addO true (0 : Nat)
    (seenInt IntKind.u8 W (addOpt pa (↑y.k : Int).toNat) % ((1 : Int) + (↑len : Int)) - (1 : Int)).toNat) = false → ((0 : Int) ≤ seenInt IntKind.u8 W (addOpt pa (↑y.k : Int).toNat) %
    ((1 : Int) + (↑len : Int)) - (1 : Int) ∧ seenInt IntKind.u8 W (addOpt pa (↑y.k : Int).toNat) % ((1 : Int) + (↑len : Int)) - (1 : Int) < (↑len : Int) ∧ a.isSome = true) ∧ (∃ (x :
    Addr), addOpt a (seenInt IntKind.u8 W (addOpt pa (↑y.k : Int).toNat) % ((1 : Int) + (↑len : Int)) - (1 : Int)).toNat = some x ∧ W.cell? x = some (Value.int IntKind.u8 (seenInt
    IntKind.u8 W (addOpt a (seenInt IntKind.u8 W (addOpt pa (↑y.k : Int).toNat) % ((1 : Int) + (↑len : Int)) - (1 : Int)).toNat)))) ∧ (y.cap = y.cap ∧ (∀ (i : Nat), i < (4 : Nat) → hsF
    i = hsF i) ∧ (0 : Int) ≤ seenInt IntKind.u8 W (addOpt a (seenInt IntKind.u8 W (addOpt pa (↑y.k : Int).toNat) % ((1 : Int) + (↑len : Int)) - (1 : Int)).toNat) ∧ seenInt IntKind.u8 W
    (addOpt a (seenInt IntKind.u8 W (addOpt pa (↑y.k : Int).toNat) % ((1 : Int) + (↑len : Int)) - (1 : Int)).toNat) ≤ (255 : Int)) ∧ ((0 : Int) ≤ hsF (segG (seenInt IntKind.u8 W (addOpt
    a (seenInt IntKind.u8 W (addOpt pa (↑y.k : Int).toNat) % ((1 : Int) + (↑len : Int)) - (1 : Int)).toNat) % (15 : Int)).toNat) ∧ (0 : Int) ≤ seenInt IntKind.u8 W (addOpt a (seenInt
    IntKind.u8 W (addOpt pa (↑y.k : Int).toNat) % ((1 : Int) + (↑len : Int)) - (1 : Int)).toNat) % (15 : Int) ∧ seenInt IntKind.u8 W (addOpt a (seenInt IntKind.u8 W (addOpt pa (↑y.k :
    Int).toNat) % ((1 : Int) + (↑len : Int)) - (1 : Int)).toNat) % (15 : Int) ≤ (254 : Int)) ∧ ((0 : Int) ≤ seenInt IntKind.u8 W (addOpt pa (↑y.k : Int).toNat) % ((1 : Int) + (↑len :
    Int)) - (1 : Int) ∧ seenInt IntKind.u8 W (addOpt pa (↑y.k : Int).toNat) % ((1 : Int) + (↑len : Int)) - (1 : Int) < (↑len : Int)) ∧ addO true (0 : Nat) (seenInt IntKind.u8 W (addOpt
    pa (↑y.k : Int).toNat) % ((1 : Int) + (↑len : Int)) - (1 : Int)).toNat = (seenInt IntKind.u8 W (addOpt pa (↑y.k : Int).toNat) % ((1 : Int) + (↑len : Int)) - (1 : Int)).toNat ∧ ((0 :
    Int) ≤ seenInt IntKind.u8 W (addOpt pa (↑y.k : Int).toNat) % ((1 : Int) + (↑len : Int)) - (1 : Int) ∧ seenInt IntKind.u8 W (addOpt pa (↑y.k : Int).toNat) % ((1 : Int) + (↑len :
    Int)) - (1 : Int) < (↑len : Int)) ∧ addO true (0 : Nat) (seenInt IntKind.u8 W (addOpt pa (↑y.k : Int).toNat) % ((1 : Int) + (↑len : Int)) - (1 : Int)).toNat < len ∧ ((0 : Int) ≤
    seenInt IntKind.u8 W (addOpt pa (↑y.k : Int).toNat) % ((1 : Int) + (↑len : Int)) - (1 : Int) ∧ seenInt IntKind.u8 W (addOpt pa (↑y.k : Int).toNat) % ((1 : Int) + (↑len : Int)) - (1
    : Int) < (↑len : Int)) ∧ addO true (0 : Nat) (seenInt IntKind.u8 W (addOpt pa (↑y.k : Int).toNat) % ((1 : Int) + (↑len : Int)) - (1 : Int)).toNat < len ∧ (∀ (j : Nat), j < len →
    True) ∧ ((0 : Int) ≤ seenInt IntKind.u8 W (addOpt pa (↑y.k : Int).toNat) % ((1 : Int) + (↑len : Int)) - (1 : Int) ∧ seenInt IntKind.u8 W (addOpt pa (↑y.k : Int).toNat) % ((1 : Int)
    + (↑len : Int)) - (1 : Int) < (↑len : Int)) ∧ addO true (0 : Nat) (seenInt IntKind.u8 W (addOpt pa (↑y.k : Int).toNat) % ((1 : Int) + (↑len : Int)) - (1 : Int)).toNat < len ∧ (∀ (j
    : Nat), j < len → True) ∧ ((0 : Int) ≤ seenInt IntKind.u8 W (addOpt pa (↑y.k : Int).toNat) % ((1 : Int) + (↑len : Int)) - (1 : Int) ∧ seenInt IntKind.u8 W (addOpt pa (↑y.k :
    Int).toNat) % ((1 : Int) + (↑len : Int)) - (1 : Int) < (↑len : Int)) ∧ addO true (0 : Nat) (seenInt IntKind.u8 W (addOpt pa (↑y.k : Int).toNat) % ((1 : Int) + (↑len : Int)) - (1 :
    Int)).toNat < len ∧ (∀ (j : Nat), j < len → True) ∧ ((0 : Int) ≤ seenInt IntKind.u8 W (addOpt pa (↑y.k : Int).toNat) % ((1 : Int) + (↑len : Int)) - (1 : Int) ∧ seenInt IntKind.u8 W
    (addOpt pa (↑y.k : Int).toNat) % ((1 : Int) + (↑len : Int)) - (1 : Int) < (↑len : Int)) ∧ addO true (0 : Nat) (seenInt IntKind.u8 W (addOpt pa (↑y.k : Int).toNat) % ((1 : Int) +
    (↑len : Int)) - (1 : Int)).toNat = (seenInt IntKind.u8 W (addOpt pa (↑y.k : Int).toNat) % ((1 : Int) + (↑len : Int)) - (1 : Int)).toNat ∧ CntOk (enterC (hsF (segG (seenInt
    IntKind.u8 W (addOpt a (seenInt IntKind.u8 W (addOpt pa (↑y.k : Int).toNat) % ((1 : Int) + (↑len : Int)) - (1 : Int)).toNat) % (15 : Int)).toNat)) (seenInt IntKind.u8 W (addOpt a
    (seenInt IntKind.u8 W (addOpt pa (↑y.k : Int).toNat) % ((1 : Int) + (↑len : Int)) - (1 : Int)).toNat) % (15 : Int))) y.A ∧ (len = len ∧ (seenInt IntKind.u8 W (addOpt pa (↑y.k :
    Int).toNat) % ((1 : Int) + (↑len : Int)) - (1 : Int)).toNat = (seenInt IntKind.u8 W (addOpt pa (↑y.k : Int).toNat) % ((1 : Int) + (↑len : Int)) - (1 : Int)).toNat ∧ g = g) ∧
    ((-9223372036854775808 : Int) ≤ (↑y.k : Int) + (1 : Int) ∧ (↑y.k : Int) + (1 : Int) ≤ (9223372036854775807 : Int)) ∧ ∃ (y' : C1 W a len plen), plen - y'.k < plen - y.k ∧ a = a ∧ len
    = len ∧ cap = cap ∧ pa = pa ∧ plen = plen ∧ pcap = pcap ∧ (↑plen : Int) = (↑plen : Int) ∧ W = W ∧ (↑y'.k : Int) = (↑y.k : Int) + (1 : Int) ∧ (0 : Nat) = (0 : Nat) ∧ y'.cap = y.cap ∧
    (0 : Nat) = (0 : Nat) ∧ len = len ∧ len = len ∧ (0 : Nat) = (0 : Nat) ∧ len = len ∧ len = len ∧ (0 : Nat) = (0 : Nat) ∧ len = len ∧ len = len ∧ (0 : Nat) = (0 : Nat) ∧ len = len ∧
    len = len ∧ (↑y'.r0 : Int) = (↑y.r0 : Int) ∧ y'.A = stepA (enterC (hsF (segG (seenInt IntKind.u8 W (addOpt a (seenInt IntKind.u8 W (addOpt pa (↑y.k : Int).toNat) % ((1 : Int) +
    (↑len : Int)) - (1 : Int)).toNat) % (15 : Int)).toNat)) (seenInt IntKind.u8 W (addOpt a (seenInt IntKind.u8 W (addOpt pa (↑y.k : Int).toNat) % ((1 : Int) + (↑len : Int)) - (1 :
    Int)).toNat) % (15 : Int))) y.A ∧ ((4 : Nat) = (4 : Nat) ∧ y'.cap = y.cap ∧ ∀ (i : Nat), i < (4 : Nat) → hsF i = hsF i) ∧ y'.x = y.x ∧ (len = len ∧ len = len ∧ y'.c = fun (j : Nat)
    => if j = (seenInt IntKind.u8 W (addOpt pa (↑y.k : Int).toNat) % ((1 : Int) + (↑len : Int)) - (1 : Int)).toNat then some (stepC (enterC (hsF (segG (seenInt IntKind.u8 W (addOpt a
    (seenInt IntKind.u8 W (addOpt pa (↑y.k : Int).toNat) % ((1 : Int) + (↑len : Int)) - (1 : Int)).toNat) % (15 : Int)).toNat)) (seenInt IntKind.u8 W (addOpt a (seenInt IntKind.u8 W
    (addOpt pa (↑y.k : Int).toNat) % ((1 : Int) + (↑len : Int)) - (1 : Int)).toNat) % (15 : Int)))) else y.c j) ∧ (len = len ∧ len = len ∧ ∀ (i : Nat), i < len → [Value.bool (y'.f i)] =
    [Value.bool (if i = addO true (0 : Nat) (seenInt IntKind.u8 W (addOpt pa (↑y.k : Int).toNat) % ((1 : Int) + (↑len : Int)) - (1 : Int)).toNat then !y.f (addO true (0 : Nat) (seenInt
    IntKind.u8 W (addOpt pa (↑y.k : Int).toNat) % ((1 : Int) + (↑len : Int)) - (1 : Int)).toNat) else booOfV ([Value.bool (y.f i)].getD (0 : Nat) undef))]) ∧ (len = len ∧ len = len ∧ ∀
    (i : Nat), i < len → [Value.bool (y'.alw i)] = [Value.bool (if i = addO true (0 : Nat) (seenInt IntKind.u8 W (addOpt pa (↑y.k : Int).toNat) % ((1 : Int) + (↑len : Int)) - (1 :
    Int)).toNat then false else booOfV ([Value.bool (y.alw i)].getD (0 : Nat) undef))]) ∧ (len = len ∧ len = len ∧ ∀ (i : Nat), i < len → [Value.bool (y'.som i)] = [Value.bool (if i =
    addO true (0 : Nat) (seenInt IntKind.u8 W (addOpt pa (↑y.k : Int).toNat) % ((1 : Int) + (↑len : Int)) - (1 : Int)).toNat then true else booOfV ([Value.bool (y.som i)].getD (0 : Nat)
    undef))]) ∧ True)) ∧ (true = false → ((0 : Int) ≤ seenInt IntKind.u8 W (addOpt pa (↑y.k : Int).toNat) % ((1 : Int) + (↑len : Int)) - (1 : Int) ∧ seenInt IntKind.u8 W (addOpt pa
    (↑y.k : Int).toNat) % ((1 : Int) + (↑len : Int)) - (1 : Int) < (↑len : Int)) ∧ addO true (0 : Nat) (seenInt IntKind.u8 W (addOpt pa (↑y.k : Int).toNat) % ((1 : Int) + (↑len : Int))
    - (1 : Int)).toNat < len ∧ (∀ (j : Nat), j < len → True) ∧ ((0 : Int) ≤ seenInt IntKind.u8 W (addOpt pa (↑y.k : Int).toNat) % ((1 : Int) + (↑len : Int)) - (1 : Int) ∧ seenInt
    IntKind.u8 W (addOpt pa (↑y.k : Int).toNat) % ((1 : Int) + (↑len : Int)) - (1 : Int) < (↑len : Int)) ∧ addO true (0 : Nat) (seenInt IntKind.u8 W (addOpt pa (↑y.k : Int).toNat) % ((1
    : Int) + (↑len : Int)) - (1 : Int)).toNat < len ∧ (∀ (j : Nat), j < len → True) ∧ ((0 : Int) ≤ seenInt IntKind.u8 W (addOpt pa (↑y.k : Int).toNat) % ((1 : Int) + (↑len : Int)) - (1
    : Int) ∧ seenInt IntKind.u8 W (addOpt pa (↑y.k : Int).toNat) % ((1 : Int) + (↑len : Int)) - (1 : Int) < (↑len : Int)) ∧ addO true (0 : Nat) (seenInt IntKind.u8 W (addOpt pa (↑y.k :
    Int).toNat) % ((1 : Int) + (↑len : Int)) - (1 : Int)).toNat = (seenInt IntKind.u8 W (addOpt pa (↑y.k : Int).toNat) % ((1 : Int) + (↑len : Int)) - (1 : Int)).toNat ∧ (len = len ∧
    (seenInt IntKind.u8 W (addOpt pa (↑y.k : Int).toNat) % ((1 : Int) + (↑len : Int)) - (1 : Int)).toNat = (seenInt IntKind.u8 W (addOpt pa (↑y.k : Int).toNat) % ((1 : Int) + (↑len :
    Int)) - (1 : Int)).toNat ∧ g = g) ∧ ((-9223372036854775808 : Int) ≤ (↑y.k : Int) + (1 : Int) ∧ (↑y.k : Int) + (1 : Int) ≤ (9223372036854775807 : Int)) ∧ ∃ (y' : C1 W a len plen),
    plen - y'.k < plen - y.k ∧ a = a ∧ len = len ∧ cap = cap ∧ pa = pa ∧ plen = plen ∧ pcap = pcap ∧ (↑plen : Int) = (↑plen : Int) ∧ W = W ∧ (↑y'.k : Int) = (↑y.k : Int) + (1 : Int) ∧
    (0 : Nat) = (0 : Nat) ∧ y'.cap = y.cap ∧ (0 : Nat) = (0 : Nat) ∧ len = len ∧ len = len ∧ (0 : Nat) = (0 : Nat) ∧ len = len ∧ len = len ∧ (0 : Nat) = (0 : Nat) ∧ len = len ∧ len =
    len ∧ (0 : Nat) = (0 : Nat) ∧ len = len ∧ len = len ∧ (↑y'.r0 : Int) = (↑y.r0 : Int) ∧ y'.A = y.A ∧ ((4 : Nat) = (4 : Nat) ∧ y'.cap = y.cap ∧ ∀ (i : Nat), i < (4 : Nat) → hsF i =
    hsF i) ∧ y'.x = y.x ∧ (len = len ∧ len = len ∧ y'.c = fun (j : Nat) => if j = (seenInt IntKind.u8 W (addOpt pa (↑y.k : Int).toNat) % ((1 : Int) + (↑len : Int)) - (1 : Int)).toNat
    then none else y.c j) ∧ (len = len ∧ len = len ∧ ∀ (i : Nat), i < len → [Value.bool (y'.f i)] = [Value.bool (y.f i)]) ∧ (len = len ∧ len = len ∧ ∀ (i : Nat), i < len → [Value.bool
    (y'.alw i)] = [Value.bool (if i = addO true (0 : Nat) (seenInt IntKind.u8 W (addOpt pa (↑y.k : Int).toNat) % ((1 : Int) + (↑len : Int)) - (1 : Int)).toNat then false else booOfV
    ([Value.bool (y.alw i)].getD (0 : Nat) undef))]) ∧ (len = len ∧ len = len ∧ ∀ (i : Nat), i < len → [Value.bool (y'.som i)] = [Value.bool (if i = addO true (0 : Nat) (seenInt
    IntKind.u8 W (addOpt pa (↑y.k : Int).toNat) % ((1 : Int) + (↑len : Int)) - (1 : Int)).toNat then true else booOfV ([Value.bool (y.som i)].getD (0 : Nat) undef))]) ∧ True)) ∧ ∀ (y_1
    : (cntHg (xInHid colH)).X), y.c (seenInt IntKind.u8 W (addOpt pa (↑y.k : Int).toNat) % ((1 : Int) + (↑len : Int)) - (1 : Int)).toNat = some y_1 → ((0 : Int) ≤ seenInt IntKind.u8 W
    (addOpt pa (↑y.k : Int).toNat) % ((1 : Int) + (↑len : Int)) - (1 : Int) ∧ seenInt IntKind.u8 W (addOpt pa (↑y.k : Int).toNat) % ((1 : Int) + (↑len : Int)) - (1 : Int) < (↑len :
    Int)) ∧ addO true (0 : Nat) (seenInt IntKind.u8 W (addOpt pa (↑y.k : Int).toNat) % ((1 : Int) + (↑len : Int)) - (1 : Int)).toNat = (seenInt IntKind.u8 W (addOpt pa (↑y.k :
    Int).toNat) % ((1 : Int) + (↑len : Int)) - (1 : Int)).toNat ∧ (isDone y_1 = true → ((0 : Int) ≤ seenInt IntKind.u8 W (addOpt pa (↑y.k : Int).toNat) % ((1 : Int) + (↑len : Int)) - (1
    : Int) ∧ seenInt IntKind.u8 W (addOpt pa (↑y.k : Int).toNat) % ((1 : Int) + (↑len : Int)) - (1 : Int) < (↑len : Int)) ∧ addO true (0 : Nat) (seenInt IntKind.u8 W (addOpt pa (↑y.k :
    Int).toNat) % ((1 : Int) + (↑len : Int)) - (1 : Int)).toNat < len ∧ (y.7 (addO true (0 : Nat) (seenInt IntKind.u8 W (addOpt pa (↑y.k : Int).toNat) % ((1 : Int) + (↑len : Int)) - (1
    : Int)).toNat) = true → ((0 : Int) ≤ seenInt IntKind.u8 W (addOpt pa (↑y.k : Int).toNat) % ((1 : Int) + (↑len : Int)) - (1 : Int) ∧ seenInt IntKind.u8 W (addOpt pa (↑y.k :
    Int).toNat) % ((1 : Int) + (↑len : Int)) - (1 : Int) < (↑len : Int) ∧ a.isSome = true) ∧ (∃ (x : Addr), addOpt a (seenInt IntKind.u8 W (addOpt pa (↑y.k : Int).toNat) % ((1 : Int) +
    (↑len : Int)) - (1 : Int)).toNat = some x ∧ W.cell? x = some (Value.int IntKind.u8 (seenInt IntKind.u8 W (addOpt a (seenInt IntKind.u8 W (addOpt pa (↑y.k : Int).toNat) % ((1 : Int)
    + (↑len : Int)) - (1 : Int)).toNat)))) ∧ (y.cap = y.cap ∧ (∀ (i : Nat), i < (4 : Nat) → hsF i = hsF i) ∧ (0 : Int) ≤ seenInt IntKind.u8 W (addOpt a (seenInt IntKind.u8 W (addOpt pa
    (↑y.k : Int).toNat) % ((1 : Int) + (↑len : Int)) - (1 : Int)).toNat) ∧ seenInt IntKind.u8 W (addOpt a (seenInt IntKind.u8 W (addOpt pa (↑y.k : Int).toNat) % ((1 : Int) + (↑len :
    Int)) - (1 : Int)).toNat) ≤ (255 : Int)) ∧ ((0 : Int) ≤ hsF (segG (seenInt IntKind.u8 W (addOpt a (seenInt IntKind.u8 W (addOpt pa (↑y.k : Int).toNat) % ((1 : Int) + (↑len : Int)) -
    (1 : Int)).toNat) % (15 : Int)).toNat) ∧ (0 : Int) ≤ seenInt IntKind.u8 W (addOpt a (seenInt IntKind.u8 W (addOpt pa (↑y.k : Int).toNat) % ((1 : Int) + (↑len : Int)) - (1 :
    Int)).toNat) % (15 : Int) ∧ seenInt IntKind.u8 W (addOpt a (seenInt IntKind.u8 W (addOpt pa (↑y.k : Int).toNat) % ((1 : Int) + (↑len : Int)) - (1 : Int)).toNat) % (15 : Int) ≤ (254
    : Int)) ∧ ((0 : Int) ≤ seenInt IntKind.u8 W (addOpt pa (↑y.k : Int).toNat) % ((1 : Int) + (↑len : Int)) - (1 : Int) ∧ seenInt IntKind.u8 W (addOpt pa (↑y.k : Int).toNat) % ((1 :
    Int) + (↑len : Int)) - (1 : Int) < (↑len : Int)) ∧ addO true (0 : Nat) (seenInt IntKind.u8 W (addOpt pa (↑y.k : Int).toNat) % ((1 : Int) + (↑len : Int)) - (1 : Int)).toNat =
    (seenInt IntKind.u8 W (addOpt pa (↑y.k : Int).toNat) % ((1 : Int) + (↑len : Int)) - (1 : Int)).toNat ∧ ((0 : Int) ≤ seenInt IntKind.u8 W (addOpt pa (↑y.k : Int).toNat) % ((1 : Int)
    + (↑len : Int)) - (1 : Int) ∧ seenInt IntKind.u8 W (addOpt pa (↑y.k : Int).toNat) % ((1 : Int) + (↑len : Int)) - (1 : Int) < (↑len : Int)) ∧ addO true (0 : Nat) (seenInt IntKind.u8
    W (addOpt pa (↑y.k : Int).toNat) % ((1 : Int) + (↑len : Int)) - (1 : Int)).toNat < len ∧ ((0 : Int) ≤ seenInt IntKind.u8 W (addOpt pa (↑y.k : Int).toNat) % ((1 : Int) + (↑len :
    Int)) - (1 : Int) ∧ seenInt IntKind.u8 W (addOpt pa (↑y.k : Int).toNat) % ((1 : Int) + (↑len : Int)) - (1 : Int) < (↑len : Int)) ∧ addO true (0 : Nat) (seenInt IntKind.u8 W (addOpt
    pa (↑y.k : Int).toNat) % ((1 : Int) + (↑len : Int)) - (1 : Int)).toNat < len ∧ (∀ (j : Nat), j < len → True) ∧ ((0 : Int) ≤ seenInt IntKind.u8 W (addOpt pa (↑y.k : Int).toNat) % ((1
    : Int) + (↑len : Int)) - (1 : Int) ∧ seenInt IntKind.u8 W (addOpt pa (↑y.k : Int).toNat) % ((1 : Int) + (↑len : Int)) - (1 : Int) < (↑len : Int)) ∧ addO true (0 : Nat) (seenInt
    IntKind.u8 W (addOpt pa (↑y.k : Int).toNat) % ((1 : Int) + (↑len : Int)) - (1 : Int)).toNat < len ∧ (∀ (j : Nat), j < len → True) ∧ ((0 : Int) ≤ seenInt IntKind.u8 W (addOpt pa
    (↑y.k : Int).toNat) % ((1 : Int) + (↑len : Int)) - (1 : Int) ∧ seenInt IntKind.u8 W (addOpt pa (↑y.k : Int).toNat) % ((1 : Int) + (↑len : Int)) - (1 : Int) < (↑len : Int)) ∧ addO
    true (0 : Nat) (seenInt IntKind.u8 W (addOpt pa (↑y.k : Int).toNat) % ((1 : Int) + (↑len : Int)) - (1 : Int)).toNat < len ∧ (∀ (j : Nat), j < len → True) ∧ ((0 : Int) ≤ seenInt
    IntKind.u8 W (addOpt pa (↑y.k : Int).toNat) % ((1 : Int) + (↑len : Int)) - (1 : Int) ∧ seenInt IntKind.u8 W (addOpt pa (↑y.k : Int).toNat) % ((1 : Int) + (↑len : Int)) - (1 : Int) <
    (↑len : Int)) ∧ addO true (0 : Nat) (seenInt IntKind.u8 W (addOpt pa (↑y.k : Int).toNat) % ((1 : Int) + (↑len : Int)) - (1 : Int)).toNat = (seenInt IntKind.u8 W (addOpt pa (↑y.k :
    Int).toNat) % ((1 : Int) + (↑len : Int)) - (1 : Int)).toNat ∧ CntOk (cntNew (hsF (segG (seenInt IntKind.u8 W (addOpt a (seenInt IntKind.u8 W (addOpt pa (↑y.k : Int).toNat) % ((1 :
    Int) + (↑len : Int)) - (1 : Int)).toNat) % (15 : Int)).toNat)).toNat (seenInt IntKind.u8 W (addOpt a (seenInt IntKind.u8 W (addOpt pa (↑y.k : Int).toNat) % ((1 : Int) + (↑len :
    Int)) - (1 : Int)).toNat) % (15 : Int)).toNat (0 : Int) (9 : Int) (18446744073709551615 : Nat)) y.A ∧ (len = len ∧ (seenInt IntKind.u8 W (addOpt pa (↑y.k : Int).toNat) % ((1 : Int)
    + (↑len : Int)) - (1 : Int)).toNat = (seenInt IntKind.u8 W (addOpt pa (↑y.k : Int).toNat) % ((1 : Int) + (↑len : Int)) - (1 : Int)).toNat ∧ g = g) ∧ ((-9223372036854775808 : Int) ≤
    (↑y.k : Int) + (1 : Int) ∧ (↑y.k : Int) + (1 : Int) ≤ (9223372036854775807 : Int)) ∧ ∃ (y' : C1 W a len plen), plen - y'.k < plen - y.k ∧ a = a ∧ len = len ∧ cap = cap ∧ pa = pa ∧
    plen = plen ∧ pcap = pcap ∧ (↑plen : Int) = (↑plen : Int) ∧ W = W ∧ (↑y'.k : Int) = (↑y.k : Int) + (1 : Int) ∧ (0 : Nat) = (0 : Nat) ∧ y'.cap = y.cap ∧ (0 : Nat) = (0 : Nat) ∧ len =
    len ∧ len = len ∧ (0 : Nat) = (0 : Nat) ∧ len = len ∧ len = len ∧ (0 : Nat) = (0 : Nat) ∧ len = len ∧ len = len ∧ (0 : Nat) = (0 : Nat) ∧ len = len ∧ len = len ∧ (↑y'.r0 : Int) =
    (↑y.r0 : Int) ∧ y'.A = stepA (cntNew (hsF (segG (seenInt IntKind.u8 W (addOpt a (seenInt IntKind.u8 W (addOpt pa (↑y.k : Int).toNat) % ((1 : Int) + (↑len : Int)) - (1 : Int)).toNat)
    % (15 : Int)).toNat)).toNat (seenInt IntKind.u8 W (addOpt a (seenInt IntKind.u8 W (addOpt pa (↑y.k : Int).toNat) % ((1 : Int) + (↑len : Int)) - (1 : Int)).toNat) % (15 : Int)).toNat
    (0 : Int) (9 : Int) (18446744073709551615 : Nat)) y.A ∧ ((4 : Nat) = (4 : Nat) ∧ y'.cap = y.cap ∧ ∀ (i : Nat), i < (4 : Nat) → hsF i = hsF i) ∧ y'.x = y.x ∧ (len = len ∧ len = len ∧
    y'.c = fun (j : Nat) => if j = (seenInt IntKind.u8 W (addOpt pa (↑y.k : Int).toNat) % ((1 : Int) + (↑len : Int)) - (1 : Int)).toNat then some (stepC (cntNew (hsF (segG (seenInt
    IntKind.u8 W (addOpt a (seenInt IntKind.u8 W (addOpt pa (↑y.k : Int).toNat) % ((1 : Int) + (↑len : Int)) - (1 : Int)).toNat) % (15 : Int)).toNat)).toNat (seenInt IntKind.u8 W
    (addOpt a (seenInt IntKind.u8 W (addOpt pa (↑y.k : Int).toNat) % ((1 : Int) + (↑len : Int)) - (1 : Int)).toNat) % (15 : Int)).toNat (0 : Int) (9 : Int) (18446744073709551615 :
    Nat))) else y.c j) ∧ (len = len ∧ len = len ∧ ∀ (i : Nat), i < len → [Value.bool (y'.f i)] = [Value.bool (if i = addO true (0 : Nat) (seenInt IntKind.u8 W (addOpt pa (↑y.k :
    Int).toNat) % ((1 : Int) + (↑len : Int)) - (1 : Int)).toNat then !y.f (addO true (0 : Nat) (seenInt IntKind.u8 W (addOpt pa (↑y.k : Int).toNat) % ((1 : Int) + (↑len : Int)) - (1 :
    Int)).toNat) else booOfV ([Value.bool (y.f i)].getD (0 : Nat) undef))]) ∧ (len = len ∧ len = len ∧ ∀ (i : Nat), i < len → [Value.bool (y'.alw i)] = [Value.bool (if i = addO true (0
    : Nat) (seenInt IntKind.u8 W (addOpt pa (↑y.k : Int).toNat) % ((1 : Int) + (↑len : Int)) - (1 : Int)).toNat then false else booOfV ([Value.bool (y.alw i)].getD (0 : Nat) undef))]) ∧
    (len = len ∧ len = len ∧ ∀ (i : Nat), i < len → [Value.bool (y'.som i)] = [Value.bool (if i = addO true (0 : Nat) (seenInt IntKind.u8 W (addOpt pa (↑y.k : Int).toNat) % ((1 : Int) +
    (↑len : Int)) - (1 : Int)).toNat then true else booOfV ([Value.bool (y.som i)].getD (0 : Nat) undef))]) ∧ True) ∧ (y.7 (addO true (0 : Nat) (seenInt IntKind.u8 W (addOpt pa (↑y.k :
    Int).toNat) % ((1 : Int) + (↑len : Int)) - (1 : Int)).toNat) = false → ((0 : Int) ≤ seenInt IntKind.u8 W (addOpt pa (↑y.k : Int).toNat) % ((1 : Int) + (↑len : Int)) - (1 : Int) ∧
    seenInt IntKind.u8 W (addOpt pa (↑y.k : Int).toNat) % ((1 : Int) + (↑len : Int)) - (1 : Int) < (↑len : Int) ∧ a.isSome = true) ∧ (∃ (x : Addr), addOpt a (seenInt IntKind.u8 W
    (addOpt pa (↑y.k : Int).toNat) % ((1 : Int) + (↑len : Int)) - (1 : Int)).toNat = some x ∧ W.cell? x = some (Value.int IntKind.u8 (seenInt IntKind.u8 W (addOpt a (seenInt IntKind.u8
    W (addOpt pa (↑y.k : Int).toNat) % ((1 : Int) + (↑len : Int)) - (1 : Int)).toNat)))) ∧ (y.cap = y.cap ∧ (∀ (i : Nat), i < (4 : Nat) → hsF i = hsF i) ∧ (0 : Int) ≤ seenInt IntKind.u8
    W (addOpt a (seenInt IntKind.u8 W (addOpt pa (↑y.k : Int).toNat) % ((1 : Int) + (↑len : Int)) - (1 : Int)).toNat) ∧ seenInt IntKind.u8 W (addOpt a (seenInt IntKind.u8 W (addOpt pa
    (↑y.k : Int).toNat) % ((1 : Int) + (↑len : Int)) - (1 : Int)).toNat) ≤ (255 : Int)) ∧ ((0 : Int) ≤ hsF (segG (seenInt IntKind.u8 W (addOpt a (seenInt IntKind.u8 W (addOpt pa (↑y.k :
    Int).toNat) % ((1 : Int) + (↑len : Int)) - (1 : Int)).toNat) % (15 : Int)).toNat) ∧ (0 : Int) ≤ seenInt IntKind.u8 W (addOpt a (seenInt IntKind.u8 W (addOpt pa (↑y.k : Int).toNat) %
    ((1 : Int) + (↑len : Int)) - (1 : Int)).toNat) % (15 : Int) ∧ seenInt IntKind.u8 W (addOpt a (seenInt IntKind.u8 W (addOpt pa (↑y.k : Int).toNat) % ((1 : Int) + (↑len : Int)) - (1 :
    Int)).toNat) % (15 : Int) ≤ (254 : Int)) ∧ ((0 : Int) ≤ seenInt IntKind.u8 W (addOpt pa (↑y.k : Int).toNat) % ((1 : Int) + (↑len : Int)) - (1 : Int) ∧ seenInt IntKind.u8 W (addOpt
    pa (↑y.k : Int).toNat) % ((1 : Int) + (↑len : Int)) - (1 : Int) < (↑len : Int)) ∧ addO true (0 : Nat) (seenInt IntKind.u8 W (addOpt pa (↑y.k : Int).toNat) % ((1 : Int) + (↑len :
    Int)) - (1 : Int)).toNat = (seenInt IntKind.u8 W (addOpt pa (↑y.k : Int).toNat) % ((1 : Int) + (↑len : Int)) - (1 : Int)).toNat ∧ ((0 : Int) ≤ seenInt IntKind.u8 W (addOpt pa (↑y.k
    : Int).toNat) % ((1 : Int) + (↑len : Int)) - (1 : Int) ∧ seenInt IntKind.u8 W (addOpt pa (↑y.k : Int).toNat) % ((1 : Int) + (↑len : Int)) - (1 : Int) < (↑len : Int)) ∧ addO true (0
    : Nat) (seenInt IntKind.u8 W (addOpt pa (↑y.k : Int).toNat) % ((1 : Int) + (↑len : Int)) - (1 : Int)).toNat < len ∧ ((0 : Int) ≤ seenInt IntKind.u8 W (addOpt pa (↑y.k : Int).toNat)
    % ((1 : Int) + (↑len : Int)) - (1 : Int) ∧ seenInt IntKind.u8 W (addOpt pa (↑y.k : Int).toNat) % ((1 : Int) + (↑len : Int)) - (1 : Int) < (↑len : Int)) ∧ addO true (0 : Nat)
    (seenInt IntKind.u8 W (addOpt pa (↑y.k : Int).toNat) % ((1 : Int) + (↑len : Int)) - (1 : Int)).toNat < len ∧ (∀ (j : Nat), j < len → True) ∧ ((0 : Int) ≤ seenInt IntKind.u8 W
    (addOpt pa (↑y.k : Int).toNat) % ((1 : Int) + (↑len : Int)) - (1 : Int) ∧ seenInt IntKind.u8 W (addOpt pa (↑y.k : Int).toNat) % ((1 : Int) + (↑len : Int)) - (1 : Int) < (↑len :
    Int)) ∧ addO true (0 : Nat) (seenInt IntKind.u8 W (addOpt pa (↑y.k : Int).toNat) % ((1 : Int) + (↑len : Int)) - (1 : Int)).toNat < len ∧ (∀ (j : Nat), j < len → True) ∧ ((0 : Int) ≤
    seenInt IntKind.u8 W (addOpt pa (↑y.k : Int).toNat) % ((1 : Int) + (↑len : Int)) - (1 : Int) ∧ seenInt IntKind.u8 W (addOpt pa (↑y.k : Int).toNat) % ((1 : Int) + (↑len : Int)) - (1
    : Int) < (↑len : Int)) ∧ addO true (0 : Nat) (seenInt IntKind.u8 W (addOpt pa (↑y.k : Int).toNat) % ((1 : Int) + (↑len : Int)) - (1 : Int)).toNat < len ∧ (∀ (j : Nat), j < len →
    True) ∧ ((0 : Int) ≤ seenInt IntKind.u8 W (addOpt pa (↑y.k : Int).toNat) % ((1 : Int) + (↑len : Int)) - (1 : Int) ∧ seenInt IntKind.u8 W (addOpt pa (↑y.k : Int).toNat) % ((1 : Int)
    + (↑len : Int)) - (1 : Int) < (↑len : Int)) ∧ addO true (0 : Nat) (seenInt IntKind.u8 W (addOpt pa (↑y.k : Int).toNat) % ((1 : Int) + (↑len : Int)) - (1 : Int)).toNat = (seenInt
    IntKind.u8 W (addOpt pa (↑y.k : Int).toNat) % ((1 : Int) + (↑len : Int)) - (1 : Int)).toNat ∧ CntOk (enterC (hsF (segG (seenInt IntKind.u8 W (addOpt a (seenInt IntKind.u8 W (addOpt
    pa (↑y.k : Int).toNat) % ((1 : Int) + (↑len : Int)) - (1 : Int)).toNat) % (15 : Int)).toNat)) (seenInt IntKind.u8 W (addOpt a (seenInt IntKind.u8 W (addOpt pa (↑y.k : Int).toNat) %
    ((1 : Int) + (↑len : Int)) - (1 : Int)).toNat) % (15 : Int))) y.A ∧ (len = len ∧ (seenInt IntKind.u8 W (addOpt pa (↑y.k : Int).toNat) % ((1 : Int) + (↑len : Int)) - (1 : Int)).toNat
    = (seenInt IntKind.u8 W (addOpt pa (↑y.k : Int).toNat) % ((1 : Int) + (↑len : Int)) - (1 : Int)).toNat ∧ g = g) ∧ ((-9223372036854775808 : Int) ≤ (↑y.k : Int) + (1 : Int) ∧ (↑y.k :
    Int) + (1 : Int) ≤ (9223372036854775807 : Int)) ∧ ∃ (y' : C1 W a len plen), plen - y'.k < plen - y.k ∧ a = a ∧ len = len ∧ cap = cap ∧ pa = pa ∧ plen = plen ∧ pcap = pcap ∧ (↑plen :
    Int) = (↑plen : Int) ∧ W = W ∧ (↑y'.k : Int) = (↑y.k : Int) + (1 : Int) ∧ (0 : Nat) = (0 : Nat) ∧ y'.cap = y.cap ∧ (0 : Nat) = (0 : Nat) ∧ len = len ∧ len = len ∧ (0 : Nat) = (0 :
    Nat) ∧ len = len ∧ len = len ∧ (0 : Nat) = (0 : Nat) ∧ len = len ∧ len = len ∧ (0 : Nat) = (0 : Nat) ∧ len = len ∧ len = len ∧ (↑y'.r0 : Int) = (↑y.r0 : Int) ∧ y'.A = stepA (enterC
    (hsF (segG (seenInt IntKind.u8 W (addOpt a (seenInt IntKind.u8 W (addOpt pa (↑y.k : Int).toNat) % ((1 : Int) + (↑len : Int)) - (1 : Int)).toNat) % (15 : Int)).toNat)) (seenInt
    IntKind.u8 W (addOpt a (seenInt IntKind.u8 W (addOpt pa (↑y.k : Int).toNat) % ((1 : Int) + (↑len : Int)) - (1 : Int)).toNat) % (15 : Int))) y.A ∧ ((4 : Nat) = (4 : Nat) ∧ y'.cap =
    y.cap ∧ ∀ (i : Nat), i < (4 : Nat) → hsF i = hsF i) ∧ y'.x = y.x ∧ (len = len ∧ len = len ∧ y'.c = fun (j : Nat) => if j = (seenInt IntKind.u8 W (addOpt pa (↑y.k : Int).toNat) % ((1
    : Int) + (↑len : Int)) - (1 : Int)).toNat then some (stepC (enterC (hsF (segG (seenInt IntKind.u8 W (addOpt a (seenInt IntKind.u8 W (addOpt pa (↑y.k : Int).toNat) % ((1 : Int) +
    (↑len : Int)) - (1 : Int)).toNat) % (15 : Int)).toNat)) (seenInt IntKind.u8 W (addOpt a (seenInt IntKind.u8 W (addOpt pa (↑y.k : Int).toNat) % ((1 : Int) + (↑len : Int)) - (1 :
    Int)).toNat) % (15 : Int)))) else y.c j) ∧ (len = len ∧ len = len ∧ ∀ (i : Nat), i < len → [Value.bool (y'.f i)] = [Value.bool (if i = addO true (0 : Nat) (seenInt IntKind.u8 W
    (addOpt pa (↑y.k : Int).toNat) % ((1 : Int) + (↑len : Int)) - (1 : Int)).toNat then !y.f (addO true (0 : Nat) (seenInt IntKind.u8 W (addOpt pa (↑y.k : Int).toNat) % ((1 : Int) +
    (↑len : Int)) - (1 : Int)).toNat) else booOfV ([Value.bool (y.f i)].getD (0 : Nat) undef))]) ∧ (len = len ∧ len = len ∧ ∀ (i : Nat), i < len → [Value.bool (y'.alw i)] = [Value.bool
    (if i = addO true (0 : Nat) (seenInt IntKind.u8 W (addOpt pa (↑y.k : Int).toNat) % ((1 : Int) + (↑len : Int)) - (1 : Int)).toNat then false else booOfV ([Value.bool (y.alw i)].getD
    (0 : Nat) undef))]) ∧ (len = len ∧ len = len ∧ ∀ (i : Nat), i < len → [Value.bool (y'.som i)] = [Value.bool (if i = addO true (0 : Nat) (seenInt IntKind.u8 W (addOpt pa (↑y.k :
    Int).toNat) % ((1 : Int) + (↑len : Int)) - (1 : Int)).toNat then true else booOfV ([Value.bool (y.som i)].getD (0 : Nat) undef))]) ∧ True)) ∧ (isDone y_1 = false → ((0 : Int) ≤
    seenInt IntKind.u8 W (addOpt pa (↑y.k : Int).toNat) % ((1 : Int) + (↑len : Int)) - (1 : Int) ∧ seenInt IntKind.u8 W (addOpt pa (↑y.k : Int).toNat) % ((1 : Int) + (↑len : Int)) - (1
    : Int) < (↑len : Int)) ∧ addO true (0 : Nat) (seenInt IntKind.u8 W (addOpt pa (↑y.k : Int).toNat) % ((1 : Int) + (↑len : Int)) - (1 : Int)).toNat < len ∧ (∀ (j : Nat), j < len →
    True) ∧ ((0 : Int) ≤ seenInt IntKind.u8 W (addOpt pa (↑y.k : Int).toNat) % ((1 : Int) + (↑len : Int)) - (1 : Int) ∧ seenInt IntKind.u8 W (addOpt pa (↑y.k : Int).toNat) % ((1 : Int)
    + (↑len : Int)) - (1 : Int) < (↑len : Int)) ∧ addO true (0 : Nat) (seenInt IntKind.u8 W (addOpt pa (↑y.k : Int).toNat) % ((1 : Int) + (↑len : Int)) - (1 : Int)).toNat < len ∧ (∀ (j
    : Nat), j < len → True) ∧ ((0 : Int) ≤ seenInt IntKind.u8 W (addOpt pa (↑y.k : Int).toNat) % ((1 : Int) + (↑len : Int)) - (1 : Int) ∧ seenInt IntKind.u8 W (addOpt pa (↑y.k :
    Int).toNat) % ((1 : Int) + (↑len : Int)) - (1 : Int) < (↑len : Int)) ∧ addO true (0 : Nat) (seenInt IntKind.u8 W (addOpt pa (↑y.k : Int).toNat) % ((1 : Int) + (↑len : Int)) - (1 :
    Int)).toNat = (seenInt IntKind.u8 W (addOpt pa (↑y.k : Int).toNat) % ((1 : Int) + (↑len : Int)) - (1 : Int)).toNat ∧ CntOk y_1 y.A ∧ (len = len ∧ (seenInt IntKind.u8 W (addOpt pa
    (↑y.k : Int).toNat) % ((1 : Int) + (↑len : Int)) - (1 : Int)).toNat = (seenInt IntKind.u8 W (addOpt pa (↑y.k : Int).toNat) % ((1 : Int) + (↑len : Int)) - (1 : Int)).toNat ∧ g = g) ∧
    ((-9223372036854775808 : Int) ≤ (↑y.k : Int) + (1 : Int) ∧ (↑y.k : Int) + (1 : Int) ≤ (9223372036854775807 : Int)) ∧ ∃ (y' : C1 W a len plen), plen - y'.k < plen - y.k ∧ a = a ∧ len
    = len ∧ cap = cap ∧ pa = pa ∧ plen = plen ∧ pcap = pcap ∧ (↑plen : Int) = (↑plen : Int) ∧ W = W ∧ (↑y'.k : Int) = (↑y.k : Int) + (1 : Int) ∧ (0 : Nat) = (0 : Nat) ∧ y'.cap = y.cap ∧
    (0 : Nat) = (0 : Nat) ∧ len = len ∧ len = len ∧ (0 : Nat) = (0 : Nat) ∧ len = len ∧ len = len ∧ (0 : Nat) = (0 : Nat) ∧ len = len ∧ len = len ∧ (0 : Nat) = (0 : Nat) ∧ len = len ∧
    len = len ∧ (↑y'.r0 : Int) = (↑y.r0 : Int) ∧ y'.A = stepA y_1 y.A ∧ ((4 : Nat) = (4 : Nat) ∧ y'.cap = y.cap ∧ ∀ (i : Nat), i < (4 : Nat) → hsF i = hsF i) ∧ y'.x = y.x ∧ (len = len ∧
    len = len ∧ y'.c = fun (j : Nat) => if j = (seenInt IntKind.u8 W (addOpt pa (↑y.k : Int).toNat) % ((1 : Int) + (↑len : Int)) - (1 : Int)).toNat then some (stepC y_1) else y.c j) ∧
    (len = len ∧ len = len ∧ ∀ (i : Nat), i < len → [Value.bool (y'.f i)] = [Value.bool (y.f i)]) ∧ (len = len ∧ len = len ∧ ∀ (i : Nat), i < len → [Value.bool (y'.alw i)] = [Value.bool
    (if i = addO true (0 : Nat) (seenInt IntKind.u8 W (addOpt pa (↑y.k : Int).toNat) % ((1 : Int) + (↑len : Int)) - (1 : Int)).toNat then false else booOfV ([Value.bool (y.alw i)].getD
    (0 : Nat) undef))]) ∧ (len = len ∧ len = len ∧ ∀ (i : Nat), i < len → [Value.bool (y'.som i)] = [Value.bool (if i = addO true (0 : Nat) (seenInt IntKind.u8 W (addOpt pa (↑y.k :
    Int).toNat) % ((1 : Int) + (↑len : Int)) - (1 : Int)).toNat then true else booOfV ([Value.bool (y.som i)].getD (0 : Nat) undef))]) ∧ True))) ∧ (decide ((↑y.k : Int) < (↑plen : Int))
    = false → y.x.ph.le (2 : Nat) ∧ ((!colDone y.x) = true → true = true ∧ some W = some W) ∧ ((!colDone y.x) = false → ((-9223372036854775808 : Int) ≤ tlyZ y.A.t (2 : Nat) - (↑y.r0 :
    Int) ∧ tlyZ y.A.t (2 : Nat) - (↑y.r0 : Int) ≤ (9223372036854775807 : Int)) ∧ (∃ (alw : Nat → Bool), ∃ (som : Nat → Bool), ∃ (reads : Nat), ((y.cap = y.cap ∧ ∀ (i : Nat), i < (4 :
    Nat) → hsF i = hsF i) ∧ (len = len ∧ len = len ∧ len = len ∧ len = len) ∧ len = len ∧ len = len ∧ len = len ∧ len = len) ∧ (∀ (j : Nat), j < len → [Value.bool (y.alw j)] =
    [Value.bool (alw j)]) ∧ (∀ (j : Nat), j < len → [Value.bool (y.som j)] = [Value.bool (som j)]) ∧ tlyZ y.A.t (2 : Nat) - (↑y.r0 : Int) = (↑reads : Int) ∧ FoundOk W a len y.x alw som
    reads) ∧ true = true ∧ some W = some W))) ∧ True) ∧ (∀ (K : KO XD), (fun X0 : Prop => (↑len : Int) = (↑len : Int) ∧ (0 : Int) ≤ (↑len : Int) ∧ (1 : Int) * (↑len : Int) ≤
    (281474976710656 : Int) ∧ (↑len : Int) ≤ (1000000000 : Int) ∧ ((↑len : Int) = (↑len : Int) ∧ (0 : Int) ≤ (↑len : Int) ∧ (1 : Int) * (↑len : Int) ≤ (281474976710656 : Int) ∧ (↑len :
    Int) ≤ (1000000000 : Int) ∧ X0) ∧ True → (↑len : Int) = (↑len : Int) ∧ (0 : Int) ≤ (↑len : Int) ∧ (1 : Int) * (↑len : Int) ≤ (281474976710656 : Int) ∧ (↑len : Int) ≤ (1000000000 :
    Int) ∧ ((↑len : Int) = (↑len : Int) ∧ (0 : Int) ≤ (↑len : Int) ∧ (1 : Int) * (↑len : Int) ≤ (281474976710656 : Int) ∧ (↑len : Int) ≤ (1000000000 : Int) ∧ X0) ∧ True) (K (SF.mk (189
    : Nat) (nv (SV.c (SC.sliv a false len cap)) (nv (SV.c (SC.sliv pa false plen pcap)) (nr ρ 3 (nv (SV.c (SC.sli (28 : Nat) (1 : Nat) true (0 : Nat) true (4 : Nat) y.cap)) (rt ρ 189 15
    16) (nr ρ 23 (nv (SV.c (SC.int false IntKind.i64 (↑len : Int))) (rt ρ 189 71 64) (rt ρ 189 103 64)) (rt ρ 189 55 32))) (nv (SV.c (SC.sli (64 : Nat) (1 : Nat) true (0 : Nat) false
    (↑len : Int).toNat (↑len : Int).toNat)) (rt ρ 189 19 16) (nr ρ 27 (nv (SV.c (SC.sli (64 : Nat) (1 : Nat) true (0 : Nat) false (↑len : Int).toNat (↑len : Int).toNat)) (rt ρ 189 75
    64) (rt ρ 189 107 64)) (rt ρ 189 59 32)))) (np 27 0 (nv (SV.c (SC.sli (30 : Nat) (1 : Nat) true (0 : Nat) false len len)) (rt ρ 189 17 16) (nr ρ 25 (nv (SV.c (SC.sliv a false len
    cap)) (rt ρ 189 73 64) (rt ρ 189 105 64)) (rt ρ 189 57 32))) (nr ρ 13 (rt ρ 189 21 16) (nr ρ 29 (nv (SV.c (SC.int false IntKind.i64 (↑len : Int))) (rt ρ 189 77 64) (rt ρ 189 109
    64)) (rt ρ 189 61 32))))) (nr ρ 2 (nr ρ 4 (np 29 0 (rt ρ 189 16 16) (nr ρ 24 (nv (SV.c (SC.sli (61 : Nat) (1 : Nat) true (0 : Nat) false (↑len : Int).toNat (↑len : Int).toNat)) (rt
    ρ 189 72 64) (rt ρ 189 104 64)) (rt ρ 189 56 32))) (nv (SV.c (SC.sli (67 : Nat) (1 : Nat) true (0 : Nat) false (↑len : Int).toNat (↑len : Int).toNat)) (rt ρ 189 20 16) (nr ρ 28 (nv
    (SV.c (SC.sliv a false len cap)) (rt ρ 189 76 64) (rt ρ 189 108 64)) (rt ρ 189 60 32)))) (nr ρ 6 (nv (SV.c (SC.sli (61 : Nat) (1 : Nat) true (0 : Nat) false (↑len : Int).toNat (↑len
    : Int).toNat)) (rt ρ 189 18 16) (nr ρ 26 (nv (SV.c (SC.int false IntKind.i64 (↑len : Int))) (rt ρ 189 74 64) (rt ρ 189 106 64)) (rt ρ 189 58 32))) (nr ρ 14 (nr ρ 22 (nv (SV.c
    (SC.sliv a false len cap)) (rt ρ 189 70 64) (rt ρ 189 102 64)) (rt ρ 189 54 32)) (nr ρ 30 (nv (SV.c (SC.sli (67 : Nat) (1 : Nat) true (0 : Nat) false (↑len : Int).toNat (↑len :
    Int).toNat)) (rt ρ 189 78 64) (rt ρ 189 110 64)) (rt ρ 189 62 32)))))) []) (Mem.mk [((27 : Nat), SO.ext (HO.old (E := XC) (H := cntHg (xInHid colH)) (HO.old (E := XE) (H := colH)
    (XO.ar y.A)))), ((28 : Nat), SO.ints (OfNat.ofNat (25 : Nat)) IntKind.u64 (4 : Nat) y.cap hsF), ((29 : Nat), SO.ext (HO.old (E := XC) (H := cntHg (xInHid colH)) (HO.obj (E := XE) (H
    := colH) [(27 : Nat)] col0))), ((30 : Nat), SO.vals (OfNat.ofNat (41 : Nat)) (1 : Nat) len len fun (x : Nat) => [Value.pointer none]), ((0 : Nat), SO.seen W), ((61 : Nat), SO.vals
    (4 : Nat) (1 : Nat) (↑len : Int).toNat (↑len : Int).toNat fun (x : Nat) => (Value.bool false).cells.toList), ((64 : Nat), SO.vals (4 : Nat) (1 : Nat) (↑len : Int).toNat (↑len :
    Int).toNat fun (x : Nat) => (Value.bool false).cells.toList), ((67 : Nat), SO.vals (4 : Nat) (1 : Nat) (↑len : Int).toNat (↑len : Int).toNat fun (x : Nat) => (Value.bool
    false).cells.toList)] (59 : Nat)) (Scr.ghost (9 : Nat) (nilsG (9 : Nat) [(5 : Nat)]) (Scr.inv (liveL [(0 : Nat), (5 : Nat), (7 : Nat), (8 : Nat), (9 : Nat), (10 : Nat), (11 : Nat),
    (12 : Nat), (13 : Nat), (50 : Nat), (51 : Nat), (52 : Nat)]) allN (C1 W a len plen) iC1 (fun (y : C1 W a len plen) => plen - y.k) fun (y : C1 W a len plen) => (((Scr.inv (liveL [(0
    : Nat), (5 : Nat), (7 : Nat), (8 : Nat), (9 : Nat), (10 : Nat), (11 : Nat), (12 : Nat), (13 : Nat), (50 : Nat), (51 : Nat), (52 : Nat), (83 : Nat), (84 : Nat), (85 : Nat)]) allN (C2
    y) (iC2 y y.A y.A.t.reads) (fun (z : C2 y) => len - z.j) fun (x : C2 y) => (Scr.ghost (22 : Nat) (focusG (9 : Nat) (17 : Nat)) (Scr.ghost (23 : Nat) (foldG (9 : Nat)) Scr.nil)).both
    Scr.nil).f.both Scr.nil).both (Scr.ghost (26 : Nat) (focusG (9 : Nat) (16 : Nat)) (Scr.ghost (33 : Nat) (foldG (9 : Nat)) Scr.nil))).both Scr.nil)))) ∧ True) ∧ (∀ (K : KO XD), (fun
    X0 : Prop => (↑len : Int) = (↑len : Int) ∧ (0 : Int) ≤ (↑len : Int) ∧ (1 : Int) * (↑len : Int) ≤ (281474976710656 : Int) ∧ (↑len : Int) ≤ (1000000000 : Int) ∧ ((↑len : Int) = (↑len
    : Int) ∧ (0 : Int) ≤ (↑len : Int) ∧ (1 : Int) * (↑len : Int) ≤ (281474976710656 : Int) ∧ (↑len : Int) ≤ (1000000000 : Int) ∧ ((↑len : Int) = (↑len : Int) ∧ (0 : Int) ≤ (↑len : Int)
    ∧ (1 : Int) * (↑len : Int) ≤ (281474976710656 : Int) ∧ (↑len : Int) ≤ (1000000000 : Int) ∧ X0) ∧ True) ∧ (∀ (K : KO XD), (fun X1 : Prop => (↑len : Int) = (↑len : Int) ∧ (0 : Int) ≤
    (↑len : Int) ∧ (1 : Int) * (↑len : Int) ≤ (281474976710656 : Int) ∧ (↑len : Int) ≤ (1000000000 : Int) ∧ ((↑len : Int) = (↑len : Int) ∧ (0 : Int) ≤ (↑len : Int) ∧ (1 : Int) * (↑len :
    Int) ≤ (281474976710656 : Int) ∧ (↑len : Int) ≤ (1000000000 : Int) ∧ X1) ∧ True → (↑len : Int) = (↑len : Int) ∧ (0 : Int) ≤ (↑len : Int) ∧ (1 : Int) * (↑len : Int) ≤
    (281474976710656 : Int) ∧ (↑len : Int) ≤ (1000000000 : Int) ∧ ((↑len : Int) = (↑len : Int) ∧ (0 : Int) ≤ (↑len : Int) ∧ (1 : Int) * (↑len : Int) ≤ (281474976710656 : Int) ∧ (↑len :
    Int) ≤ (1000000000 : Int) ∧ X1) ∧ True) (K (SF.mk (189 : Nat) (nv (SV.c (SC.sliv a false len cap)) (nv (SV.c (SC.sliv pa false plen pcap)) (nr ρ 3 (nv (SV.c (SC.sli (28 : Nat) (1 :
    Nat) true (0 : Nat) true (4 : Nat) y.cap)) (rt ρ 189 15 16) (nr ρ 23 (nv (SV.c (SC.int false IntKind.i64 (↑len : Int))) (rt ρ 189 71 64) (rt ρ 189 103 64)) (rt ρ 189 55 32))) (nv
    (SV.c (SC.sli (64 : Nat) (1 : Nat) true (0 : Nat) false (↑len : Int).toNat (↑len : Int).toNat)) (rt ρ 189 19 16) (nr ρ 27 (nv (SV.c (SC.sli (64 : Nat) (1 : Nat) true (0 : Nat) false
    (↑len : Int).toNat (↑len : Int).toNat)) (rt ρ 189 75 64) (rt ρ 189 107 64)) (rt ρ 189 59 32)))) (np 27 0 (nv (SV.c (SC.sli (30 : Nat) (1 : Nat) true (0 : Nat) false len len)) (rt ρ
    189 17 16) (nr ρ 25 (nv (SV.c (SC.sliv a false len cap)) (rt ρ 189 73 64) (rt ρ 189 105 64)) (rt ρ 189 57 32))) (nr ρ 13 (rt ρ 189 21 16) (nr ρ 29 (nv (SV.c (SC.int false
    IntKind.i64 (↑len : Int))) (rt ρ 189 77 64) (rt ρ 189 109 64)) (rt ρ 189 61 32))))) (nr ρ 2 (nr ρ 4 (np 29 0 (rt ρ 189 16 16) (nr ρ 24 (nv (SV.c (SC.sli (61 : Nat) (1 : Nat) true (0
    : Nat) false (↑len : Int).toNat (↑len : Int).toNat)) (rt ρ 189 72 64) (rt ρ 189 104 64)) (rt ρ 189 56 32))) (nv (SV.c (SC.sli (67 : Nat) (1 : Nat) true (0 : Nat) false (↑len :
    Int).toNat (↑len : Int).toNat)) (rt ρ 189 20 16) (nr ρ 28 (nv (SV.c (SC.sliv a false len cap)) (rt ρ 189 76 64) (rt ρ 189 108 64)) (rt ρ 189 60 32)))) (nr ρ 6 (nv (SV.c (SC.sli (61
    : Nat) (1 : Nat) true (0 : Nat) false (↑len : Int).toNat (↑len : Int).toNat)) (rt ρ 189 18 16) (nr ρ 26 (nv (SV.c (SC.int false IntKind.i64 (↑len : Int))) (rt ρ 189 74 64) (rt ρ 189
    106 64)) (rt ρ 189 58 32))) (nr ρ 14 (nr ρ 22 (nv (SV.c (SC.sliv a false len cap)) (rt ρ 189 70 64) (rt ρ 189 102 64)) (rt ρ 189 54 32)) (nr ρ 30 (nv (SV.c (SC.sli (67 : Nat) (1 :
    Nat) true (0 : Nat) false (↑len : Int).toNat (↑len : Int).toNat)) (rt ρ 189 78 64) (rt ρ 189 110 64)) (rt ρ 189 62 32)))))) []) (Mem.mk [((27 : Nat), SO.ext (HO.old (E := XC) (H :=
    cntHg (xInHid colH)) (HO.old (E := XE) (H := colH) (XO.ar y.A)))), ((28 : Nat), SO.ints (OfNat.ofNat (25 : Nat)) IntKind.u64 (4 : Nat) y.cap hsF), ((29 : Nat), SO.ext (HO.old (E :=
    XC) (H := cntHg (xInHid colH)) (HO.obj (E := XE) (H := colH) [(27 : Nat)] col0))), ((30 : Nat), SO.vals (OfNat.ofNat (41 : Nat)) (1 : Nat) len len fun (x : Nat) => [Value.pointer
    none]), ((0 : Nat), SO.seen W), ((61 : Nat), SO.vals (4 : Nat) (1 : Nat) (↑len : Int).toNat (↑len : Int).toNat fun (x : Nat) => (Value.bool false).cells.toList), ((64 : Nat),
    SO.vals (4 : Nat) (1 : Nat) (↑len : Int).toNat (↑len : Int).toNat fun (x : Nat) => (Value.bool false).cells.toList), ((67 : Nat), SO.vals (4 : Nat) (1 : Nat) (↑len : Int).toNat
    (↑len : Int).toNat fun (x : Nat) => (Value.bool false).cells.toList)] (59 : Nat)) (Scr.ghost (9 : Nat) (nilsG (9 : Nat) [(5 : Nat)]) (Scr.inv (liveL [(0 : Nat), (5 : Nat), (7 :
    Nat), (8 : Nat), (9 : Nat), (10 : Nat), (11 : Nat), (12 : Nat), (13 : Nat), (50 : Nat), (51 : Nat), (52 : Nat)]) allN (C1 W a len plen) iC1 (fun (y : C1 W a len plen) => plen - y.k)
    fun (y : C1 W a len plen) => (((Scr.inv (liveL [(0 : Nat), (5 : Nat), (7 : Nat), (8 : Nat), (9 : Nat), (10 : Nat), (11 : Nat), (12 : Nat), (13 : Nat), (50 : Nat), (51 : Nat), (52 :
    Nat), (83 : Nat), (84 : Nat), (85 : Nat)]) allN (C2 y) (iC2 y y.A y.A.t.reads) (fun (z : C2 y) => len - z.j) fun (x : C2 y) => (Scr.ghost (22 : Nat) (focusG (9 : Nat) (17 : Nat))
    (Scr.ghost (23 : Nat) (foldG (9 : Nat)) Scr.nil)).both Scr.nil).f.both Scr.nil).both (Scr.ghost (26 : Nat) (focusG (9 : Nat) (16 : Nat)) (Scr.ghost (33 : Nat) (foldG (9 : Nat))
    Scr.nil))).both Scr.nil)))) ∧ True → (↑len : Int) = (↑len : Int) ∧ (0 : Int) ≤ (↑len : Int) ∧ (1 : Int) * (↑len : Int) ≤ (281474976710656 : Int) ∧ (↑len : Int) ≤ (1000000000 : Int)
    ∧ ((↑len : Int) = (↑len : Int) ∧ (0 : Int) ≤ (↑len : Int) ∧ (1 : Int) * (↑len : Int) ≤ (281474976710656 : Int) ∧ (↑len : Int) ≤ (1000000000 : Int) ∧ ((↑len : Int) = (↑len : Int) ∧
    (0 : Int) ≤ (↑len : Int) ∧ (1 : Int) * (↑len : Int) ≤ (281474976710656 : Int) ∧ (↑len : Int) ≤ (1000000000 : Int) ∧ X0) ∧ True) ∧ (∀ (K : KO XD), (fun X1 : Prop => (↑len : Int) =
    (↑len : Int) ∧ (0 : Int) ≤ (↑len : Int) ∧ (1 : Int) * (↑len : Int) ≤ (281474976710656 : Int) ∧ (↑len : Int) ≤ (1000000000 : Int) ∧ ((↑len : Int) = (↑len : Int) ∧ (0 : Int) ≤ (↑len :
    Int) ∧ (1 : Int) * (↑len : Int) ≤ (281474976710656 : Int) ∧ (↑len : Int) ≤ (1000000000 : Int) ∧ X1) ∧ True → (↑len : Int) = (↑len : Int) ∧ (0 : Int) ≤ (↑len : Int) ∧ (1 : Int) *
    (↑len : Int) ≤ (281474976710656 : Int) ∧ (↑len : Int) ≤ (1000000000 : Int) ∧ ((↑len : Int) = (↑len : Int) ∧ (0 : Int) ≤ (↑len : Int) ∧ (1 : Int) * (↑len : Int) ≤ (281474976710656 :
    Int) ∧ (↑len : Int) ≤ (1000000000 : Int) ∧ X1) ∧ True) (K (SF.mk (189 : Nat) (nv (SV.c (SC.sliv a false len cap)) (nv (SV.c (SC.sliv pa false plen pcap)) (nr ρ 3 (nv (SV.c (SC.sli
    (28 : Nat) (1 : Nat) true (0 : Nat) true (4 : Nat) y.cap)) (rt ρ 189 15 16) (nr ρ 23 (nv (SV.c (SC.int false IntKind.i64 (↑len : Int))) (rt ρ 189 71 64) (rt ρ 189 103 64)) (rt ρ 189
    55 32))) (nv (SV.c (SC.sli (64 : Nat) (1 : Nat) true (0 : Nat) false (↑len : Int).toNat (↑len : Int).toNat)) (rt ρ 189 19 16) (nr ρ 27 (nv (SV.c (SC.sli (64 : Nat) (1 : Nat) true (0
    : Nat) false (↑len : Int).toNat (↑len : Int).toNat)) (rt ρ 189 75 64) (rt ρ 189 107 64)) (rt ρ 189 59 32)))) (np 27 0 (nv (SV.c (SC.sli (30 : Nat) (1 : Nat) true (0 : Nat) false len
    len)) (rt ρ 189 17 16) (nr ρ 25 (nv (SV.c (SC.sliv a false len cap)) (rt ρ 189 73 64) (rt ρ 189 105 64)) (rt ρ 189 57 32))) (nr ρ 13 (rt ρ 189 21 16) (nr ρ 29 (nv (SV.c (SC.int
    false IntKind.i64 (↑len : Int))) (rt ρ 189 77 64) (rt ρ 189 109 64)) (rt ρ 189 61 32))))) (nr ρ 2 (nr ρ 4 (np 29 0 (rt ρ 189 16 16) (nr ρ 24 (nv (SV.c (SC.sli (61 : Nat) (1 : Nat)
    true (0 : Nat) false (↑len : Int).toNat (↑len : Int).toNat)) (rt ρ 189 72 64) (rt ρ 189 104 64)) (rt ρ 189 56 32))) (nv (SV.c (SC.sli (67 : Nat) (1 : Nat) true (0 : Nat) false (↑len
    : Int).toNat (↑len : Int).toNat)) (rt ρ 189 20 16) (nr ρ 28 (nv (SV.c (SC.sliv a false len cap)) (rt ρ 189 76 64) (rt ρ 189 108 64)) (rt ρ 189 60 32)))) (nr ρ 6 (nv (SV.c (SC.sli
    (61 : Nat) (1 : Nat) true (0 : Nat) false (↑len : Int).toNat (↑len : Int).toNat)) (rt ρ 189 18 16) (nr ρ 26 (nv (SV.c (SC.int false IntKind.i64 (↑len : Int))) (rt ρ 189 74 64) (rt ρ
    189 106 64)) (rt ρ 189 58 32))) (nr ρ 14 (nr ρ 22 (nv (SV.c (SC.sliv a false len cap)) (rt ρ 189 70 64) (rt ρ 189 102 64)) (rt ρ 189 54 32)) (nr ρ 30 (nv (SV.c (SC.sli (67 : Nat) (1
    : Nat) true (0 : Nat) false (↑len : Int).toNat (↑len : Int).toNat)) (rt ρ 189 78 64) (rt ρ 189 110 64)) (rt ρ 189 62 32)))))) []) (Mem.mk [((27 : Nat), SO.ext (HO.old (E := XC) (H
    := cntHg (xInHid colH)) (HO.old (E := XE) (H := colH) (XO.ar y.A)))), ((28 : Nat), SO.ints (OfNat.ofNat (25 : Nat)) IntKind.u64 (4 : Nat) y.cap hsF), ((29 : Nat), SO.ext (HO.old (E
    := XC) (H := cntHg (xInHid colH)) (HO.obj (E := XE) (H := colH) [(27 : Nat)] col0))), ((30 : Nat), SO.vals (OfNat.ofNat (41 : Nat)) (1 : Nat) len len fun (x : Nat) => [Value.pointer
    none]), ((0 : Nat), SO.seen W), ((61 : Nat), SO.vals (4 : Nat) (1 : Nat) (↑len : Int).toNat (↑len : Int).toNat fun (x : Nat) => (Value.bool false).cells.toList), ((64 : Nat),
    SO.vals (4 : Nat) (1 : Nat) (↑len : Int).toNat (↑len : Int).toNat fun (x : Nat) => (Value.bool false).cells.toList), ((67 : Nat), SO.vals (4 : Nat) (1 : Nat) (↑len : Int).toNat
    (↑len : Int).toNat fun (x : Nat) => (Value.bool false).cells.toList)] (59 : Nat)) (Scr.ghost (9 : Nat) (nilsG (9 : Nat) [(5 : Nat)]) (Scr.inv (liveL [(0 : Nat), (5 : Nat), (7 :
    Nat), (8 : Nat), (9 : Nat), (10 : Nat), (11 : Nat), (12 : Nat), (13 : Nat), (50 : Nat), (51 : Nat), (52 : Nat)]) allN (C1 W a len plen) iC1 (fun (y : C1 W a len plen) => plen - y.k)
    fun (y : C1 W a len plen) => (((Scr.inv (liveL [(0 : Nat), (5 : Nat), (7 : Nat), (8 : Nat), (9 : Nat), (10 : Nat), (11 : Nat), (12 : Nat), (13 : Nat), (50 : Nat), (51 : Nat), (52 :
    Nat), (83 : Nat), (84 : Nat), (85 : Nat)]) allN (C2 y) (iC2 y y.A y.A.t.reads) (fun (z : C2 y) => len - z.j) fun (x : C2 y) => (Scr.ghost (22 : Nat) (focusG (9 : Nat) (17 : Nat))
    (Scr.ghost (23 : Nat) (foldG (9 : Nat)) Scr.nil)).both Scr.nil).f.both Scr.nil).both (Scr.ghost (26 : Nat) (focusG (9 : Nat) (16 : Nat)) (Scr.ghost (33 : Nat) (foldG (9 : Nat))
    Scr.nil))).both Scr.nil)))) ∧ True) (K (SF.mk (189 : Nat) (nv (SV.c (SC.sliv a false len cap)) (nv (SV.c (SC.sliv pa false plen pcap)) (nr ρ 3 (nv (SV.c (SC.sli (28 : Nat) (1 : Nat)
    true (0 : Nat) true (4 : Nat) y.cap)) (rt ρ 189 15 16) (nr ρ 23 (nv (SV.c (SC.int false IntKind.i64 (↑len : Int))) (rt ρ 189 71 64) (rt ρ 189 103 64)) (rt ρ 189 55 32))) (nv (SV.c
    (SC.sli (64 : Nat) (1 : Nat) true (0 : Nat) false (↑len : Int).toNat (↑len : Int).toNat)) (rt ρ 189 19 16) (nr ρ 27 (nv (SV.c (SC.sli (64 : Nat) (1 : Nat) true (0 : Nat) false (↑len
    : Int).toNat (↑len : Int).toNat)) (rt ρ 189 75 64) (rt ρ 189 107 64)) (rt ρ 189 59 32)))) (np 27 0 (nv (SV.c (SC.sli (30 : Nat) (1 : Nat) true (0 : Nat) false len len)) (rt ρ 189 17
    16) (nr ρ 25 (nv (SV.c (SC.sliv a false len cap)) (rt ρ 189 73 64) (rt ρ 189 105 64)) (rt ρ 189 57 32))) (nr ρ 13 (rt ρ 189 21 16) (nr ρ 29 (nv (SV.c (SC.int false IntKind.i64 (↑len
    : Int))) (rt ρ 189 77 64) (rt ρ 189 109 64)) (rt ρ 189 61 32))))) (nr ρ 2 (nr ρ 4 (np 29 0 (rt ρ 189 16 16) (nr ρ 24 (nv (SV.c (SC.sli (61 : Nat) (1 : Nat) true (0 : Nat) false
    (↑len : Int).toNat (↑len : Int).toNat)) (rt ρ 189 72 64) (rt ρ 189 104 64)) (rt ρ 189 56 32))) (nv (SV.c (SC.sli (67 : Nat) (1 : Nat) true (0 : Nat) false (↑len : Int).toNat (↑len :
    Int).toNat)) (rt ρ 189 20 16) (nr ρ 28 (nv (SV.c (SC.sliv a false len cap)) (rt ρ 189 76 64) (rt ρ 189 108 64)) (rt ρ 189 60 32)))) (nr ρ 6 (nv (SV.c (SC.sli (61 : Nat) (1 : Nat)
    true (0 : Nat) false (↑len : Int).toNat (↑len : Int).toNat)) (rt ρ 189 18 16) (nr ρ 26 (nv (SV.c (SC.int false IntKind.i64 (↑len : Int))) (rt ρ 189 74 64) (rt ρ 189 106 64)) (rt ρ
    189 58 32))) (nr ρ 14 (nr ρ 22 (nv (SV.c (SC.sliv a false len cap)) (rt ρ 189 70 64) (rt ρ 189 102 64)) (rt ρ 189 54 32)) (nr ρ 30 (nv (SV.c (SC.sli (67 : Nat) (1 : Nat) true (0 :
    Nat) false (↑len : Int).toNat (↑len : Int).toNat)) (rt ρ 189 78 64) (rt ρ 189 110 64)) (rt ρ 189 62 32)))))) []) (Mem.mk [((27 : Nat), SO.ext (HO.old (E := XC) (H := cntHg (xInHid
    colH)) (HO.old (E := XE) (H := colH) (XO.ar y.A)))), ((28 : Nat), SO.ints (OfNat.ofNat (25 : Nat)) IntKind.u64 (4 : Nat) y.cap hsF), ((29 : Nat), SO.ext (HO.old (E := XC) (H :=
    cntHg (xInHid colH)) (HO.obj (E := XE) (H := colH) [(27 : Nat)] col0))), ((30 : Nat), SO.vals (OfNat.ofNat (41 : Nat)) (1 : Nat) len len fun (x : Nat) => [Value.pointer none]), ((0
    : Nat), SO.seen W), ((61 : Nat), SO.vals (4 : Nat) (1 : Nat) (↑len : Int).toNat (↑len : Int).toNat fun (x : Nat) => (Value.bool false).cells.toList), ((64 : Nat), SO.vals (4 : Nat)
    (1 : Nat) (↑len : Int).toNat (↑len : Int).toNat fun (x : Nat) => (Value.bool false).cells.toList), ((67 : Nat), SO.vals (4 : Nat) (1 : Nat) (↑len : Int).toNat (↑len : Int).toNat fun
    (x : Nat) => (Value.bool false).cells.toList)] (59 : Nat)) (Scr.ghost (9 : Nat) (nilsG (9 : Nat) [(5 : Nat)]) (Scr.inv (liveL [(0 : Nat), (5 : Nat), (7 : Nat), (8 : Nat), (9 : Nat),
    (10 : Nat), (11 : Nat), (12 : Nat), (13 : Nat), (50 : Nat), (51 : Nat), (52 : Nat)]) allN (C1 W a len plen) iC1 (fun (y : C1 W a len plen) => plen - y.k) fun (y : C1 W a len plen)
    => (((Scr.inv (liveL [(0 : Nat), (5 : Nat), (7 : Nat), (8 : Nat), (9 : Nat), (10 : Nat), (11 : Nat), (12 : Nat), (13 : Nat), (50 : Nat), (51 : Nat), (52 : Nat), (83 : Nat), (84 :
    Nat), (85 : Nat)]) allN (C2 y) (iC2 y y.A y.A.t.reads) (fun (z : C2 y) => len - z.j) fun (x : C2 y) => (Scr.ghost (22 : Nat) (focusG (9 : Nat) (17 : Nat)) (Scr.ghost (23 : Nat)
    (foldG (9 : Nat)) Scr.nil)).both Scr.nil).f.both Scr.nil).both (Scr.ghost (26 : Nat) (focusG (9 : Nat) (16 : Nat)) (Scr.ghost (33 : Nat) (foldG (9 : Nat)) Scr.nil))).both
    Scr.nil)))) ∧ (∀ (K : KO XD), (fun X0 : Prop => (↑len : Int) = (↑len : Int) ∧ (0 : Int) ≤ (↑len : Int) ∧ (1 : Int) * (↑len : Int) ≤ (281474976710656 : Int) ∧ (↑len : Int) ≤
    (1000000000 : Int) ∧ ((↑len : Int) = (↑len : Int) ∧ (0 : Int) ≤ (↑len : Int) ∧ (1 : Int) * (↑len : Int) ≤ (281474976710656 : Int) ∧ (↑len : Int) ≤ (1000000000 : Int) ∧ ((↑len : Int)
    = (↑len : Int) ∧ (0 : Int) ≤ (↑len : Int) ∧ (1 : Int) * (↑len : Int) ≤ (281474976710656 : Int) ∧ (↑len : Int) ≤ (1000000000 : Int) ∧ X0) ∧ True) ∧ (∀ (K : KO XD), (fun X1 : Prop =>
    (↑len : Int) = (↑len : Int) ∧ (0 : Int) ≤ (↑len : Int) ∧ (1 : Int) * (↑len : Int) ≤ (281474976710656 : Int) ∧ (↑len : Int) ≤ (1000000000 : Int) ∧ ((↑len : Int) = (↑len : Int) ∧ (0 :
    Int) ≤ (↑len : Int) ∧ (1 : Int) * (↑len : Int) ≤ (281474976710656 : Int) ∧ (↑len : Int) ≤ (1000000000 : Int) ∧ X1) ∧ True → (↑len : Int) = (↑len : Int) ∧ (0 : Int) ≤ (↑len : Int) ∧
    (1 : Int) * (↑len : Int) ≤ (281474976710656 : Int) ∧ (↑len : Int) ≤ (1000000000 : Int) ∧ ((↑len : Int) = (↑len : Int) ∧ (0 : Int) ≤ (↑len : Int) ∧ (1 : Int) * (↑len : Int) ≤
    (281474976710656 : Int) ∧ (↑len : Int) ≤ (1000000000 : Int) ∧ X1) ∧ True) (K (SF.mk (189 : Nat) (nv (SV.c (SC.sliv a false len cap)) (nv (SV.c (SC.sliv pa false plen pcap)) (nr ρ 3
    (nv (SV.c (SC.sli (28 : Nat) (1 : Nat) true (0 : Nat) true (4 : Nat) y.cap)) (rt ρ 189 15 16) (nr ρ 23 (nv (SV.c (SC.int false IntKind.i64 (↑len : Int))) (rt ρ 189 71 64) (rt ρ 189
    103 64)) (rt ρ 189 55 32))) (nv (SV.c (SC.sli (64 : Nat) (1 : Nat) true (0 : Nat) false (↑len : Int).toNat (↑len : Int).toNat)) (rt ρ 189 19 16) (nr ρ 27 (nv (SV.c (SC.sli (64 :
    Nat) (1 : Nat) true (0 : Nat) false (↑len : Int).toNat (↑len : Int).toNat)) (rt ρ 189 75 64) (rt ρ 189 107 64)) (rt ρ 189 59 32)))) (np 27 0 (nv (SV.c (SC.sli (30 : Nat) (1 : Nat)
    true (0 : Nat) false len len)) (rt ρ 189 17 16) (nr ρ 25 (nv (SV.c (SC.sliv a false len cap)) (rt ρ 189 73 64) (rt ρ 189 105 64)) (rt ρ 189 57 32))) (nr ρ 13 (rt ρ 189 21 16) (nr ρ
    29 (nv (SV.c (SC.int false IntKind.i64 (↑len : Int))) (rt ρ 189 77 64) (rt ρ 189 109 64)) (rt ρ 189 61 32))))) (nr ρ 2 (nr ρ 4 (np 29 0 (rt ρ 189 16 16) (nr ρ 24 (nv (SV.c (SC.sli
    (61 : Nat) (1 : Nat) true (0 : Nat) false (↑len : Int).toNat (↑len : Int).toNat)) (rt ρ 189 72 64) (rt ρ 189 104 64)) (rt ρ 189 56 32))) (nv (SV.c (SC.sli (67 : Nat) (1 : Nat) true
    (0 : Nat) false (↑len : Int).toNat (↑len : Int).toNat)) (rt ρ 189 20 16) (nr ρ 28 (nv (SV.c (SC.sliv a false len cap)) (rt ρ 189 76 64) (rt ρ 189 108 64)) (rt ρ 189 60 32)))) (nr ρ
    6 (nv (SV.c (SC.sli (61 : Nat) (1 : Nat) true (0 : Nat) false (↑len : Int).toNat (↑len : Int).toNat)) (rt ρ 189 18 16) (nr ρ 26 (nv (SV.c (SC.int false IntKind.i64 (↑len : Int)))
    (rt ρ 189 74 64) (rt ρ 189 106 64)) (rt ρ 189 58 32))) (nr ρ 14 (nr ρ 22 (nv (SV.c (SC.sliv a false len cap)) (rt ρ 189 70 64) (rt ρ 189 102 64)) (rt ρ 189 54 32)) (nr ρ 30 (nv
    (SV.c (SC.sli (67 : Nat) (1 : Nat) true (0 : Nat) false (↑len : Int).toNat (↑len : Int).toNat)) (rt ρ 189 78 64) (rt ρ 189 110 64)) (rt ρ 189 62 32)))))) []) (Mem.mk [((27 : Nat),
    SO.ext (HO.old (E := XC) (H := cntHg (xInHid colH)) (HO.old (E := XE) (H := colH) (XO.ar y.A)))), ((28 : Nat), SO.ints (OfNat.ofNat (25 : Nat)) IntKind.u64 (4 : Nat) y.cap hsF),
    ((29 : Nat), SO.ext (HO.old (E := XC) (H := cntHg (xInHid colH)) (HO.obj (E := XE) (H := colH) [(27 : Nat)] col0))), ((30 : Nat), SO.vals (OfNat.ofNat (41 : Nat)) (1 : Nat) len len
    fun (x : Nat) => [Value.pointer none]), ((0 : Nat), SO.seen W), ((61 : Nat), SO.vals (4 : Nat) (1 : Nat) (↑len : Int).toNat (↑len : Int).toNat fun (x : Nat) => (Value.bool
    false).cells.toList), ((64 : Nat), SO.vals (4 : Nat) (1 : Nat) (↑len : Int).toNat (↑len : Int).toNat fun (x : Nat) => (Value.bool false).cells.toList), ((67 : Nat), SO.vals (4 :
    Nat) (1 : Nat) (↑len : Int).toNat (↑len : Int).toNat fun (x : Nat) => (Value.bool false).cells.toList)] (59 : Nat)) (Scr.ghost (9 : Nat) (nilsG (9 : Nat) [(5 : Nat)]) (Scr.inv
    (liveL [(0 : Nat), (5 : Nat), (7 : Nat), (8 : Nat), (9 : Nat), (10 : Nat), (11 : Nat), (12 : Nat), (13 : Nat), (50 : Nat), (51 : Nat), (52 : Nat)]) allN (C1 W a len plen) iC1 (fun
    (y : C1 W a len plen) => plen - y.k) fun (y : C1 W a len plen) => (((Scr.inv (liveL [(0 : Nat), (5 : Nat), (7 : Nat), (8 : Nat), (9 : Nat), (10 : Nat), (11 : Nat), (12 : Nat), (13 :
    Nat), (50 : Nat), (51 : Nat), (52 : Nat), (83 : Nat), (84 : Nat), (85 : Nat)]) allN (C2 y) (iC2 y y.A y.A.t.reads) (fun (z : C2 y) => len - z.j) fun (x : C2 y) => (Scr.ghost (22 :
    Nat) (focusG (9 : Nat) (17 : Nat)) (Scr.ghost (23 : Nat) (foldG (9 : Nat)) Scr.nil)).both Scr.nil).f.both Scr.nil).both (Scr.ghost (26 : Nat) (focusG (9 : Nat) (16 : Nat))
    (Scr.ghost (33 : Nat) (foldG (9 : Nat)) Scr.nil))).both Scr.nil)))) ∧ True → (↑len : Int) = (↑len : Int) ∧ (0 : Int) ≤ (↑len : Int) ∧ (1 : Int) * (↑len : Int) ≤ (281474976710656 :
    Int) ∧ (↑len : Int) ≤ (1000000000 : Int) ∧ ((↑len : Int) = (↑len : Int) ∧ (0 : Int) ≤ (↑len : Int) ∧ (1 : Int) * (↑len : Int) ≤ (281474976710656 : Int) ∧ (↑len : Int) ≤ (1000000000
    : Int) ∧ ((↑len : Int) = (↑len : Int) ∧ (0 : Int) ≤ (↑len : Int) ∧ (1 : Int) * (↑len : Int) ≤ (281474976710656 : Int) ∧ (↑len : Int) ≤ (1000000000 : Int) ∧ X0) ∧ True) ∧ (∀ (K : KO
    XD), (fun X1 : Prop => (↑len : Int) = (↑len : Int) ∧ (0 : Int) ≤ (↑len : Int) ∧ (1 : Int) * (↑len : Int) ≤ (281474976710656 : Int) ∧ (↑len : Int) ≤ (1000000000 : Int) ∧ ((↑len :
    Int) = (↑len : Int) ∧ (0 : Int) ≤ (↑len : Int) ∧ (1 : Int) * (↑len : Int) ≤ (281474976710656 : Int) ∧ (↑len : Int) ≤ (1000000000 : Int) ∧ X1) ∧ True → (↑len : Int) = (↑len : Int) ∧
    (0 : Int) ≤ (↑len : Int) ∧ (1 : Int) * (↑len : Int) ≤ (281474976710656 : Int) ∧ (↑len : Int) ≤ (1000000000 : Int) ∧ ((↑len : Int) = (↑len : Int) ∧ (0 : Int) ≤ (↑len : Int) ∧ (1 :
    Int) * (↑len : Int) ≤ (281474976710656 : Int) ∧ (↑len : Int) ≤ (1000000000 : Int) ∧ X1) ∧ True) (K (SF.mk (189 : Nat) (nv (SV.c (SC.sliv a false len cap)) (nv (SV.c (SC.sliv pa
    false plen pcap)) (nr ρ 3 (nv (SV.c (SC.sli (28 : Nat) (1 : Nat) true (0 : Nat) true (4 : Nat) y.cap)) (rt ρ 189 15 16) (nr ρ 23 (nv (SV.c (SC.int false IntKind.i64 (↑len : Int)))
    (rt ρ 189 71 64) (rt ρ 189 103 64)) (rt ρ 189 55 32))) (nv (SV.c (SC.sli (64 : Nat) (1 : Nat) true (0 : Nat) false (↑len : Int).toNat (↑len : Int).toNat)) (rt ρ 189 19 16) (nr ρ 27
    (nv (SV.c (SC.sli (64 : Nat) (1 : Nat) true (0 : Nat) false (↑len : Int).toNat (↑len : Int).toNat)) (rt ρ 189 75 64) (rt ρ 189 107 64)) (rt ρ 189 59 32)))) (np 27 0 (nv (SV.c
    (SC.sli (30 : Nat) (1 : Nat) true (0 : Nat) false len len)) (rt ρ 189 17 16) (nr ρ 25 (nv (SV.c (SC.sliv a false len cap)) (rt ρ 189 73 64) (rt ρ 189 105 64)) (rt ρ 189 57 32))) (nr
    ρ 13 (rt ρ 189 21 16) (nr ρ 29 (nv (SV.c (SC.int false IntKind.i64 (↑len : Int))) (rt ρ 189 77 64) (rt ρ 189 109 64)) (rt ρ 189 61 32))))) (nr ρ 2 (nr ρ 4 (np 29 0 (rt ρ 189 16 16)
    (nr ρ 24 (nv (SV.c (SC.sli (61 : Nat) (1 : Nat) true (0 : Nat) false (↑len : Int).toNat (↑len : Int).toNat)) (rt ρ 189 72 64) (rt ρ 189 104 64)) (rt ρ 189 56 32))) (nv (SV.c (SC.sli
    (67 : Nat) (1 : Nat) true (0 : Nat) false (↑len : Int).toNat (↑len : Int).toNat)) (rt ρ 189 20 16) (nr ρ 28 (nv (SV.c (SC.sliv a false len cap)) (rt ρ 189 76 64) (rt ρ 189 108 64))
    (rt ρ 189 60 32)))) (nr ρ 6 (nv (SV.c (SC.sli (61 : Nat) (1 : Nat) true (0 : Nat) false (↑len : Int).toNat (↑len : Int).toNat)) (rt ρ 189 18 16) (nr ρ 26 (nv (SV.c (SC.int false
    IntKind.i64 (↑len : Int))) (rt ρ 189 74 64) (rt ρ 189 106 64)) (rt ρ 189 58 32))) (nr ρ 14 (nr ρ 22 (nv (SV.c (SC.sliv a false len cap)) (rt ρ 189 70 64) (rt ρ 189 102 64)) (rt ρ
    189 54 32)) (nr ρ 30 (nv (SV.c (SC.sli (67 : Nat) (1 : Nat) true (0 : Nat) false (↑len : Int).toNat (↑len : Int).toNat)) (rt ρ 189 78 64) (rt ρ 189 110 64)) (rt ρ 189 62 32))))))
    []) (Mem.mk [((27 : Nat), SO.ext (HO.old (E := XC) (H := cntHg (xInHid colH)) (HO.old (E := XE) (H := colH) (XO.ar y.A)))), ((28 : Nat), SO.ints (OfNat.ofNat (25 : Nat)) IntKind.u64
    (4 : Nat) y.cap hsF), ((29 : Nat), SO.ext (HO.old (E := XC) (H := cntHg (xInHid colH)) (HO.obj (E := XE) (H := colH) [(27 : Nat)] col0))), ((30 : Nat), SO.vals (OfNat.ofNat (41 :
    Nat)) (1 : Nat) len len fun (x : Nat) => [Value.pointer none]), ((0 : Nat), SO.seen W), ((61 : Nat), SO.vals (4 : Nat) (1 : Nat) (↑len : Int).toNat (↑len : Int).toNat fun (x : Nat)
    => (Value.bool false).cells.toList), ((64 : Nat), SO.vals (4 : Nat) (1 : Nat) (↑len : Int).toNat (↑len : Int).toNat fun (x : Nat) => (Value.bool false).cells.toList), ((67 : Nat),
    SO.vals (4 : Nat) (1 : Nat) (↑len : Int).toNat (↑len : Int).toNat fun (x : Nat) => (Value.bool false).cells.toList)] (59 : Nat)) (Scr.ghost (9 : Nat) (nilsG (9 : Nat) [(5 : Nat)])
    (Scr.inv (liveL [(0 : Nat), (5 : Nat), (7 : Nat), (8 : Nat), (9 : Nat), (10 : Nat), (11 : Nat), (12 : Nat), (13 : Nat), (50 : Nat), (51 : Nat), (52 : Nat)]) allN (C1 W a len plen)
    iC1 (fun (y : C1 W a len plen) => plen - y.k) fun (y : C1 W a len plen) => (((Scr.inv (liveL [(0 : Nat), (5 : Nat), (7 : Nat), (8 : Nat), (9 : Nat), (10 : Nat), (11 : Nat), (12 :
    Nat), (13 : Nat), (50 : Nat), (51 : Nat), (52 : Nat), (83 : Nat), (84 : Nat), (85 : Nat)]) allN (C2 y) (iC2 y y.A y.A.t.reads) (fun (z : C2 y) => len - z.j) fun (x : C2 y) =>
    (Scr.ghost (22 : Nat) (focusG (9 : Nat) (17 : Nat)) (Scr.ghost (23 : Nat) (foldG (9 : Nat)) Scr.nil)).both Scr.nil).f.both Scr.nil).both (Scr.ghost (26 : Nat) (focusG (9 : Nat) (16
    : Nat)) (Scr.ghost (33 : Nat) (foldG (9 : Nat)) Scr.nil))).both Scr.nil)))) ∧ True) (K (SF.mk (189 : Nat) (nv (SV.c (SC.sliv a false len cap)) (nv (SV.c (SC.sliv pa false plen
    pcap)) (nr ρ 3 (nv (SV.c (SC.sli (28 : Nat) (1 : Nat) true (0 : Nat) true (4 : Nat) y.cap)) (rt ρ 189 15 16) (nr ρ 23 (nv (SV.c (SC.int false IntKind.i64 (↑len : Int))) (rt ρ 189 71
    64) (rt ρ 189 103 64)) (rt ρ 189 55 32))) (nv (SV.c (SC.sli (64 : Nat) (1 : Nat) true (0 : Nat) false (↑len : Int).toNat (↑len : Int).toNat)) (rt ρ 189 19 16) (nr ρ 27 (nv (SV.c
    (SC.sli (64 : Nat) (1 : Nat) true (0 : Nat) false (↑len : Int).toNat (↑len : Int).toNat)) (rt ρ 189 75 64) (rt ρ 189 107 64)) (rt ρ 189 59 32)))) (np 27 0 (nv (SV.c (SC.sli (30 :
    Nat) (1 : Nat) true (0 : Nat) false len len)) (rt ρ 189 17 16) (nr ρ 25 (nv (SV.c (SC.sliv a false len cap)) (rt ρ 189 73 64) (rt ρ 189 105 64)) (rt ρ 189 57 32))) (nr ρ 13 (rt ρ
    189 21 16) (nr ρ 29 (nv (SV.c (SC.int false IntKind.i64 (↑len : Int))) (rt ρ 189 77 64) (rt ρ 189 109 64)) (rt ρ 189 61 32))))) (nr ρ 2 (nr ρ 4 (np 29 0 (rt ρ 189 16 16) (nr ρ 24
    (nv (SV.c (SC.sli (61 : Nat) (1 : Nat) true (0 : Nat) false (↑len : Int).toNat (↑len : Int).toNat)) (rt ρ 189 72 64) (rt ρ 189 104 64)) (rt ρ 189 56 32))) (nv (SV.c (SC.sli (67 :
    Nat) (1 : Nat) true (0 : Nat) false (↑len : Int).toNat (↑len : Int).toNat)) (rt ρ 189 20 16) (nr ρ 28 (nv (SV.c (SC.sliv a false len cap)) (rt ρ 189 76 64) (rt ρ 189 108 64)) (rt ρ
    189 60 32)))) (nr ρ 6 (nv (SV.c (SC.sli (61 : Nat) (1 : Nat) true (0 : Nat) false (↑len : Int).toNat (↑len : Int).toNat)) (rt ρ 189 18 16) (nr ρ 26 (nv (SV.c (SC.int false
    IntKind.i64 (↑len : Int))) (rt ρ 189 74 64) (rt ρ 189 106 64)) (rt ρ 189 58 32))) (nr ρ 14 (nr ρ 22 (nv (SV.c (SC.sliv a false len cap)) (rt ρ 189 70 64) (rt ρ 189 102 64)) (rt ρ
    189 54 32)) (nr ρ 30 (nv (SV.c (SC.sli (67 : Nat) (1 : Nat) true (0 : Nat) false (↑len : Int).toNat (↑len : Int).toNat)) (rt ρ 189 78 64) (rt ρ 189 110 64)) (rt ρ 189 62 32))))))
    []) (Mem.mk [((27 : Nat), SO.ext (HO.old (E := XC) (H := cntHg (xInHid colH)) (HO.old (E := XE) (H := colH) (XO.ar y.A)))), ((28 : Nat), SO.ints (OfNat.ofNat (25 : Nat)) IntKind.u64
    (4 : Nat) y.cap hsF), ((29 : Nat), SO.ext (HO.old (E := XC) (H := cntHg (xInHid colH)) (HO.obj (E := XE) (H := colH) [(27 : Nat)] col0))), ((30 : Nat), SO.vals (OfNat.ofNat (41 :
    Nat)) (1 : Nat) len len fun (x : Nat) => [Value.pointer none]), ((0 : Nat), SO.seen W), ((61 : Nat), SO.vals (4 : Nat) (1 : Nat) (↑len : Int).toNat (↑len : Int).toNat fun (x : Nat)
    => (Value.bool false).cells.toList), ((64 : Nat), SO.vals (4 : Nat) (1 : Nat) (↑len : Int).toNat (↑len : Int).toNat fun (x : Nat) => (Value.bool false).cells.toList), ((67 : Nat),
    SO.vals (4 : Nat) (1 : Nat) (↑len : Int).toNat (↑len : Int).toNat fun (x : Nat) => (Value.bool false).cells.toList)] (59 : Nat)) (Scr.ghost (9 : Nat) (nilsG (9 : Nat) [(5 : Nat)])
    (Scr.inv (liveL [(0 : Nat), (5 : Nat), (7 : Nat), (8 : Nat), (9 : Nat), (10 : Nat), (11 : Nat), (12 : Nat), (13 : Nat), (50 : Nat), (51 : Nat), (52 : Nat)]) allN (C1 W a len plen)
    iC1 (fun (y : C1 W a len plen) => plen - y.k) fun (y : C1 W a len plen) => (((Scr.inv (liveL [(0 : Nat), (5 : Nat), (7 : Nat), (8 : Nat), (9 : Nat), (10 : Nat), (11 : Nat), (12 :
    Nat), (13 : Nat), (50 : Nat), (51 : Nat), (52 : Nat), (83 : Nat), (84 : Nat), (85 : Nat)]) allN (C2 y) (iC2 y y.A y.A.t.reads) (fun (z : C2 y) => len - z.j) fun (x : C2 y) =>
    (Scr.ghost (22 : Nat) (focusG (9 : Nat) (17 : Nat)) (Scr.ghost (23 : Nat) (foldG (9 : Nat)) Scr.nil)).both Scr.nil).f.both Scr.nil).both (Scr.ghost (26 : Nat) (focusG (9 : Nat) (16
    : Nat)) (Scr.ghost (33 : Nat) (foldG (9 : Nat)) Scr.nil))).both Scr.nil)))) ∧ True))) := by
  kernel_rfl
theorem collectFinds_run (W : World) (a : Option Addr) (len cap : Nat) (pa : Option Addr) (plen pcap : Nat) (hc : (0 < len → a.isSome = true) ∧ (∀ j, j < len → Seen .u8 W (addOpt a j)) ∧ (0 < plen → pa.isSome = true) ∧ (∀ j, j < plen → Seen .u8 W (addOpt pa j))) : Run (callN Try.prog (tblCO : List (Smry Try.prog XD)) (fun _ _ => false) 100 20 3 [.c (.sliv a false len cap), .c (.sliv pa false plen pcap)] ⟨[(0, .seen W)], 1⟩ (scrC W a len plen) (fun v m _ => retSeen W v m)) := by
  constructor
  rw [collectFinds_vc]
  obtain ⟨hs, hx, hps, hpx⟩ := hc
  refine ⟨fun _ => ⟨rfl, rfl⟩, fun hl12 => ⟨fun _ => ⟨rfl, rfl⟩, fun hp400 => ?_⟩⟩
  have h12 : len ≤ 12 := by have := of_decide_eq_false hl12; omega
  have h400 : plen ≤ 400 := by have := of_decide_eq_false hp400; omega
  intro A cap1 z ad ln cp hA hcap
  have slE : ∀ i : Nat, (seenInt .u8 W (addOpt a i) % 15).toNat = slF W a i := fun _ => rfl
  have slB : ∀ i : Nat, 0 ≤ seenInt .u8 W (addOpt a i) % 15 ∧ seenInt .u8 W (addOpt a i) % 15 ≤ 14 ∧ seenInt .u8 W (addOpt a i) % 15 = (slF W a i : Nat) := fun i => by
    have h1 := Int.emod_lt_of_pos (seenInt .u8 W (addOpt a i)) (show (0 : Int) < 15 by omega)
    have h2 := Int.emod_nonneg (seenInt .u8 W (addOpt a i)) (show (15 : Int) ≠ 0 by omega)
    have h3 := slE i
    omega
  have sg4 : ∀ i : Nat, segG (slF W a i) < 4 := fun i => by have := segG_14 (slF_le W a i); omega
  have hs0 : ∀ g : Nat, 0 ≤ hsF g := fun g => Int.natCast_nonneg _
  have frE : ∀ i : Nat, enterC (hsF (segG (slF W a i))) (seenInt .u8 W (addOpt a i) % 15) = freshC (slF W a i) 1 := fun i => by
    unfold enterC freshC hsF
    rw [Int.toNat_natCast]
    rfl
  have frX : ∀ i : Nat, cntNew (hsF (segG (slF W a i))).toNat (slF W a i) 0 9 18446744073709551615 = freshC (slF W a i) fullB := fun i => by
    have := sg4 i
    unfold cntNew freshC hsF fullB
    rw [Int.toNat_natCast]
    congr 1 <;> omega
  have u8 : ∀ x, 0 ≤ seenInt .u8 W x ∧ seenInt .u8 W x ≤ 255 := fun x => seenInt_bd .u8 W x
  have tz : ∀ A : Ar, tlyZ A.t 2 = wr64 A.t.reads := fun _ => rfl
  simp only [Int.toNat_natCast, addO_eq, Nat.zero_add, tz]
  repeat' first
    | with_reducible apply And.intro
    | with_reducible exact trivial
    | with_reducible exact Eq.refl _
    | (refine fun (K : KO XD) => ?_; simp only [eq_self, true_and, and_true, imp_self, implies_true]; done)
    | (refine fun (K : KO XD) => ?_; simp only [eq_self, true_and, and_true, imp_self, implies_true]; exact id)
  all_goals try first
    | omega
    | exact fun _ _ => trivial
    | exact fun _ _ => rfl
  · exact ⟨⟨cap1, A, hcap, hA⟩, by repeat' first
        | with_reducible apply And.intro
        | with_reducible exact trivial
        | with_reducible exact Eq.refl _
        | exact fun _ _ => trivial
        | exact fun _ _ => rfl⟩
  · intro y ρ
    repeat' first
      | with_reducible apply And.intro
      | with_reducible exact trivial
      | with_reducible exact Eq.refl _
      | (refine fun (K : KO XD) => ?_; simp only [eq_self, true_and, and_true, imp_self, implies_true]; done)
      | (refine fun (K : KO XD) => ?_; simp only [eq_self, true_and, and_true, imp_self, implies_true]; exact id)
    all_goals try first
      | omega
      | exact fun _ _ => trivial
      | exact fun _ _ => rfl
    · obtain ⟨y', e1, e2, e3, e4, e5, e6, e7, e8, e9⟩ := C0.go (W := W) (a := a) (len := len) (plen := plen) y
      repeat' first
        | with_reducible apply And.intro
        | with_reducible exact trivial
        | with_reducible exact Eq.refl _
        | with_reducible assumption
        | (with_reducible refine Exists.intro y' ?_)
        | omega
        | exact hs0 _
        | exact hok2
        | exact hs (by omega)
        | exact (u8 _).1
        | exact (u8 _).2
        | exact hx _ hi2
        | (intro h; rw [hf] at h; cases h)
        | exact Or.inl ⟨trivial, by omega⟩
        | exact ec
        | exact e4
        | exact e5
        | exact e6
        | exact fun _ _ => trivial
        | exact fun _ _ => rfl
        | exact fun j hj => congrArg (fun b => [Value.bool b]) (e7 j hj)
        | exact fun j hj => congrArg (fun b => [Value.bool b]) (e8 j hj)
        | exact fun j hj => congrArg (fun b => [Value.bool b]) (e9 j hj)
    · clear y
      intro y ρ
      refine ⟨fun hlt => ?_, fun hge => ?_⟩
      · have hk : y.k < plen := by have := of_decide_eq_true hlt; omega
        have hr := y.reads h400
        repeat' first
          | with_reducible apply And.intro
          | with_reducible exact trivial
          | with_reducible exact Eq.refl _
          | (refine fun (K : KO XD) => ?_; simp only [eq_self, true_and, and_true, imp_self, implies_true]; done)
          | (refine fun (K : KO XD) => ?_; simp only [eq_self, true_and, and_true, imp_self, implies_true]; exact id)
        all_goals try first
          | omega
          | exact hps (by omega)
          | exact hpx _ hk
          | exact (u8 _).1
        · intro _
          refine ⟨y.hi.ph, fun hd => ?_, fun hd => ?_⟩
          · have hfd := y.found h12 h400 hs hx hd
            obtain ⟨fd1, fd2, fd3⟩ := hfd
            repeat' first
              | with_reducible apply And.intro
              | with_reducible exact trivial
              | with_reducible exact Eq.refl _
              | (refine fun (K : KO XD) => ?_; simp only [eq_self, true_and, and_true, imp_self, implies_true]; done)
              | (refine fun (K : KO XD) => ?_; simp only [eq_self, true_and, and_true, imp_self, implies_true]; exact id)
            all_goals try first
              | omega
              | exact fun _ _ => trivial
              | exact fun _ _ => rfl
            · exact ⟨y.alw, y.som, _, ⟨⟨trivial, fun _ _ => trivial⟩, ⟨trivial, trivial, trivial, trivial⟩, trivial, trivial, trivial, trivial⟩, fun _ _ => rfl, fun _ _ => rfl, fd2, fd3⟩
            · obtain ⟨y', e1, e8, e9⟩ := C2.zero y
              have e4 := e1
              have e5 := e1
              have e6 := e1
              have e7 := e8
              have hr' := hr.symm
              repeat' first
                | with_reducible apply And.intro
                | with_reducible exact trivial
                | with_reducible exact Eq.refl _
                | with_reducible assumption
                | (with_reducible refine Exists.intro y' ?_)
                | omega
                | exact hs0 _
                | exact hok2
                | exact hs (by omega)
                | exact (u8 _).1
                | exact (u8 _).2
                | exact hx _ hi2
                | (intro h; rw [hf] at h; cases h)
                | exact Or.inl ⟨trivial, by omega⟩
                | exact ec
                | exact e4
                | exact e5
                | exact e6
                | exact fun _ _ => trivial
                | exact fun _ _ => rfl
                | exact fun j hj => congrArg (fun b => [Value.bool b]) (e7 j hj)
                | exact fun j hj => congrArg (fun b => [Value.bool b]) (e8 j hj)
                | exact fun j hj => congrArg (fun b => [Value.bool b]) (e9 j hj)
            · intro z ρ
              refine ⟨fun hlt => ?_, fun hge => ?_⟩
              · have hj : z.j < len := by have := of_decide_eq_true hlt; omega
                refine ⟨⟨by omega, by omega⟩, fun g => ⟨fun hn => ?_, fun (st : Cnt) (hst : y.c z.j = some st) => ?_⟩⟩
                · have hf : y.f z.j = false := by rw [y.hf _ hj, hn]; rfl
                  have ec : y.c = fun q => if q = z.j then none else y.c q := by
                    funext q
                    by_cases e : q = z.j
                    · rw [if_pos e, e]; exact hn
                    · rw [if_neg e]
                  obtain ⟨y', e1, e2, e8, e9⟩ := z.next hj (u := false) (v := !true) (by rw [hn]; rfl) (by rw [hn]; rfl)
                  repeat' first
                    | with_reducible apply And.intro
                    | with_reducible exact trivial
                    | with_reducible exact Eq.refl _
                    | with_reducible assumption
                    | (with_reducible refine Exists.intro y' ?_)
                    | omega
                    | exact hs0 _
                    | exact hok2
                    | exact hs (by omega)
                    | exact (u8 _).1
                    | exact (u8 _).2
                    | exact hx _ hi2
                    | (intro h; rw [hf] at h; cases h)
                    | exact Or.inl ⟨trivial, by omega⟩
                    | exact ec
                    | exact e4
                    | exact e5
                    | exact e6
                    | exact fun _ _ => trivial
                    | exact fun _ _ => rfl
                    | exact fun j hj => congrArg (fun b => [Value.bool b]) (e7 j hj)
                    | exact fun j hj => congrArg (fun b => [Value.bool b]) (e8 j hj)
                    | exact fun j hj => congrArg (fun b => [Value.bool b]) (e9 j hj)
                · have ec : y.c = fun q => if q = z.j then some st else y.c q := by
                    funext q
                    by_cases e : q = z.j
                    · rw [if_pos e, e]; exact hst
                    · rw [if_neg e]
                  have hin := y.hf _ hj
                  rcases (by cases y.f z.j <;> simp : y.f z.j = true ∨ y.f z.j = false) with hf | hf
                  · rw [hf] at hin
                    obtain ⟨y', e1, e2, e8, e9⟩ := z.next hj (u := isDone st) (v := true) (by rw [← hin, hst]; rfl) (by rw [← hin]; rfl)
                    clear hin
                    repeat' first
                      | with_reducible apply And.intro
                      | with_reducible exact trivial
                      | with_reducible exact Eq.refl _
                      | with_reducible assumption
                      | (with_reducible refine Exists.intro y' ?_)
                      | omega
                      | exact hs0 _
                      | exact hok2
                      | exact hs (by omega)
                      | exact (u8 _).1
                      | exact (u8 _).2
                      | exact hx _ hi2
                      | (intro h; rw [hf] at h; cases h)
                      | exact Or.inl ⟨trivial, by omega⟩
                      | exact ec
                      | exact e4
                      | exact e5
                      | exact e6
                      | exact fun _ _ => trivial
                      | exact fun _ _ => rfl
                      | exact fun j hj => congrArg (fun b => [Value.bool b]) (e7 j hj)
                      | exact fun j hj => congrArg (fun b => [Value.bool b]) (e8 j hj)
                      | exact fun j hj => congrArg (fun b => [Value.bool b]) (e9 j hj)
                  · rw [hf] at hin
                    obtain ⟨y', e1, e2, e8, e9⟩ := z.next hj (u := false) (v := !isDone st) (by rw [← hin]; rfl) (by rw [← hin, hst]; rfl)
                    clear hin
                    repeat' first
                      | with_reducible apply And.intro
                      | with_reducible exact trivial
                      | with_reducible exact Eq.refl _
                      | with_reducible assumption
                      | (with_reducible refine Exists.intro y' ?_)
                      | omega
                      | exact hs0 _
                      | exact hok2
                      | exact hs (by omega)
                      | exact (u8 _).1
                      | exact (u8 _).2
                      | exact hx _ hi2
                      | (intro h; rw [hf] at h; cases h)
                      | exact Or.inl ⟨trivial, by omega⟩
                      | exact ec
                      | exact e4
                      | exact e5
                      | exact e6
                      | exact fun _ _ => trivial
                      | exact fun _ _ => rfl
                      | exact fun j hj => congrArg (fun b => [Value.bool b]) (e7 j hj)
                      | exact fun j hj => congrArg (fun b => [Value.bool b]) (e8 j hj)
                      | exact fun j hj => congrArg (fun b => [Value.bool b]) (e9 j hj)
              · have hj : len ≤ z.j := by have := of_decide_eq_false hge; omega
                obtain ⟨y', e1, e2, e3, e4, e5, e6, e0, e7, e8, e9⟩ := z.done hj hk
                repeat' first
                  | with_reducible apply And.intro
                  | with_reducible exact trivial
                  | with_reducible exact Eq.refl _
                  | with_reducible assumption
                  | (with_reducible refine Exists.intro y' ?_)
                  | omega
                  | exact hs0 _
                  | exact hok2
                  | exact hs (by omega)
                  | exact (u8 _).1
                  | exact (u8 _).2
                  | exact hx _ hi2
                  | (intro h; rw [hf] at h; cases h)
                  | exact Or.inl ⟨trivial, by omega⟩
                  | exact ec
                  | exact e4
                  | exact e5
                  | exact e6
                  | exact fun _ _ => trivial
                  | exact fun _ _ => rfl
                  | exact fun j hj => congrArg (fun b => [Value.bool b]) (e7 j hj)
                  | exact fun j hj => congrArg (fun b => [Value.bool b]) (e8 j hj)
                  | exact fun j hj => congrArg (fun b => [Value.bool b]) (e9 j hj)
          · obtain ⟨hok1, hok2⟩ := y.hi.okS y.h0
            obtain ⟨y', e1, e2, e3, e4, e5, e6, e0, e7, e8, e9⟩ := y.look hk
            repeat' first
              | with_reducible apply And.intro
              | with_reducible exact trivial
              | with_reducible exact Eq.refl _
              | with_reducible assumption
              | (with_reducible refine Exists.intro y' ?_)
              | omega
              | exact hs0 _
              | exact hok2
              | exact hs (by omega)
              | exact (u8 _).1
              | exact (u8 _).2
              | exact hx _ hi2
              | (intro h; rw [hf] at h; cases h)
              | exact Or.inl ⟨trivial, by omega⟩
              | exact ec
              | exact e4
              | exact e5
              | exact e6
              | exact fun _ _ => trivial
              | exact fun _ _ => rfl
              | exact fun j hj => congrArg (fun b => [Value.bool b]) (e7 j hj)
              | exact fun j hj => congrArg (fun b => [Value.bool b]) (e8 j hj)
              | exact fun j hj => congrArg (fun b => [Value.bool b]) (e9 j hj)
        · intro hne
          obtain ⟨i, hi1, hi2⟩ := slot_at len (u8 (addOpt pa y.k)).1 hne
          simp only [hi1, Int.toNat_natCast, slE]
          have hb := slB i
          have h4 := sg4 i
          refine ⟨⟨by omega, by omega⟩, ⟨by omega, by omega⟩, fun g => ⟨fun hn => ?_, fun st hst => ?_⟩⟩
          · have hd : doneC (y.c i) = true := by rw [hn]; rfl
            refine ⟨⟨by omega, by omega⟩, (by first | exact trivial | rfl), fun _ => ⟨⟨by omega, by omega⟩, hi2, fun hf => ?_, fun hf => ?_⟩, fun hf => by cases hf⟩
            · obtain ⟨ok, y', e1, e2, e3, e4, e5, e6, e0, e7, e8, e9⟩ := y.turn h12 hk hi2 hd hf (frX i)
              repeat' first
                | with_reducible apply And.intro
                | with_reducible exact trivial
                | with_reducible exact Eq.refl _
                | with_reducible assumption
                | (with_reducible refine Exists.intro y' ?_)
                | omega
                | exact hs0 _
                | exact hok2
                | exact hs (by omega)
                | exact (u8 _).1
                | exact (u8 _).2
                | exact hx _ hi2
                | (intro h; rw [hf] at h; cases h)
                | exact Or.inl ⟨trivial, by omega⟩
                | exact ec
                | exact e4
                | exact e5
                | exact e6
                | exact fun _ _ => trivial
                | exact fun _ _ => rfl
                | exact fun j hj => congrArg (fun b => [Value.bool b]) (e7 j hj)
                | exact fun j hj => congrArg (fun b => [Value.bool b]) (e8 j hj)
                | exact fun j hj => congrArg (fun b => [Value.bool b]) (e9 j hj)
            · obtain ⟨ok, y', e1, e2, e3, e4, e5, e6, e0, e7, e8, e9⟩ := y.turn h12 hk hi2 hd hf (frE i)
              repeat' first
                | with_reducible apply And.intro
                | with_reducible exact trivial
                | with_reducible exact Eq.refl _
                | with_reducible assumption
                | (with_reducible refine Exists.intro y' ?_)
                | omega
                | exact hs0 _
                | exact hok2
                | exact hs (by omega)
                | exact (u8 _).1
                | exact (u8 _).2
                | exact hx _ hi2
                | (intro h; rw [hf] at h; cases h)
                | exact Or.inl ⟨trivial, by omega⟩
                | exact ec
                | exact e4
                | exact e5
                | exact e6
                | exact fun _ _ => trivial
                | exact fun _ _ => rfl
                | exact fun j hj => congrArg (fun b => [Value.bool b]) (e7 j hj)
                | exact fun j hj => congrArg (fun b => [Value.bool b]) (e8 j hj)
                | exact fun j hj => congrArg (fun b => [Value.bool b]) (e9 j hj)
          · refine ⟨⟨by omega, by omega⟩, (by first | exact trivial | rfl), fun hdn => ⟨⟨by omega, by omega⟩, hi2, fun hf => ?_, fun hf => ?_⟩, fun hdn => ?_⟩
            · obtain ⟨ok, y', e1, e2, e3, e4, e5, e6, e0, e7, e8, e9⟩ := y.turn h12 hk hi2 (by rw [hst]; exact hdn) hf (frX i)
              repeat' first
                | with_reducible apply And.intro
                | with_reducible exact trivial
                | with_reducible exact Eq.refl _
                | with_reducible assumption
                | (with_reducible refine Exists.intro y' ?_)
                | omega
                | exact hs0 _
                | exact hok2
                | exact hs (by omega)
                | exact (u8 _).1
                | exact (u8 _).2
                | exact hx _ hi2
                | (intro h; rw [hf] at h; cases h)
                | exact Or.inl ⟨trivial, by omega⟩
                | exact ec
                | exact e4
                | exact e5
                | exact e6
                | exact fun _ _ => trivial
                | exact fun _ _ => rfl
                | exact fun j hj => congrArg (fun b => [Value.bool b]) (e7 j hj)
                | exact fun j hj => congrArg (fun b => [Value.bool b]) (e8 j hj)
                | exact fun j hj => congrArg (fun b => [Value.bool b]) (e9 j hj)
            · obtain ⟨ok, y', e1, e2, e3, e4, e5, e6, e0, e7, e8, e9⟩ := y.turn h12 hk hi2 (by rw [hst]; exact hdn) hf (frE i)
              repeat' first
                | with_reducible apply And.intro
                | with_reducible exact trivial
                | with_reducible exact Eq.refl _
                | with_reducible assumption
                | (with_reducible refine Exists.intro y' ?_)
                | omega
                | exact hs0 _
                | exact hok2
                | exact hs (by omega)
                | exact (u8 _).1
                | exact (u8 _).2
                | exact hx _ hi2
                | (intro h; rw [hf] at h; cases h)
                | exact Or.inl ⟨trivial, by omega⟩
                | exact ec
                | exact e4
                | exact e5
                | exact e6
                | exact fun _ _ => trivial
                | exact fun _ _ => rfl
                | exact fun j hj => congrArg (fun b => [Value.bool b]) (e7 j hj)
                | exact fun j hj => congrArg (fun b => [Value.bool b]) (e8 j hj)
                | exact fun j hj => congrArg (fun b => [Value.bool b]) (e9 j hj)
            · obtain ⟨ok, y', e1, e2, e3, e4, e5, e6, e0, e7, e8, e9⟩ := y.step h12 hk hi2 hst
              repeat' first
                | with_reducible apply And.intro
                | with_reducible exact trivial
                | with_reducible exact Eq.refl _
                | with_reducible assumption
                | (with_reducible refine Exists.intro y' ?_)
                | omega
                | exact hs0 _
                | exact hok2
                | exact hs (by omega)
                | exact (u8 _).1
                | exact (u8 _).2
                | exact hx _ hi2
                | (intro h; rw [hf] at h; cases h)
                | exact Or.inl ⟨trivial, by omega⟩
                | exact ec
                | exact e4
                | exact e5
                | exact e6
                | exact fun _ _ => trivial
                | exact fun _ _ => rfl
                | exact fun j hj => congrArg (fun b => [Value.bool b]) (e7 j hj)
                | exact fun j hj => congrArg (fun b => [Value.bool b]) (e8 j hj)
                | exact fun j hj => congrArg (fun b => [Value.bool b]) (e9 j hj)
      · refine ⟨y.hi.ph, fun _ => ⟨by first | exact trivial | rfl, by first | exact trivial | rfl⟩, fun hn => ?_⟩
        have hd : colDone y.x = true := by cases h : colDone y.x <;> simp [h] at hn ⊢
        obtain ⟨fd1, fd2, fd3⟩ := y.found h12 h400 hs hx hd
        have f4 : (∀ j, j < len → True) := fun _ _ => trivial
        repeat' first
          | with_reducible apply And.intro
          | with_reducible exact trivial
          | with_reducible exact Eq.refl _
          | (refine fun (K : KO XD) => ?_; simp only [eq_self, true_and, and_true, imp_self, implies_true]; done)
          | (refine fun (K : KO XD) => ?_; simp only [eq_self, true_and, and_true, imp_self, implies_true]; exact id)
        all_goals try first
          | omega
          | exact fun _ _ => trivial
          | exact fun _ _ => rfl
        all_goals first
          | exact ⟨y.alw, y.som, _, ⟨⟨trivial, fun _ _ => trivial⟩, ⟨trivial, trivial, trivial, trivial⟩, trivial, trivial, trivial, trivial⟩, fun _ _ => rfl, fun _ _ => rfl, fd2, fd3⟩
          | done
end Go.Proofs.Ytnfpkadepomjjaa
