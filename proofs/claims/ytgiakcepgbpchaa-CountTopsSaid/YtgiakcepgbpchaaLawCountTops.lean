/- CountTops: the walk by the executor; conditions: the slice that is handed in is read as numbers of one byte. -/
import Derived.Test.YtgiakcepgbpchaaTops2
import Derived.Test.YtgiakcepgbpchaaGate2
import Derived.Test.YtgiakcepgbpchaaFirst12
namespace Go.Proofs.Ytgiakcepgbpchaa
open Go
set_option maxRecDepth 1000000
set_option maxHeartbeats 0
def firstX : Smry Try.prog XE where
  g := 15
  run := fun args m K => match args with
    | [] => K (.c (.boo true true)) m
    | _ => Stuck 720
  ok := fun args m K h => by
    split at h <;> try exact h.elim
    exact gives_pure h fun ν w => law_true first12 w
def tblT : List (Smry Try.prog XE) := [firstX, segsX, readX, writeX, stepX, enterX, faultsX, rsegS, rpathS, powS]
def dead (t : Nat) : Bool := Nat.beq t 4 || (Nat.ble 22 t && !(Nat.beq t 34) && !(Nat.beq t 35))
def fs : Nat → Scr XE
  | 0 => .nil
  | n + 1 => .f (fs n)
def headT (W : World) (a : Option Addr) (len : Nat) (n : Nat) (y : YT W a len) : List (Nat × SV) × List (Nat × SO XE) :=
  ([(3, .c (.ptr n 0)), (6, .c (.sli (n + 1) 1 true 0 true 4 4)), (7, .c (.sli (n + 2) 1 true 0 true 15 15)), (36, .c (.int false .i64 (y.1.1 : Int)))],
   [(n, arO y.1.2.2), (n + 1, .ints 3 .i64 4 4 fun g => (topsF (slF W a) y.1.1 g : Int)), (n + 2, .ints 3 .i64 15 15 fun s => (ownF (slF W a) y.1.1 s : Int))])
def script (W : World) (a : Option Addr) (len : Nat) : Scr XE := .both .nil (.inv dead [12, 16, 18, 19] (YT W a len) (headT W a len) (fun y => len - y.1.1) fun _ => .both (.f .nil) (fs 19))
/-- What the executor leaves to be shown, written out. -/
theorem countTops_vc (W : World) (a : Option Addr) (len cap : Nat) (hsome : 0 < len → a.isSome = true) (hseen : ∀ j, j < len → Seen .u8 W (addOpt a j)) : (callN Try.prog tblT (fun _ _ => false) 100 20 3 [.c (.sliv a false len cap)] ⟨[(0, .seen W)], 1⟩ (script W a len) (fun v m _ => retSeen W v m)) = (
    (decide ((↑len : Int) > (40 : Int)) = true → true = true ∧ some W = some W) ∧ (decide ((↑len : Int) > (40 : Int)) = false → ∀ (A : Ar) (cap_1 : Nat) (z : Nat → Int) (ad : Option
    Addr) (ln cp : Nat), SegOk (4 : Nat) A → (4 : Nat) ≤ cap_1 → (((∃ (y : YT W a len), a = a ∧ len = len ∧ cap = cap ∧ (0 : Nat) = (0 : Nat) ∧ cap_1 = cap_1 ∧ a = a ∧ len = len ∧ cap =
    cap ∧ (↑len : Int) = (↑len : Int) ∧ W = W ∧ (4 : Nat) = (4 : Nat) ∧ cap_1 = cap_1 ∧ hsF = hsF ∧ (0 : Nat) = (0 : Nat) ∧ (4 : Nat) = (4 : Nat) ∧ (0 : Nat) = (0 : Nat) ∧ (15 : Nat) =
    (15 : Nat) ∧ (↑y.val.fst : Int) = (0 : Int) ∧ XO.ar y.val.snd.snd = XO.ar A ∧ ((4 : Nat) = (4 : Nat) ∧ (4 : Nat) = (4 : Nat) ∧ (4 : Nat) ≤ (1000000000 : Nat) ∧ (↑(topsF (slF W a)
    y.val.fst (0 : Nat)) : Int) = (0 : Int) ∧ (↑(topsF (slF W a) y.val.fst (1 : Nat)) : Int) = (0 : Int) ∧ (↑(topsF (slF W a) y.val.fst (2 : Nat)) : Int) = (0 : Int) ∧ (↑(topsF (slF W
    a) y.val.fst (3 : Nat)) : Int) = (0 : Int) ∧ True) ∧ ((15 : Nat) = (15 : Nat) ∧ (15 : Nat) = (15 : Nat) ∧ (15 : Nat) ≤ (1000000000 : Nat) ∧ (↑(ownF (slF W a) y.val.fst (0 : Nat)) :
    Int) = (0 : Int) ∧ (↑(ownF (slF W a) y.val.fst (1 : Nat)) : Int) = (0 : Int) ∧ (↑(ownF (slF W a) y.val.fst (2 : Nat)) : Int) = (0 : Int) ∧ (↑(ownF (slF W a) y.val.fst (3 : Nat)) :
    Int) = (0 : Int) ∧ (↑(ownF (slF W a) y.val.fst (4 : Nat)) : Int) = (0 : Int) ∧ (↑(ownF (slF W a) y.val.fst (5 : Nat)) : Int) = (0 : Int) ∧ (↑(ownF (slF W a) y.val.fst (6 : Nat)) :
    Int) = (0 : Int) ∧ (↑(ownF (slF W a) y.val.fst (7 : Nat)) : Int) = (0 : Int) ∧ (↑(ownF (slF W a) y.val.fst (8 : Nat)) : Int) = (0 : Int) ∧ (↑(ownF (slF W a) y.val.fst (9 : Nat)) :
    Int) = (0 : Int) ∧ (↑(ownF (slF W a) y.val.fst (10 : Nat)) : Int) = (0 : Int) ∧ (↑(ownF (slF W a) y.val.fst (11 : Nat)) : Int) = (0 : Int) ∧ (↑(ownF (slF W a) y.val.fst (12 : Nat))
    : Int) = (0 : Int) ∧ (↑(ownF (slF W a) y.val.fst (13 : Nat)) : Int) = (0 : Int) ∧ (↑(ownF (slF W a) y.val.fst (14 : Nat)) : Int) = (0 : Int) ∧ True) ∧ True) ∧ ∀ (y : YT W a len) (ρ
    : Nat → Value), (decide ((↑y.val.fst : Int) < (↑len : Int)) = true → ((0 : Int) ≤ (↑y.val.fst : Int) ∧ (↑y.val.fst : Int) < (↑len : Int) ∧ a.isSome = true) ∧ Seen IntKind.u8 W
    (addOpt a (↑y.val.fst : Int).toNat) ∧ decide ((↑(segG (seenInt IntKind.u8 W (addOpt a (↑y.val.fst : Int).toNat) % (15 : Int)).toNat) : Int) ≥ (4 : Int)) = false ∧ ((0 : Int) ≤
    (↑(segG (seenInt IntKind.u8 W (addOpt a (↑y.val.fst : Int).toNat) % (15 : Int)).toNat) : Int) ∧ (↑(segG (seenInt IntKind.u8 W (addOpt a (↑y.val.fst : Int).toNat) % (15 :
    Int)).toNat) : Int) < (4 : Int)) ∧ addO true (0 : Nat) (↑(segG (seenInt IntKind.u8 W (addOpt a (↑y.val.fst : Int).toNat) % (15 : Int)).toNat) : Int).toNat < (4 : Nat) ∧ ((0 : Int) ≤
    hsF (addO true (0 : Nat) (↑(segG (seenInt IntKind.u8 W (addOpt a (↑y.val.fst : Int).toNat) % (15 : Int)).toNat) : Int).toNat) ∧ (0 : Int) ≤ seenInt IntKind.u8 W (addOpt a
    (↑y.val.fst : Int).toNat) % (15 : Int) ∧ seenInt IntKind.u8 W (addOpt a (↑y.val.fst : Int).toNat) % (15 : Int) ≤ (254 : Int)) ∧ CntOk (enterC (hsF (addO true (0 : Nat) (↑(segG
    (seenInt IntKind.u8 W (addOpt a (↑y.val.fst : Int).toNat) % (15 : Int)).toNat) : Int).toNat)) (seenInt IntKind.u8 W (addOpt a (↑y.val.fst : Int).toNat) % (15 : Int))) y.val.snd.snd
    ∧ CntOk (stepC (enterC (hsF (addO true (0 : Nat) (↑(segG (seenInt IntKind.u8 W (addOpt a (↑y.val.fst : Int).toNat) % (15 : Int)).toNat) : Int).toNat)) (seenInt IntKind.u8 W (addOpt
    a (↑y.val.fst : Int).toNat) % (15 : Int)))) (stepA (enterC (hsF (addO true (0 : Nat) (↑(segG (seenInt IntKind.u8 W (addOpt a (↑y.val.fst : Int).toNat) % (15 : Int)).toNat) :
    Int).toNat)) (seenInt IntKind.u8 W (addOpt a (↑y.val.fst : Int).toNat) % (15 : Int))) y.val.snd.snd) ∧ CntOk (stepC (stepC (enterC (hsF (addO true (0 : Nat) (↑(segG (seenInt
    IntKind.u8 W (addOpt a (↑y.val.fst : Int).toNat) % (15 : Int)).toNat) : Int).toNat)) (seenInt IntKind.u8 W (addOpt a (↑y.val.fst : Int).toNat) % (15 : Int))))) (stepA (stepC (enterC
    (hsF (addO true (0 : Nat) (↑(segG (seenInt IntKind.u8 W (addOpt a (↑y.val.fst : Int).toNat) % (15 : Int)).toNat) : Int).toNat)) (seenInt IntKind.u8 W (addOpt a (↑y.val.fst :
    Int).toNat) % (15 : Int)))) (stepA (enterC (hsF (addO true (0 : Nat) (↑(segG (seenInt IntKind.u8 W (addOpt a (↑y.val.fst : Int).toNat) % (15 : Int)).toNat) : Int).toNat)) (seenInt
    IntKind.u8 W (addOpt a (↑y.val.fst : Int).toNat) % (15 : Int))) y.val.snd.snd)) ∧ CntOk (stepC (stepC (stepC (enterC (hsF (addO true (0 : Nat) (↑(segG (seenInt IntKind.u8 W (addOpt
    a (↑y.val.fst : Int).toNat) % (15 : Int)).toNat) : Int).toNat)) (seenInt IntKind.u8 W (addOpt a (↑y.val.fst : Int).toNat) % (15 : Int)))))) (stepA (stepC (stepC (enterC (hsF (addO
    true (0 : Nat) (↑(segG (seenInt IntKind.u8 W (addOpt a (↑y.val.fst : Int).toNat) % (15 : Int)).toNat) : Int).toNat)) (seenInt IntKind.u8 W (addOpt a (↑y.val.fst : Int).toNat) % (15
    : Int))))) (stepA (stepC (enterC (hsF (addO true (0 : Nat) (↑(segG (seenInt IntKind.u8 W (addOpt a (↑y.val.fst : Int).toNat) % (15 : Int)).toNat) : Int).toNat)) (seenInt IntKind.u8
    W (addOpt a (↑y.val.fst : Int).toNat) % (15 : Int)))) (stepA (enterC (hsF (addO true (0 : Nat) (↑(segG (seenInt IntKind.u8 W (addOpt a (↑y.val.fst : Int).toNat) % (15 : Int)).toNat)
    : Int).toNat)) (seenInt IntKind.u8 W (addOpt a (↑y.val.fst : Int).toNat) % (15 : Int))) y.val.snd.snd))) ∧ CntOk (stepC (stepC (stepC (stepC (enterC (hsF (addO true (0 : Nat)
    (↑(segG (seenInt IntKind.u8 W (addOpt a (↑y.val.fst : Int).toNat) % (15 : Int)).toNat) : Int).toNat)) (seenInt IntKind.u8 W (addOpt a (↑y.val.fst : Int).toNat) % (15 : Int)))))))
    (stepA (stepC (stepC (stepC (enterC (hsF (addO true (0 : Nat) (↑(segG (seenInt IntKind.u8 W (addOpt a (↑y.val.fst : Int).toNat) % (15 : Int)).toNat) : Int).toNat)) (seenInt
    IntKind.u8 W (addOpt a (↑y.val.fst : Int).toNat) % (15 : Int)))))) (stepA (stepC (stepC (enterC (hsF (addO true (0 : Nat) (↑(segG (seenInt IntKind.u8 W (addOpt a (↑y.val.fst :
    Int).toNat) % (15 : Int)).toNat) : Int).toNat)) (seenInt IntKind.u8 W (addOpt a (↑y.val.fst : Int).toNat) % (15 : Int))))) (stepA (stepC (enterC (hsF (addO true (0 : Nat) (↑(segG
    (seenInt IntKind.u8 W (addOpt a (↑y.val.fst : Int).toNat) % (15 : Int)).toNat) : Int).toNat)) (seenInt IntKind.u8 W (addOpt a (↑y.val.fst : Int).toNat) % (15 : Int)))) (stepA
    (enterC (hsF (addO true (0 : Nat) (↑(segG (seenInt IntKind.u8 W (addOpt a (↑y.val.fst : Int).toNat) % (15 : Int)).toNat) : Int).toNat)) (seenInt IntKind.u8 W (addOpt a (↑y.val.fst :
    Int).toNat) % (15 : Int))) y.val.snd.snd)))) ∧ CntOk (stepC (stepC (stepC (stepC (stepC (enterC (hsF (addO true (0 : Nat) (↑(segG (seenInt IntKind.u8 W (addOpt a (↑y.val.fst :
    Int).toNat) % (15 : Int)).toNat) : Int).toNat)) (seenInt IntKind.u8 W (addOpt a (↑y.val.fst : Int).toNat) % (15 : Int)))))))) (stepA (stepC (stepC (stepC (stepC (enterC (hsF (addO
    true (0 : Nat) (↑(segG (seenInt IntKind.u8 W (addOpt a (↑y.val.fst : Int).toNat) % (15 : Int)).toNat) : Int).toNat)) (seenInt IntKind.u8 W (addOpt a (↑y.val.fst : Int).toNat) % (15
    : Int))))))) (stepA (stepC (stepC (stepC (enterC (hsF (addO true (0 : Nat) (↑(segG (seenInt IntKind.u8 W (addOpt a (↑y.val.fst : Int).toNat) % (15 : Int)).toNat) : Int).toNat))
    (seenInt IntKind.u8 W (addOpt a (↑y.val.fst : Int).toNat) % (15 : Int)))))) (stepA (stepC (stepC (enterC (hsF (addO true (0 : Nat) (↑(segG (seenInt IntKind.u8 W (addOpt a
    (↑y.val.fst : Int).toNat) % (15 : Int)).toNat) : Int).toNat)) (seenInt IntKind.u8 W (addOpt a (↑y.val.fst : Int).toNat) % (15 : Int))))) (stepA (stepC (enterC (hsF (addO true (0 :
    Nat) (↑(segG (seenInt IntKind.u8 W (addOpt a (↑y.val.fst : Int).toNat) % (15 : Int)).toNat) : Int).toNat)) (seenInt IntKind.u8 W (addOpt a (↑y.val.fst : Int).toNat) % (15 : Int))))
    (stepA (enterC (hsF (addO true (0 : Nat) (↑(segG (seenInt IntKind.u8 W (addOpt a (↑y.val.fst : Int).toNat) % (15 : Int)).toNat) : Int).toNat)) (seenInt IntKind.u8 W (addOpt a
    (↑y.val.fst : Int).toNat) % (15 : Int))) y.val.snd.snd))))) ∧ CntOk (stepC (stepC (stepC (stepC (stepC (stepC (enterC (hsF (addO true (0 : Nat) (↑(segG (seenInt IntKind.u8 W (addOpt
    a (↑y.val.fst : Int).toNat) % (15 : Int)).toNat) : Int).toNat)) (seenInt IntKind.u8 W (addOpt a (↑y.val.fst : Int).toNat) % (15 : Int))))))))) (stepA (stepC (stepC (stepC (stepC
    (stepC (enterC (hsF (addO true (0 : Nat) (↑(segG (seenInt IntKind.u8 W (addOpt a (↑y.val.fst : Int).toNat) % (15 : Int)).toNat) : Int).toNat)) (seenInt IntKind.u8 W (addOpt a
    (↑y.val.fst : Int).toNat) % (15 : Int)))))))) (stepA (stepC (stepC (stepC (stepC (enterC (hsF (addO true (0 : Nat) (↑(segG (seenInt IntKind.u8 W (addOpt a (↑y.val.fst : Int).toNat)
    % (15 : Int)).toNat) : Int).toNat)) (seenInt IntKind.u8 W (addOpt a (↑y.val.fst : Int).toNat) % (15 : Int))))))) (stepA (stepC (stepC (stepC (enterC (hsF (addO true (0 : Nat)
    (↑(segG (seenInt IntKind.u8 W (addOpt a (↑y.val.fst : Int).toNat) % (15 : Int)).toNat) : Int).toNat)) (seenInt IntKind.u8 W (addOpt a (↑y.val.fst : Int).toNat) % (15 : Int))))))
    (stepA (stepC (stepC (enterC (hsF (addO true (0 : Nat) (↑(segG (seenInt IntKind.u8 W (addOpt a (↑y.val.fst : Int).toNat) % (15 : Int)).toNat) : Int).toNat)) (seenInt IntKind.u8 W
    (addOpt a (↑y.val.fst : Int).toNat) % (15 : Int))))) (stepA (stepC (enterC (hsF (addO true (0 : Nat) (↑(segG (seenInt IntKind.u8 W (addOpt a (↑y.val.fst : Int).toNat) % (15 :
    Int)).toNat) : Int).toNat)) (seenInt IntKind.u8 W (addOpt a (↑y.val.fst : Int).toNat) % (15 : Int)))) (stepA (enterC (hsF (addO true (0 : Nat) (↑(segG (seenInt IntKind.u8 W (addOpt
    a (↑y.val.fst : Int).toNat) % (15 : Int)).toNat) : Int).toNat)) (seenInt IntKind.u8 W (addOpt a (↑y.val.fst : Int).toNat) % (15 : Int))) y.val.snd.snd)))))) ∧ CntOk (stepC (stepC
    (stepC (stepC (stepC (stepC (stepC (enterC (hsF (addO true (0 : Nat) (↑(segG (seenInt IntKind.u8 W (addOpt a (↑y.val.fst : Int).toNat) % (15 : Int)).toNat) : Int).toNat)) (seenInt
    IntKind.u8 W (addOpt a (↑y.val.fst : Int).toNat) % (15 : Int)))))))))) (stepA (stepC (stepC (stepC (stepC (stepC (stepC (enterC (hsF (addO true (0 : Nat) (↑(segG (seenInt IntKind.u8
    W (addOpt a (↑y.val.fst : Int).toNat) % (15 : Int)).toNat) : Int).toNat)) (seenInt IntKind.u8 W (addOpt a (↑y.val.fst : Int).toNat) % (15 : Int))))))))) (stepA (stepC (stepC (stepC
    (stepC (stepC (enterC (hsF (addO true (0 : Nat) (↑(segG (seenInt IntKind.u8 W (addOpt a (↑y.val.fst : Int).toNat) % (15 : Int)).toNat) : Int).toNat)) (seenInt IntKind.u8 W (addOpt a
    (↑y.val.fst : Int).toNat) % (15 : Int)))))))) (stepA (stepC (stepC (stepC (stepC (enterC (hsF (addO true (0 : Nat) (↑(segG (seenInt IntKind.u8 W (addOpt a (↑y.val.fst : Int).toNat)
    % (15 : Int)).toNat) : Int).toNat)) (seenInt IntKind.u8 W (addOpt a (↑y.val.fst : Int).toNat) % (15 : Int))))))) (stepA (stepC (stepC (stepC (enterC (hsF (addO true (0 : Nat)
    (↑(segG (seenInt IntKind.u8 W (addOpt a (↑y.val.fst : Int).toNat) % (15 : Int)).toNat) : Int).toNat)) (seenInt IntKind.u8 W (addOpt a (↑y.val.fst : Int).toNat) % (15 : Int))))))
    (stepA (stepC (stepC (enterC (hsF (addO true (0 : Nat) (↑(segG (seenInt IntKind.u8 W (addOpt a (↑y.val.fst : Int).toNat) % (15 : Int)).toNat) : Int).toNat)) (seenInt IntKind.u8 W
    (addOpt a (↑y.val.fst : Int).toNat) % (15 : Int))))) (stepA (stepC (enterC (hsF (addO true (0 : Nat) (↑(segG (seenInt IntKind.u8 W (addOpt a (↑y.val.fst : Int).toNat) % (15 :
    Int)).toNat) : Int).toNat)) (seenInt IntKind.u8 W (addOpt a (↑y.val.fst : Int).toNat) % (15 : Int)))) (stepA (enterC (hsF (addO true (0 : Nat) (↑(segG (seenInt IntKind.u8 W (addOpt
    a (↑y.val.fst : Int).toNat) % (15 : Int)).toNat) : Int).toNat)) (seenInt IntKind.u8 W (addOpt a (↑y.val.fst : Int).toNat) % (15 : Int))) y.val.snd.snd))))))) ∧ CntOk (stepC (stepC
    (stepC (stepC (stepC (stepC (stepC (stepC (enterC (hsF (addO true (0 : Nat) (↑(segG (seenInt IntKind.u8 W (addOpt a (↑y.val.fst : Int).toNat) % (15 : Int)).toNat) : Int).toNat))
    (seenInt IntKind.u8 W (addOpt a (↑y.val.fst : Int).toNat) % (15 : Int))))))))))) (stepA (stepC (stepC (stepC (stepC (stepC (stepC (stepC (enterC (hsF (addO true (0 : Nat) (↑(segG
    (seenInt IntKind.u8 W (addOpt a (↑y.val.fst : Int).toNat) % (15 : Int)).toNat) : Int).toNat)) (seenInt IntKind.u8 W (addOpt a (↑y.val.fst : Int).toNat) % (15 : Int)))))))))) (stepA
    (stepC (stepC (stepC (stepC (stepC (stepC (enterC (hsF (addO true (0 : Nat) (↑(segG (seenInt IntKind.u8 W (addOpt a (↑y.val.fst : Int).toNat) % (15 : Int)).toNat) : Int).toNat))
    (seenInt IntKind.u8 W (addOpt a (↑y.val.fst : Int).toNat) % (15 : Int))))))))) (stepA (stepC (stepC (stepC (stepC (stepC (enterC (hsF (addO true (0 : Nat) (↑(segG (seenInt
    IntKind.u8 W (addOpt a (↑y.val.fst : Int).toNat) % (15 : Int)).toNat) : Int).toNat)) (seenInt IntKind.u8 W (addOpt a (↑y.val.fst : Int).toNat) % (15 : Int)))))))) (stepA (stepC
    (stepC (stepC (stepC (enterC (hsF (addO true (0 : Nat) (↑(segG (seenInt IntKind.u8 W (addOpt a (↑y.val.fst : Int).toNat) % (15 : Int)).toNat) : Int).toNat)) (seenInt IntKind.u8 W
    (addOpt a (↑y.val.fst : Int).toNat) % (15 : Int))))))) (stepA (stepC (stepC (stepC (enterC (hsF (addO true (0 : Nat) (↑(segG (seenInt IntKind.u8 W (addOpt a (↑y.val.fst :
    Int).toNat) % (15 : Int)).toNat) : Int).toNat)) (seenInt IntKind.u8 W (addOpt a (↑y.val.fst : Int).toNat) % (15 : Int)))))) (stepA (stepC (stepC (enterC (hsF (addO true (0 : Nat)
    (↑(segG (seenInt IntKind.u8 W (addOpt a (↑y.val.fst : Int).toNat) % (15 : Int)).toNat) : Int).toNat)) (seenInt IntKind.u8 W (addOpt a (↑y.val.fst : Int).toNat) % (15 : Int)))))
    (stepA (stepC (enterC (hsF (addO true (0 : Nat) (↑(segG (seenInt IntKind.u8 W (addOpt a (↑y.val.fst : Int).toNat) % (15 : Int)).toNat) : Int).toNat)) (seenInt IntKind.u8 W (addOpt a
    (↑y.val.fst : Int).toNat) % (15 : Int)))) (stepA (enterC (hsF (addO true (0 : Nat) (↑(segG (seenInt IntKind.u8 W (addOpt a (↑y.val.fst : Int).toNat) % (15 : Int)).toNat) :
    Int).toNat)) (seenInt IntKind.u8 W (addOpt a (↑y.val.fst : Int).toNat) % (15 : Int))) y.val.snd.snd)))))))) ∧ ((0 : Int) ≤ (↑(segG (seenInt IntKind.u8 W (addOpt a (↑y.val.fst :
    Int).toNat) % (15 : Int)).toNat) : Int) ∧ (↑(segG (seenInt IntKind.u8 W (addOpt a (↑y.val.fst : Int).toNat) % (15 : Int)).toNat) : Int) < (4 : Int)) ∧ addO true (0 : Nat) (↑(segG
    (seenInt IntKind.u8 W (addOpt a (↑y.val.fst : Int).toNat) % (15 : Int)).toNat) : Int).toNat < (4 : Nat) ∧ ((-9223372036854775808 : Int) ≤ (↑(topsF (slF W a) y.val.fst (addO true (0
    : Nat) (↑(segG (seenInt IntKind.u8 W (addOpt a (↑y.val.fst : Int).toNat) % (15 : Int)).toNat) : Int).toNat)) : Int) + (1 : Int) ∧ (↑(topsF (slF W a) y.val.fst (addO true (0 : Nat)
    (↑(segG (seenInt IntKind.u8 W (addOpt a (↑y.val.fst : Int).toNat) % (15 : Int)).toNat) : Int).toNat)) : Int) + (1 : Int) ≤ (9223372036854775807 : Int)) ∧ ((0 : Int) ≤ (↑(segG
    (seenInt IntKind.u8 W (addOpt a (↑y.val.fst : Int).toNat) % (15 : Int)).toNat) : Int) ∧ (↑(segG (seenInt IntKind.u8 W (addOpt a (↑y.val.fst : Int).toNat) % (15 : Int)).toNat) : Int)
    < (4 : Int)) ∧ addO true (0 : Nat) (↑(segG (seenInt IntKind.u8 W (addOpt a (↑y.val.fst : Int).toNat) % (15 : Int)).toNat) : Int).toNat < (4 : Nat) ∧ addO true (0 : Nat) (seenInt
    IntKind.u8 W (addOpt a (↑y.val.fst : Int).toNat) % (15 : Int)).toNat < (15 : Nat) ∧ ((-9223372036854775808 : Int) ≤ (↑(ownF (slF W a) y.val.fst (addO true (0 : Nat) (seenInt
    IntKind.u8 W (addOpt a (↑y.val.fst : Int).toNat) % (15 : Int)).toNat)) : Int) + (1 : Int) ∧ (↑(ownF (slF W a) y.val.fst (addO true (0 : Nat) (seenInt IntKind.u8 W (addOpt a
    (↑y.val.fst : Int).toNat) % (15 : Int)).toNat)) : Int) + (1 : Int) ≤ (9223372036854775807 : Int)) ∧ addO true (0 : Nat) (seenInt IntKind.u8 W (addOpt a (↑y.val.fst : Int).toNat) %
    (15 : Int)).toNat < (15 : Nat) ∧ ((-9223372036854775808 : Int) ≤ (↑y.val.fst : Int) + (1 : Int) ∧ (↑y.val.fst : Int) + (1 : Int) ≤ (9223372036854775807 : Int)) ∧ ∃ (y' : YT W a
    len), len - y'.val.fst < len - y.val.fst ∧ a = a ∧ len = len ∧ cap = cap ∧ (0 : Nat) = (0 : Nat) ∧ cap_1 = cap_1 ∧ a = a ∧ len = len ∧ cap = cap ∧ (↑len : Int) = (↑len : Int) ∧ W =
    W ∧ (4 : Nat) = (4 : Nat) ∧ cap_1 = cap_1 ∧ hsF = hsF ∧ (0 : Nat) = (0 : Nat) ∧ (4 : Nat) = (4 : Nat) ∧ (0 : Nat) = (0 : Nat) ∧ (15 : Nat) = (15 : Nat) ∧ (↑y'.val.fst : Int) =
    (↑y.val.fst : Int) + (1 : Int) ∧ XO.ar y'.val.snd.snd = XO.ar (stepA (stepC (stepC (stepC (stepC (stepC (stepC (stepC (stepC (enterC (hsF (addO true (0 : Nat) (↑(segG (seenInt
    IntKind.u8 W (addOpt a (↑y.val.fst : Int).toNat) % (15 : Int)).toNat) : Int).toNat)) (seenInt IntKind.u8 W (addOpt a (↑y.val.fst : Int).toNat) % (15 : Int))))))))))) (stepA (stepC
    (stepC (stepC (stepC (stepC (stepC (stepC (enterC (hsF (addO true (0 : Nat) (↑(segG (seenInt IntKind.u8 W (addOpt a (↑y.val.fst : Int).toNat) % (15 : Int)).toNat) : Int).toNat))
    (seenInt IntKind.u8 W (addOpt a (↑y.val.fst : Int).toNat) % (15 : Int)))))))))) (stepA (stepC (stepC (stepC (stepC (stepC (stepC (enterC (hsF (addO true (0 : Nat) (↑(segG (seenInt
    IntKind.u8 W (addOpt a (↑y.val.fst : Int).toNat) % (15 : Int)).toNat) : Int).toNat)) (seenInt IntKind.u8 W (addOpt a (↑y.val.fst : Int).toNat) % (15 : Int))))))))) (stepA (stepC
    (stepC (stepC (stepC (stepC (enterC (hsF (addO true (0 : Nat) (↑(segG (seenInt IntKind.u8 W (addOpt a (↑y.val.fst : Int).toNat) % (15 : Int)).toNat) : Int).toNat)) (seenInt
    IntKind.u8 W (addOpt a (↑y.val.fst : Int).toNat) % (15 : Int)))))))) (stepA (stepC (stepC (stepC (stepC (enterC (hsF (addO true (0 : Nat) (↑(segG (seenInt IntKind.u8 W (addOpt a
    (↑y.val.fst : Int).toNat) % (15 : Int)).toNat) : Int).toNat)) (seenInt IntKind.u8 W (addOpt a (↑y.val.fst : Int).toNat) % (15 : Int))))))) (stepA (stepC (stepC (stepC (enterC (hsF
    (addO true (0 : Nat) (↑(segG (seenInt IntKind.u8 W (addOpt a (↑y.val.fst : Int).toNat) % (15 : Int)).toNat) : Int).toNat)) (seenInt IntKind.u8 W (addOpt a (↑y.val.fst : Int).toNat)
    % (15 : Int)))))) (stepA (stepC (stepC (enterC (hsF (addO true (0 : Nat) (↑(segG (seenInt IntKind.u8 W (addOpt a (↑y.val.fst : Int).toNat) % (15 : Int)).toNat) : Int).toNat))
    (seenInt IntKind.u8 W (addOpt a (↑y.val.fst : Int).toNat) % (15 : Int))))) (stepA (stepC (enterC (hsF (addO true (0 : Nat) (↑(segG (seenInt IntKind.u8 W (addOpt a (↑y.val.fst :
    Int).toNat) % (15 : Int)).toNat) : Int).toNat)) (seenInt IntKind.u8 W (addOpt a (↑y.val.fst : Int).toNat) % (15 : Int)))) (stepA (enterC (hsF (addO true (0 : Nat) (↑(segG (seenInt
    IntKind.u8 W (addOpt a (↑y.val.fst : Int).toNat) % (15 : Int)).toNat) : Int).toNat)) (seenInt IntKind.u8 W (addOpt a (↑y.val.fst : Int).toNat) % (15 : Int))) y.val.snd.snd)))))))))
    ∧ ((4 : Nat) = (4 : Nat) ∧ (4 : Nat) = (4 : Nat) ∧ ∀ (i : Nat), i < (4 : Nat) → (↑(topsF (slF W a) y'.val.fst i) : Int) = if i = addO true (0 : Nat) (↑(segG (seenInt IntKind.u8 W
    (addOpt a (↑y.val.fst : Int).toNat) % (15 : Int)).toNat) : Int).toNat then (↑(topsF (slF W a) y.val.fst (addO true (0 : Nat) (↑(segG (seenInt IntKind.u8 W (addOpt a (↑y.val.fst :
    Int).toNat) % (15 : Int)).toNat) : Int).toNat)) : Int) + (1 : Int) else (↑(topsF (slF W a) y.val.fst i) : Int)) ∧ ((15 : Nat) = (15 : Nat) ∧ (15 : Nat) = (15 : Nat) ∧ ∀ (i : Nat), i
    < (15 : Nat) → (↑(ownF (slF W a) y'.val.fst i) : Int) = if i = addO true (0 : Nat) (seenInt IntKind.u8 W (addOpt a (↑y.val.fst : Int).toNat) % (15 : Int)).toNat then (↑(ownF (slF W
    a) y.val.fst (addO true (0 : Nat) (seenInt IntKind.u8 W (addOpt a (↑y.val.fst : Int).toNat) % (15 : Int)).toNat)) : Int) + (1 : Int) else (↑(ownF (slF W a) y.val.fst i) : Int)) ∧
    True) ∧ (decide ((↑y.val.fst : Int) < (↑len : Int)) = false → (0 : Nat) < (4 : Nat) ∧ y.val.snd.snd.Has (65537 : Int) (6 : Int) ∧ (0 : Nat) < (4 : Nat) ∧ ((0 : Int) ≤ (↑(topsF (slF
    W a) y.val.fst (0 : Nat)) : Int) ∧ (↑(topsF (slF W a) y.val.fst (0 : Nat)) : Int) < (18446744073709551616 : Int)) ∧ ((↑(y.val.snd.snd.rd (65537 : Int) (6 : Int)) : Int) != (↑(topsF
    (slF W a) y.val.fst (0 : Nat)) : Int)) = false ∧ (1 : Nat) < (4 : Nat) ∧ y.val.snd.snd.read.Has (131074 : Int) (11 : Int) ∧ (1 : Nat) < (4 : Nat) ∧ ((0 : Int) ≤ (↑(topsF (slF W a)
    y.val.fst (1 : Nat)) : Int) ∧ (↑(topsF (slF W a) y.val.fst (1 : Nat)) : Int) < (18446744073709551616 : Int)) ∧ ((↑(y.val.snd.snd.read.rd (131074 : Int) (11 : Int)) : Int) !=
    (↑(topsF (slF W a) y.val.fst (1 : Nat)) : Int)) = false ∧ (2 : Nat) < (4 : Nat) ∧ y.val.snd.snd.read.read.Has (196611 : Int) (21 : Int) ∧ (2 : Nat) < (4 : Nat) ∧ ((0 : Int) ≤
    (↑(topsF (slF W a) y.val.fst (2 : Nat)) : Int) ∧ (↑(topsF (slF W a) y.val.fst (2 : Nat)) : Int) < (18446744073709551616 : Int)) ∧ ((↑(y.val.snd.snd.read.read.rd (196611 : Int) (21 :
    Int)) : Int) != (↑(topsF (slF W a) y.val.fst (2 : Nat)) : Int)) = false ∧ (3 : Nat) < (4 : Nat) ∧ y.val.snd.snd.read.read.read.Has (262148 : Int) (41 : Int) ∧ (3 : Nat) < (4 : Nat)
    ∧ ((0 : Int) ≤ (↑(topsF (slF W a) y.val.fst (3 : Nat)) : Int) ∧ (↑(topsF (slF W a) y.val.fst (3 : Nat)) : Int) < (18446744073709551616 : Int)) ∧ ((↑(y.val.snd.snd.read.read.read.rd
    (262148 : Int) (41 : Int)) : Int) != (↑(topsF (slF W a) y.val.fst (3 : Nat)) : Int)) = false ∧ (0 : Nat) < (4 : Nat) ∧ ((0 : Nat) < (1 : Nat) ∧ ∀ (cap : Nat), (1 : Nat) ≤ cap → (4 :
    Nat) = (4 : Nat) ∧ (4 : Nat) = (4 : Nat) ∧ ((fun (g : Nat) => (↑(topsF (slF W a) y.val.fst g) : Int)) = fun (g : Nat) => (↑(topsF (slF W a) y.val.fst g) : Int)) ∧ (15 : Nat) = (15 :
    Nat) ∧ (15 : Nat) = (15 : Nat) ∧ ((fun (s : Nat) => (↑(ownF (slF W a) y.val.fst s) : Int)) = fun (s : Nat) => (↑(ownF (slF W a) y.val.fst s) : Int)) ∧ W = W ∧ (4 : Nat) = (4 : Nat)
    ∧ cap_1 = cap_1 ∧ hsF = hsF ∧ (65537 : Int) = (65537 : Int) ∧ (131074 : Int) = (131074 : Int) ∧ (196611 : Int) = (196611 : Int) ∧ (262148 : Int) = (262148 : Int) ∧ ((0 : Int) ≤ (0 :
    Int) ∧ (0 : Int) < (1 : Int)) ∧ ((0 : Nat) < (1 : Nat) ∧ (4 : Nat) = (4 : Nat) ∧ (4 : Nat) = (4 : Nat) ∧ ((fun (g : Nat) => (↑(topsF (slF W a) y.val.fst g) : Int)) = fun (g : Nat)
    => (↑(topsF (slF W a) y.val.fst g) : Int)) ∧ (15 : Nat) = (15 : Nat) ∧ (15 : Nat) = (15 : Nat) ∧ ((fun (s : Nat) => (↑(ownF (slF W a) y.val.fst s) : Int)) = fun (s : Nat) => (↑(ownF
    (slF W a) y.val.fst s) : Int)) ∧ W = W ∧ (4 : Nat) = (4 : Nat) ∧ cap_1 = cap_1 ∧ hsF = hsF ∧ (65537 : Int) = (65537 : Int) ∧ (131074 : Int) = (131074 : Int) ∧ (196611 : Int) =
    (196611 : Int) ∧ (262148 : Int) = (262148 : Int) ∧ (((-9223372036854775808 : Int) ≤ (6 : Int) ∧ (6 : Int) ≤ (9223372036854775807 : Int)) ∧ (y.val.snd.snd.read.read.read.read.Has
    (65537 : Int) (6 : Int) ∧ (4 : Nat) = (4 : Nat) ∧ (4 : Nat) = (4 : Nat) ∧ ((fun (g : Nat) => (↑(topsF (slF W a) y.val.fst g) : Int)) = fun (g : Nat) => (↑(topsF (slF W a) y.val.fst
    g) : Int)) ∧ (15 : Nat) = (15 : Nat) ∧ (15 : Nat) = (15 : Nat) ∧ ((fun (s : Nat) => (↑(ownF (slF W a) y.val.fst s) : Int)) = fun (s : Nat) => (↑(ownF (slF W a) y.val.fst s) : Int))
    ∧ W = W ∧ (4 : Nat) = (4 : Nat) ∧ cap_1 = cap_1 ∧ hsF = hsF ∧ (65537 : Int) = (65537 : Int) ∧ (131074 : Int) = (131074 : Int) ∧ (196611 : Int) = (196611 : Int) ∧ (262148 : Int) =
    (262148 : Int) ∧ (0 : Nat) < (15 : Nat) ∧ ((0 : Int) ≤ (↑(ownF (slF W a) y.val.fst (0 : Nat)) : Int) ∧ (↑(ownF (slF W a) y.val.fst (0 : Nat)) : Int) < (18446744073709551616 : Int))
    ∧ ((↑(y.val.snd.snd.read.read.read.read.rd (65537 : Int) (6 : Int)) : Int) != (↑(ownF (slF W a) y.val.fst (0 : Nat)) : Int)) = false ∧ (1 : Nat) < (4 : Nat) ∧ ((0 : Nat) < (2 : Nat)
    ∧ ∀ (cap_2 : Nat), (2 : Nat) ≤ cap_2 → (4 : Nat) = (4 : Nat) ∧ (4 : Nat) = (4 : Nat) ∧ ((fun (g : Nat) => (↑(topsF (slF W a) y.val.fst g) : Int)) = fun (g : Nat) => (↑(topsF (slF W
    a) y.val.fst g) : Int)) ∧ (15 : Nat) = (15 : Nat) ∧ (15 : Nat) = (15 : Nat) ∧ ((fun (s : Nat) => (↑(ownF (slF W a) y.val.fst s) : Int)) = fun (s : Nat) => (↑(ownF (slF W a)
    y.val.fst s) : Int)) ∧ W = W ∧ (4 : Nat) = (4 : Nat) ∧ cap_1 = cap_1 ∧ hsF = hsF ∧ (65537 : Int) = (65537 : Int) ∧ (131074 : Int) = (131074 : Int) ∧ (196611 : Int) = (196611 : Int)
    ∧ (262148 : Int) = (262148 : Int) ∧ (1 : Nat) = (1 : Nat) ∧ cap = cap ∧ pathF' (Int.ofNat (0 : Nat)).toNat = pathF' (Int.ofNat (0 : Nat)).toNat ∧ (65537 : Int) = (65537 : Int) ∧ (6
    : Int) = (6 : Int) ∧ ((0 : Int) ≤ (0 : Int) ∧ (0 : Int) < (2 : Int)) ∧ ((0 : Nat) < (2 : Nat) ∧ (4 : Nat) = (4 : Nat) ∧ (4 : Nat) = (4 : Nat) ∧ ((fun (g : Nat) => (↑(topsF (slF W a)
    y.val.fst g) : Int)) = fun (g : Nat) => (↑(topsF (slF W a) y.val.fst g) : Int)) ∧ (15 : Nat) = (15 : Nat) ∧ (15 : Nat) = (15 : Nat) ∧ ((fun (s : Nat) => (↑(ownF (slF W a) y.val.fst
    s) : Int)) = fun (s : Nat) => (↑(ownF (slF W a) y.val.fst s) : Int)) ∧ W = W ∧ (4 : Nat) = (4 : Nat) ∧ cap_1 = cap_1 ∧ hsF = hsF ∧ (65537 : Int) = (65537 : Int) ∧ (131074 : Int) =
    (131074 : Int) ∧ (196611 : Int) = (196611 : Int) ∧ (262148 : Int) = (262148 : Int) ∧ (1 : Nat) = (1 : Nat) ∧ cap = cap ∧ pathF' (Int.ofNat (0 : Nat)).toNat = pathF' (Int.ofNat (0 :
    Nat)).toNat ∧ (65537 : Int) = (65537 : Int) ∧ (6 : Int) = (6 : Int) ∧ (((-9223372036854775808 : Int) ≤ (12 : Int) ∧ (12 : Int) ≤ (9223372036854775807 : Int)) ∧
    (y.val.snd.snd.read.read.read.read.read.Has (131074 : Int) (12 : Int) ∧ (4 : Nat) = (4 : Nat) ∧ (4 : Nat) = (4 : Nat) ∧ ((fun (g : Nat) => (↑(topsF (slF W a) y.val.fst g) : Int)) =
    fun (g : Nat) => (↑(topsF (slF W a) y.val.fst g) : Int)) ∧ (15 : Nat) = (15 : Nat) ∧ (15 : Nat) = (15 : Nat) ∧ ((fun (s : Nat) => (↑(ownF (slF W a) y.val.fst s) : Int)) = fun (s :
    Nat) => (↑(ownF (slF W a) y.val.fst s) : Int)) ∧ W = W ∧ (4 : Nat) = (4 : Nat) ∧ cap_1 = cap_1 ∧ hsF = hsF ∧ (65537 : Int) = (65537 : Int) ∧ (131074 : Int) = (131074 : Int) ∧
    (196611 : Int) = (196611 : Int) ∧ (262148 : Int) = (262148 : Int) ∧ (1 : Nat) = (1 : Nat) ∧ cap = cap ∧ pathF' (Int.ofNat (0 : Nat)).toNat = pathF' (Int.ofNat (0 : Nat)).toNat ∧
    (65537 : Int) = (65537 : Int) ∧ (6 : Int) = (6 : Int) ∧ (1 : Nat) < (15 : Nat) ∧ ((0 : Int) ≤ (↑(ownF (slF W a) y.val.fst (1 : Nat)) : Int) ∧ (↑(ownF (slF W a) y.val.fst (1 : Nat))
    : Int) < (18446744073709551616 : Int)) ∧ ((↑(y.val.snd.snd.read.read.read.read.read.rd (131074 : Int) (12 : Int)) : Int) != (↑(ownF (slF W a) y.val.fst (1 : Nat)) : Int)) = false ∧
    (1 : Nat) < (4 : Nat) ∧ ((0 : Nat) < (2 : Nat) ∧ ∀ (cap_3 : Nat), (2 : Nat) ≤ cap_3 → (4 : Nat) = (4 : Nat) ∧ (4 : Nat) = (4 : Nat) ∧ ((fun (g : Nat) => (↑(topsF (slF W a) y.val.fst
    g) : Int)) = fun (g : Nat) => (↑(topsF (slF W a) y.val.fst g) : Int)) ∧ (15 : Nat) = (15 : Nat) ∧ (15 : Nat) = (15 : Nat) ∧ ((fun (s : Nat) => (↑(ownF (slF W a) y.val.fst s) : Int))
    = fun (s : Nat) => (↑(ownF (slF W a) y.val.fst s) : Int)) ∧ W = W ∧ (4 : Nat) = (4 : Nat) ∧ cap_1 = cap_1 ∧ hsF = hsF ∧ (65537 : Int) = (65537 : Int) ∧ (131074 : Int) = (131074 :
    Int) ∧ (196611 : Int) = (196611 : Int) ∧ (262148 : Int) = (262148 : Int) ∧ (1 : Nat) = (1 : Nat) ∧ cap = cap ∧ pathF' (Int.ofNat (0 : Nat)).toNat = pathF' (Int.ofNat (0 :
    Nat)).toNat ∧ (65537 : Int) = (65537 : Int) ∧ (6 : Int) = (6 : Int) ∧ (2 : Nat) = (2 : Nat) ∧ cap_2 = cap_2 ∧ pathF' (Int.ofNat ((0 : Nat) + (1 : Nat))).toNat = pathF' (Int.ofNat
    ((0 : Nat) + (1 : Nat))).toNat ∧ (131074 : Int) = (131074 : Int) ∧ (12 : Int) = (12 : Int) ∧ ((0 : Int) ≤ (0 : Int) ∧ (0 : Int) < (2 : Int)) ∧ ((0 : Nat) < (2 : Nat) ∧ (4 : Nat) =
    (4 : Nat) ∧ (4 : Nat) = (4 : Nat) ∧ ((fun (g : Nat) => (↑(topsF (slF W a) y.val.fst g) : Int)) = fun (g : Nat) => (↑(topsF (slF W a) y.val.fst g) : Int)) ∧ (15 : Nat) = (15 : Nat) ∧
    (15 : Nat) = (15 : Nat) ∧ ((fun (s : Nat) => (↑(ownF (slF W a) y.val.fst s) : Int)) = fun (s : Nat) => (↑(ownF (slF W a) y.val.fst s) : Int)) ∧ W = W ∧ (4 : Nat) = (4 : Nat) ∧ cap_1
    = cap_1 ∧ hsF = hsF ∧ (65537 : Int) = (65537 : Int) ∧ (131074 : Int) = (131074 : Int) ∧ (196611 : Int) = (196611 : Int) ∧ (262148 : Int) = (262148 : Int) ∧ (1 : Nat) = (1 : Nat) ∧
    cap = cap ∧ pathF' (Int.ofNat (0 : Nat)).toNat = pathF' (Int.ofNat (0 : Nat)).toNat ∧ (65537 : Int) = (65537 : Int) ∧ (6 : Int) = (6 : Int) ∧ (2 : Nat) = (2 : Nat) ∧ cap_2 = cap_2 ∧
    pathF' (Int.ofNat ((0 : Nat) + (1 : Nat))).toNat = pathF' (Int.ofNat ((0 : Nat) + (1 : Nat))).toNat ∧ (131074 : Int) = (131074 : Int) ∧ (12 : Int) = (12 : Int) ∧
    (((-9223372036854775808 : Int) ≤ (13 : Int) ∧ (13 : Int) ≤ (9223372036854775807 : Int)) ∧ (y.val.snd.snd.read.read.read.read.read.read.Has (131074 : Int) (13 : Int) ∧ (4 : Nat) = (4
    : Nat) ∧ (4 : Nat) = (4 : Nat) ∧ ((fun (g : Nat) => (↑(topsF (slF W a) y.val.fst g) : Int)) = fun (g : Nat) => (↑(topsF (slF W a) y.val.fst g) : Int)) ∧ (15 : Nat) = (15 : Nat) ∧
    (15 : Nat) = (15 : Nat) ∧ ((fun (s : Nat) => (↑(ownF (slF W a) y.val.fst s) : Int)) = fun (s : Nat) => (↑(ownF (slF W a) y.val.fst s) : Int)) ∧ W = W ∧ (4 : Nat) = (4 : Nat) ∧ cap_1
    = cap_1 ∧ hsF = hsF ∧ (65537 : Int) = (65537 : Int) ∧ (131074 : Int) = (131074 : Int) ∧ (196611 : Int) = (196611 : Int) ∧ (262148 : Int) = (262148 : Int) ∧ (1 : Nat) = (1 : Nat) ∧
    cap = cap ∧ pathF' (Int.ofNat (0 : Nat)).toNat = pathF' (Int.ofNat (0 : Nat)).toNat ∧ (65537 : Int) = (65537 : Int) ∧ (6 : Int) = (6 : Int) ∧ (2 : Nat) = (2 : Nat) ∧ cap_2 = cap_2 ∧
    pathF' (Int.ofNat ((0 : Nat) + (1 : Nat))).toNat = pathF' (Int.ofNat ((0 : Nat) + (1 : Nat))).toNat ∧ (131074 : Int) = (131074 : Int) ∧ (12 : Int) = (12 : Int) ∧ (2 : Nat) < (15 :
    Nat) ∧ ((0 : Int) ≤ (↑(ownF (slF W a) y.val.fst (2 : Nat)) : Int) ∧ (↑(ownF (slF W a) y.val.fst (2 : Nat)) : Int) < (18446744073709551616 : Int)) ∧
    ((↑(y.val.snd.snd.read.read.read.read.read.read.rd (131074 : Int) (13 : Int)) : Int) != (↑(ownF (slF W a) y.val.fst (2 : Nat)) : Int)) = false ∧ (2 : Nat) < (4 : Nat) ∧ ((0 : Nat) <
    (3 : Nat) ∧ ∀ (cap_4 : Nat), (3 : Nat) ≤ cap_4 → (4 : Nat) = (4 : Nat) ∧ (4 : Nat) = (4 : Nat) ∧ ((fun (g : Nat) => (↑(topsF (slF W a) y.val.fst g) : Int)) = fun (g : Nat) =>
    (↑(topsF (slF W a) y.val.fst g) : Int)) ∧ (15 : Nat) = (15 : Nat) ∧ (15 : Nat) = (15 : Nat) ∧ ((fun (s : Nat) => (↑(ownF (slF W a) y.val.fst s) : Int)) = fun (s : Nat) => (↑(ownF
    (slF W a) y.val.fst s) : Int)) ∧ W = W ∧ (4 : Nat) = (4 : Nat) ∧ cap_1 = cap_1 ∧ hsF = hsF ∧ (65537 : Int) = (65537 : Int) ∧ (131074 : Int) = (131074 : Int) ∧ (196611 : Int) =
    (196611 : Int) ∧ (262148 : Int) = (262148 : Int) ∧ (1 : Nat) = (1 : Nat) ∧ cap = cap ∧ pathF' (Int.ofNat (0 : Nat)).toNat = pathF' (Int.ofNat (0 : Nat)).toNat ∧ (65537 : Int) =
    (65537 : Int) ∧ (6 : Int) = (6 : Int) ∧ (2 : Nat) = (2 : Nat) ∧ cap_2 = cap_2 ∧ pathF' (Int.ofNat ((0 : Nat) + (1 : Nat))).toNat = pathF' (Int.ofNat ((0 : Nat) + (1 : Nat))).toNat ∧
    (131074 : Int) = (131074 : Int) ∧ (12 : Int) = (12 : Int) ∧ (2 : Nat) = (2 : Nat) ∧ cap_3 = cap_3 ∧ pathF' (Int.ofNat ((1 : Nat) + (1 : Nat))).toNat = pathF' (Int.ofNat ((1 : Nat) +
    (1 : Nat))).toNat ∧ (131074 : Int) = (131074 : Int) ∧ (13 : Int) = (13 : Int) ∧ ((0 : Int) ≤ (0 : Int) ∧ (0 : Int) < (3 : Int)) ∧ ((0 : Nat) < (3 : Nat) ∧ (4 : Nat) = (4 : Nat) ∧ (4
    : Nat) = (4 : Nat) ∧ ((fun (g : Nat) => (↑(topsF (slF W a) y.val.fst g) : Int)) = fun (g : Nat) => (↑(topsF (slF W a) y.val.fst g) : Int)) ∧ (15 : Nat) = (15 : Nat) ∧ (15 : Nat) =
    (15 : Nat) ∧ ((fun (s : Nat) => (↑(ownF (slF W a) y.val.fst s) : Int)) = fun (s : Nat) => (↑(ownF (slF W a) y.val.fst s) : Int)) ∧ W = W ∧ (4 : Nat) = (4 : Nat) ∧ cap_1 = cap_1 ∧
    hsF = hsF ∧ (65537 : Int) = (65537 : Int) ∧ (131074 : Int) = (131074 : Int) ∧ (196611 : Int) = (196611 : Int) ∧ (262148 : Int) = (262148 : Int) ∧ (1 : Nat) = (1 : Nat) ∧ cap = cap ∧
    pathF' (Int.ofNat (0 : Nat)).toNat = pathF' (Int.ofNat (0 : Nat)).toNat ∧ (65537 : Int) = (65537 : Int) ∧ (6 : Int) = (6 : Int) ∧ (2 : Nat) = (2 : Nat) ∧ cap_2 = cap_2 ∧ pathF'
    (Int.ofNat ((0 : Nat) + (1 : Nat))).toNat = pathF' (Int.ofNat ((0 : Nat) + (1 : Nat))).toNat ∧ (131074 : Int) = (131074 : Int) ∧ (12 : Int) = (12 : Int) ∧ (2 : Nat) = (2 : Nat) ∧
    cap_3 = cap_3 ∧ pathF' (Int.ofNat ((1 : Nat) + (1 : Nat))).toNat = pathF' (Int.ofNat ((1 : Nat) + (1 : Nat))).toNat ∧ (131074 : Int) = (131074 : Int) ∧ (13 : Int) = (13 : Int) ∧
    (((-9223372036854775808 : Int) ≤ (24 : Int) ∧ (24 : Int) ≤ (9223372036854775807 : Int)) ∧ (y.val.snd.snd.read.read.read.read.read.read.read.Has (196611 : Int) (24 : Int) ∧ (4 : Nat)
    = (4 : Nat) ∧ (4 : Nat) = (4 : Nat) ∧ ((fun (g : Nat) => (↑(topsF (slF W a) y.val.fst g) : Int)) = fun (g : Nat) => (↑(topsF (slF W a) y.val.fst g) : Int)) ∧ (15 : Nat) = (15 : Nat)
    ∧ (15 : Nat) = (15 : Nat) ∧ ((fun (s : Nat) => (↑(ownF (slF W a) y.val.fst s) : Int)) = fun (s : Nat) => (↑(ownF (slF W a) y.val.fst s) : Int)) ∧ W = W ∧ (4 : Nat) = (4 : Nat) ∧
    cap_1 = cap_1 ∧ hsF = hsF ∧ (65537 : Int) = (65537 : Int) ∧ (131074 : Int) = (131074 : Int) ∧ (196611 : Int) = (196611 : Int) ∧ (262148 : Int) = (262148 : Int) ∧ (1 : Nat) = (1 :
    Nat) ∧ cap = cap ∧ pathF' (Int.ofNat (0 : Nat)).toNat = pathF' (Int.ofNat (0 : Nat)).toNat ∧ (65537 : Int) = (65537 : Int) ∧ (6 : Int) = (6 : Int) ∧ (2 : Nat) = (2 : Nat) ∧ cap_2 =
    cap_2 ∧ pathF' (Int.ofNat ((0 : Nat) + (1 : Nat))).toNat = pathF' (Int.ofNat ((0 : Nat) + (1 : Nat))).toNat ∧ (131074 : Int) = (131074 : Int) ∧ (12 : Int) = (12 : Int) ∧ (2 : Nat) =
    (2 : Nat) ∧ cap_3 = cap_3 ∧ pathF' (Int.ofNat ((1 : Nat) + (1 : Nat))).toNat = pathF' (Int.ofNat ((1 : Nat) + (1 : Nat))).toNat ∧ (131074 : Int) = (131074 : Int) ∧ (13 : Int) = (13
    : Int) ∧ (3 : Nat) < (15 : Nat) ∧ ((0 : Int) ≤ (↑(ownF (slF W a) y.val.fst (3 : Nat)) : Int) ∧ (↑(ownF (slF W a) y.val.fst (3 : Nat)) : Int) < (18446744073709551616 : Int)) ∧
    ((↑(y.val.snd.snd.read.read.read.read.read.read.read.rd (196611 : Int) (24 : Int)) : Int) != (↑(ownF (slF W a) y.val.fst (3 : Nat)) : Int)) = false ∧ (2 : Nat) < (4 : Nat) ∧ ((0 :
    Nat) < (3 : Nat) ∧ ∀ (cap_5 : Nat), (3 : Nat) ≤ cap_5 → (4 : Nat) = (4 : Nat) ∧ (4 : Nat) = (4 : Nat) ∧ ((fun (g : Nat) => (↑(topsF (slF W a) y.val.fst g) : Int)) = fun (g : Nat) =>
    (↑(topsF (slF W a) y.val.fst g) : Int)) ∧ (15 : Nat) = (15 : Nat) ∧ (15 : Nat) = (15 : Nat) ∧ ((fun (s : Nat) => (↑(ownF (slF W a) y.val.fst s) : Int)) = fun (s : Nat) => (↑(ownF
    (slF W a) y.val.fst s) : Int)) ∧ W = W ∧ (4 : Nat) = (4 : Nat) ∧ cap_1 = cap_1 ∧ hsF = hsF ∧ (65537 : Int) = (65537 : Int) ∧ (131074 : Int) = (131074 : Int) ∧ (196611 : Int) =
    (196611 : Int) ∧ (262148 : Int) = (262148 : Int) ∧ (1 : Nat) = (1 : Nat) ∧ cap = cap ∧ pathF' (Int.ofNat (0 : Nat)).toNat = pathF' (Int.ofNat (0 : Nat)).toNat ∧ (65537 : Int) =
    (65537 : Int) ∧ (6 : Int) = (6 : Int) ∧ (2 : Nat) = (2 : Nat) ∧ cap_2 = cap_2 ∧ pathF' (Int.ofNat ((0 : Nat) + (1 : Nat))).toNat = pathF' (Int.ofNat ((0 : Nat) + (1 : Nat))).toNat ∧
    (131074 : Int) = (131074 : Int) ∧ (12 : Int) = (12 : Int) ∧ (2 : Nat) = (2 : Nat) ∧ cap_3 = cap_3 ∧ pathF' (Int.ofNat ((1 : Nat) + (1 : Nat))).toNat = pathF' (Int.ofNat ((1 : Nat) +
    (1 : Nat))).toNat ∧ (131074 : Int) = (131074 : Int) ∧ (13 : Int) = (13 : Int) ∧ (3 : Nat) = (3 : Nat) ∧ cap_4 = cap_4 ∧ pathF' (Int.ofNat ((2 : Nat) + (1 : Nat))).toNat = pathF'
    (Int.ofNat ((2 : Nat) + (1 : Nat))).toNat ∧ (196611 : Int) = (196611 : Int) ∧ (24 : Int) = (24 : Int) ∧ ((0 : Int) ≤ (0 : Int) ∧ (0 : Int) < (3 : Int)) ∧ ((0 : Nat) < (3 : Nat) ∧ (4
    : Nat) = (4 : Nat) ∧ (4 : Nat) = (4 : Nat) ∧ ((fun (g : Nat) => (↑(topsF (slF W a) y.val.fst g) : Int)) = fun (g : Nat) => (↑(topsF (slF W a) y.val.fst g) : Int)) ∧ (15 : Nat) = (15
    : Nat) ∧ (15 : Nat) = (15 : Nat) ∧ ((fun (s : Nat) => (↑(ownF (slF W a) y.val.fst s) : Int)) = fun (s : Nat) => (↑(ownF (slF W a) y.val.fst s) : Int)) ∧ W = W ∧ (4 : Nat) = (4 :
    Nat) ∧ cap_1 = cap_1 ∧ hsF = hsF ∧ (65537 : Int) = (65537 : Int) ∧ (131074 : Int) = (131074 : Int) ∧ (196611 : Int) = (196611 : Int) ∧ (262148 : Int) = (262148 : Int) ∧ (1 : Nat) =
    (1 : Nat) ∧ cap = cap ∧ pathF' (Int.ofNat (0 : Nat)).toNat = pathF' (Int.ofNat (0 : Nat)).toNat ∧ (65537 : Int) = (65537 : Int) ∧ (6 : Int) = (6 : Int) ∧ (2 : Nat) = (2 : Nat) ∧
    cap_2 = cap_2 ∧ pathF' (Int.ofNat ((0 : Nat) + (1 : Nat))).toNat = pathF' (Int.ofNat ((0 : Nat) + (1 : Nat))).toNat ∧ (131074 : Int) = (131074 : Int) ∧ (12 : Int) = (12 : Int) ∧ (2
    : Nat) = (2 : Nat) ∧ cap_3 = cap_3 ∧ pathF' (Int.ofNat ((1 : Nat) + (1 : Nat))).toNat = pathF' (Int.ofNat ((1 : Nat) + (1 : Nat))).toNat ∧ (131074 : Int) = (131074 : Int) ∧ (13 :
    Int) = (13 : Int) ∧ (3 : Nat) = (3 : Nat) ∧ cap_4 = cap_4 ∧ pathF' (Int.ofNat ((2 : Nat) + (1 : Nat))).toNat = pathF' (Int.ofNat ((2 : Nat) + (1 : Nat))).toNat ∧ (196611 : Int) =
    (196611 : Int) ∧ (24 : Int) = (24 : Int) ∧ (((-9223372036854775808 : Int) ≤ (25 : Int) ∧ (25 : Int) ≤ (9223372036854775807 : Int)) ∧
    (y.val.snd.snd.read.read.read.read.read.read.read.read.Has (196611 : Int) (25 : Int) ∧ (4 : Nat) = (4 : Nat) ∧ (4 : Nat) = (4 : Nat) ∧ ((fun (g : Nat) => (↑(topsF (slF W a)
    y.val.fst g) : Int)) = fun (g : Nat) => (↑(topsF (slF W a) y.val.fst g) : Int)) ∧ (15 : Nat) = (15 : Nat) ∧ (15 : Nat) = (15 : Nat) ∧ ((fun (s : Nat) => (↑(ownF (slF W a) y.val.fst
    s) : Int)) = fun (s : Nat) => (↑(ownF (slF W a) y.val.fst s) : Int)) ∧ W = W ∧ (4 : Nat) = (4 : Nat) ∧ cap_1 = cap_1 ∧ hsF = hsF ∧ (65537 : Int) = (65537 : Int) ∧ (131074 : Int) =
    (131074 : Int) ∧ (196611 : Int) = (196611 : Int) ∧ (262148 : Int) = (262148 : Int) ∧ (1 : Nat) = (1 : Nat) ∧ cap = cap ∧ pathF' (Int.ofNat (0 : Nat)).toNat = pathF' (Int.ofNat (0 :
    Nat)).toNat ∧ (65537 : Int) = (65537 : Int) ∧ (6 : Int) = (6 : Int) ∧ (2 : Nat) = (2 : Nat) ∧ cap_2 = cap_2 ∧ pathF' (Int.ofNat ((0 : Nat) + (1 : Nat))).toNat = pathF' (Int.ofNat
    ((0 : Nat) + (1 : Nat))).toNat ∧ (131074 : Int) = (131074 : Int) ∧ (12 : Int) = (12 : Int) ∧ (2 : Nat) = (2 : Nat) ∧ cap_3 = cap_3 ∧ pathF' (Int.ofNat ((1 : Nat) + (1 : Nat))).toNat
    = pathF' (Int.ofNat ((1 : Nat) + (1 : Nat))).toNat ∧ (131074 : Int) = (131074 : Int) ∧ (13 : Int) = (13 : Int) ∧ (3 : Nat) = (3 : Nat) ∧ cap_4 = cap_4 ∧ pathF' (Int.ofNat ((2 : Nat)
    + (1 : Nat))).toNat = pathF' (Int.ofNat ((2 : Nat) + (1 : Nat))).toNat ∧ (196611 : Int) = (196611 : Int) ∧ (24 : Int) = (24 : Int) ∧ (4 : Nat) < (15 : Nat) ∧ ((0 : Int) ≤ (↑(ownF
    (slF W a) y.val.fst (4 : Nat)) : Int) ∧ (↑(ownF (slF W a) y.val.fst (4 : Nat)) : Int) < (18446744073709551616 : Int)) ∧ ((↑(y.val.snd.snd.read.read.read.read.read.read.read.read.rd
    (196611 : Int) (25 : Int)) : Int) != (↑(ownF (slF W a) y.val.fst (4 : Nat)) : Int)) = false ∧ (2 : Nat) < (4 : Nat) ∧ ((0 : Nat) < (3 : Nat) ∧ ∀ (cap_6 : Nat), (3 : Nat) ≤ cap_6 →
    (4 : Nat) = (4 : Nat) ∧ (4 : Nat) = (4 : Nat) ∧ ((fun (g : Nat) => (↑(topsF (slF W a) y.val.fst g) : Int)) = fun (g : Nat) => (↑(topsF (slF W a) y.val.fst g) : Int)) ∧ (15 : Nat) =
    (15 : Nat) ∧ (15 : Nat) = (15 : Nat) ∧ ((fun (s : Nat) => (↑(ownF (slF W a) y.val.fst s) : Int)) = fun (s : Nat) => (↑(ownF (slF W a) y.val.fst s) : Int)) ∧ W = W ∧ (4 : Nat) = (4 :
    Nat) ∧ cap_1 = cap_1 ∧ hsF = hsF ∧ (65537 : Int) = (65537 : Int) ∧ (131074 : Int) = (131074 : Int) ∧ (196611 : Int) = (196611 : Int) ∧ (262148 : Int) = (262148 : Int) ∧ (1 : Nat) =
    (1 : Nat) ∧ cap = cap ∧ pathF' (Int.ofNat (0 : Nat)).toNat = pathF' (Int.ofNat (0 : Nat)).toNat ∧ (65537 : Int) = (65537 : Int) ∧ (6 : Int) = (6 : Int) ∧ (2 : Nat) = (2 : Nat) ∧
    cap_2 = cap_2 ∧ pathF' (Int.ofNat ((0 : Nat) + (1 : Nat))).toNat = pathF' (Int.ofNat ((0 : Nat) + (1 : Nat))).toNat ∧ (131074 : Int) = (131074 : Int) ∧ (12 : Int) = (12 : Int) ∧ (2
    : Nat) = (2 : Nat) ∧ cap_3 = cap_3 ∧ pathF' (Int.ofNat ((1 : Nat) + (1 : Nat))).toNat = pathF' (Int.ofNat ((1 : Nat) + (1 : Nat))).toNat ∧ (131074 : Int) = (131074 : Int) ∧ (13 :
    Int) = (13 : Int) ∧ (3 : Nat) = (3 : Nat) ∧ cap_4 = cap_4 ∧ pathF' (Int.ofNat ((2 : Nat) + (1 : Nat))).toNat = pathF' (Int.ofNat ((2 : Nat) + (1 : Nat))).toNat ∧ (196611 : Int) =
    (196611 : Int) ∧ (24 : Int) = (24 : Int) ∧ (3 : Nat) = (3 : Nat) ∧ cap_5 = cap_5 ∧ pathF' (Int.ofNat ((3 : Nat) + (1 : Nat))).toNat = pathF' (Int.ofNat ((3 : Nat) + (1 :
    Nat))).toNat ∧ (196611 : Int) = (196611 : Int) ∧ (25 : Int) = (25 : Int) ∧ ((0 : Int) ≤ (0 : Int) ∧ (0 : Int) < (3 : Int)) ∧ ((0 : Nat) < (3 : Nat) ∧ (4 : Nat) = (4 : Nat) ∧ (4 :
    Nat) = (4 : Nat) ∧ ((fun (g : Nat) => (↑(topsF (slF W a) y.val.fst g) : Int)) = fun (g : Nat) => (↑(topsF (slF W a) y.val.fst g) : Int)) ∧ (15 : Nat) = (15 : Nat) ∧ (15 : Nat) = (15
    : Nat) ∧ ((fun (s : Nat) => (↑(ownF (slF W a) y.val.fst s) : Int)) = fun (s : Nat) => (↑(ownF (slF W a) y.val.fst s) : Int)) ∧ W = W ∧ (4 : Nat) = (4 : Nat) ∧ cap_1 = cap_1 ∧ hsF =
    hsF ∧ (65537 : Int) = (65537 : Int) ∧ (131074 : Int) = (131074 : Int) ∧ (196611 : Int) = (196611 : Int) ∧ (262148 : Int) = (262148 : Int) ∧ (1 : Nat) = (1 : Nat) ∧ cap = cap ∧
    pathF' (Int.ofNat (0 : Nat)).toNat = pathF' (Int.ofNat (0 : Nat)).toNat ∧ (65537 : Int) = (65537 : Int) ∧ (6 : Int) = (6 : Int) ∧ (2 : Nat) = (2 : Nat) ∧ cap_2 = cap_2 ∧ pathF'
    (Int.ofNat ((0 : Nat) + (1 : Nat))).toNat = pathF' (Int.ofNat ((0 : Nat) + (1 : Nat))).toNat ∧ (131074 : Int) = (131074 : Int) ∧ (12 : Int) = (12 : Int) ∧ (2 : Nat) = (2 : Nat) ∧
    cap_3 = cap_3 ∧ pathF' (Int.ofNat ((1 : Nat) + (1 : Nat))).toNat = pathF' (Int.ofNat ((1 : Nat) + (1 : Nat))).toNat ∧ (131074 : Int) = (131074 : Int) ∧ (13 : Int) = (13 : Int) ∧ (3
    : Nat) = (3 : Nat) ∧ cap_4 = cap_4 ∧ pathF' (Int.ofNat ((2 : Nat) + (1 : Nat))).toNat = pathF' (Int.ofNat ((2 : Nat) + (1 : Nat))).toNat ∧ (196611 : Int) = (196611 : Int) ∧ (24 :
    Int) = (24 : Int) ∧ (3 : Nat) = (3 : Nat) ∧ cap_5 = cap_5 ∧ pathF' (Int.ofNat ((3 : Nat) + (1 : Nat))).toNat = pathF' (Int.ofNat ((3 : Nat) + (1 : Nat))).toNat ∧ (196611 : Int) =
    (196611 : Int) ∧ (25 : Int) = (25 : Int) ∧ (((-9223372036854775808 : Int) ≤ (26 : Int) ∧ (26 : Int) ≤ (9223372036854775807 : Int)) ∧
    (y.val.snd.snd.read.read.read.read.read.read.read.read.read.Has (196611 : Int) (26 : Int) ∧ (4 : Nat) = (4 : Nat) ∧ (4 : Nat) = (4 : Nat) ∧ ((fun (g : Nat) => (↑(topsF (slF W a)
    y.val.fst g) : Int)) = fun (g : Nat) => (↑(topsF (slF W a) y.val.fst g) : Int)) ∧ (15 : Nat) = (15 : Nat) ∧ (15 : Nat) = (15 : Nat) ∧ ((fun (s : Nat) => (↑(ownF (slF W a) y.val.fst
    s) : Int)) = fun (s : Nat) => (↑(ownF (slF W a) y.val.fst s) : Int)) ∧ W = W ∧ (4 : Nat) = (4 : Nat) ∧ cap_1 = cap_1 ∧ hsF = hsF ∧ (65537 : Int) = (65537 : Int) ∧ (131074 : Int) =
    (131074 : Int) ∧ (196611 : Int) = (196611 : Int) ∧ (262148 : Int) = (262148 : Int) ∧ (1 : Nat) = (1 : Nat) ∧ cap = cap ∧ pathF' (Int.ofNat (0 : Nat)).toNat = pathF' (Int.ofNat (0 :
    Nat)).toNat ∧ (65537 : Int) = (65537 : Int) ∧ (6 : Int) = (6 : Int) ∧ (2 : Nat) = (2 : Nat) ∧ cap_2 = cap_2 ∧ pathF' (Int.ofNat ((0 : Nat) + (1 : Nat))).toNat = pathF' (Int.ofNat
    ((0 : Nat) + (1 : Nat))).toNat ∧ (131074 : Int) = (131074 : Int) ∧ (12 : Int) = (12 : Int) ∧ (2 : Nat) = (2 : Nat) ∧ cap_3 = cap_3 ∧ pathF' (Int.ofNat ((1 : Nat) + (1 : Nat))).toNat
    = pathF' (Int.ofNat ((1 : Nat) + (1 : Nat))).toNat ∧ (131074 : Int) = (131074 : Int) ∧ (13 : Int) = (13 : Int) ∧ (3 : Nat) = (3 : Nat) ∧ cap_4 = cap_4 ∧ pathF' (Int.ofNat ((2 : Nat)
    + (1 : Nat))).toNat = pathF' (Int.ofNat ((2 : Nat) + (1 : Nat))).toNat ∧ (196611 : Int) = (196611 : Int) ∧ (24 : Int) = (24 : Int) ∧ (3 : Nat) = (3 : Nat) ∧ cap_5 = cap_5 ∧ pathF'
    (Int.ofNat ((3 : Nat) + (1 : Nat))).toNat = pathF' (Int.ofNat ((3 : Nat) + (1 : Nat))).toNat ∧ (196611 : Int) = (196611 : Int) ∧ (25 : Int) = (25 : Int) ∧ (5 : Nat) < (15 : Nat) ∧
    ((0 : Int) ≤ (↑(ownF (slF W a) y.val.fst (5 : Nat)) : Int) ∧ (↑(ownF (slF W a) y.val.fst (5 : Nat)) : Int) < (18446744073709551616 : Int)) ∧
    ((↑(y.val.snd.snd.read.read.read.read.read.read.read.read.read.rd (196611 : Int) (26 : Int)) : Int) != (↑(ownF (slF W a) y.val.fst (5 : Nat)) : Int)) = false ∧ (2 : Nat) < (4 : Nat)
    ∧ ((0 : Nat) < (3 : Nat) ∧ ∀ (cap_7 : Nat), (3 : Nat) ≤ cap_7 → (4 : Nat) = (4 : Nat) ∧ (4 : Nat) = (4 : Nat) ∧ ((fun (g : Nat) => (↑(topsF (slF W a) y.val.fst g) : Int)) = fun (g :
    Nat) => (↑(topsF (slF W a) y.val.fst g) : Int)) ∧ (15 : Nat) = (15 : Nat) ∧ (15 : Nat) = (15 : Nat) ∧ ((fun (s : Nat) => (↑(ownF (slF W a) y.val.fst s) : Int)) = fun (s : Nat) =>
    (↑(ownF (slF W a) y.val.fst s) : Int)) ∧ W = W ∧ (4 : Nat) = (4 : Nat) ∧ cap_1 = cap_1 ∧ hsF = hsF ∧ (65537 : Int) = (65537 : Int) ∧ (131074 : Int) = (131074 : Int) ∧ (196611 : Int)
    = (196611 : Int) ∧ (262148 : Int) = (262148 : Int) ∧ (1 : Nat) = (1 : Nat) ∧ cap = cap ∧ pathF' (Int.ofNat (0 : Nat)).toNat = pathF' (Int.ofNat (0 : Nat)).toNat ∧ (65537 : Int) =
    (65537 : Int) ∧ (6 : Int) = (6 : Int) ∧ (2 : Nat) = (2 : Nat) ∧ cap_2 = cap_2 ∧ pathF' (Int.ofNat ((0 : Nat) + (1 : Nat))).toNat = pathF' (Int.ofNat ((0 : Nat) + (1 : Nat))).toNat ∧
    (131074 : Int) = (131074 : Int) ∧ (12 : Int) = (12 : Int) ∧ (2 : Nat) = (2 : Nat) ∧ cap_3 = cap_3 ∧ pathF' (Int.ofNat ((1 : Nat) + (1 : Nat))).toNat = pathF' (Int.ofNat ((1 : Nat) +
    (1 : Nat))).toNat ∧ (131074 : Int) = (131074 : Int) ∧ (13 : Int) = (13 : Int) ∧ (3 : Nat) = (3 : Nat) ∧ cap_4 = cap_4 ∧ pathF' (Int.ofNat ((2 : Nat) + (1 : Nat))).toNat = pathF'
    (Int.ofNat ((2 : Nat) + (1 : Nat))).toNat ∧ (196611 : Int) = (196611 : Int) ∧ (24 : Int) = (24 : Int) ∧ (3 : Nat) = (3 : Nat) ∧ cap_5 = cap_5 ∧ pathF' (Int.ofNat ((3 : Nat) + (1 :
    Nat))).toNat = pathF' (Int.ofNat ((3 : Nat) + (1 : Nat))).toNat ∧ (196611 : Int) = (196611 : Int) ∧ (25 : Int) = (25 : Int) ∧ (3 : Nat) = (3 : Nat) ∧ cap_6 = cap_6 ∧ pathF'
    (Int.ofNat ((4 : Nat) + (1 : Nat))).toNat = pathF' (Int.ofNat ((4 : Nat) + (1 : Nat))).toNat ∧ (196611 : Int) = (196611 : Int) ∧ (26 : Int) = (26 : Int) ∧ ((0 : Int) ≤ (0 : Int) ∧
    (0 : Int) < (3 : Int)) ∧ ((0 : Nat) < (3 : Nat) ∧ (4 : Nat) = (4 : Nat) ∧ (4 : Nat) = (4 : Nat) ∧ ((fun (g : Nat) => (↑(topsF (slF W a) y.val.fst g) : Int)) = fun (g : Nat) =>
    (↑(topsF (slF W a) y.val.fst g) : Int)) ∧ (15 : Nat) = (15 : Nat) ∧ (15 : Nat) = (15 : Nat) ∧ ((fun (s : Nat) => (↑(ownF (slF W a) y.val.fst s) : Int)) = fun (s : Nat) => (↑(ownF
    (slF W a) y.val.fst s) : Int)) ∧ W = W ∧ (4 : Nat) = (4 : Nat) ∧ cap_1 = cap_1 ∧ hsF = hsF ∧ (65537 : Int) = (65537 : Int) ∧ (131074 : Int) = (131074 : Int) ∧ (196611 : Int) =
    (196611 : Int) ∧ (262148 : Int) = (262148 : Int) ∧ (1 : Nat) = (1 : Nat) ∧ cap = cap ∧ pathF' (Int.ofNat (0 : Nat)).toNat = pathF' (Int.ofNat (0 : Nat)).toNat ∧ (65537 : Int) =
    (65537 : Int) ∧ (6 : Int) = (6 : Int) ∧ (2 : Nat) = (2 : Nat) ∧ cap_2 = cap_2 ∧ pathF' (Int.ofNat ((0 : Nat) + (1 : Nat))).toNat = pathF' (Int.ofNat ((0 : Nat) + (1 : Nat))).toNat ∧
    (131074 : Int) = (131074 : Int) ∧ (12 : Int) = (12 : Int) ∧ (2 : Nat) = (2 : Nat) ∧ cap_3 = cap_3 ∧ pathF' (Int.ofNat ((1 : Nat) + (1 : Nat))).toNat = pathF' (Int.ofNat ((1 : Nat) +
    (1 : Nat))).toNat ∧ (131074 : Int) = (131074 : Int) ∧ (13 : Int) = (13 : Int) ∧ (3 : Nat) = (3 : Nat) ∧ cap_4 = cap_4 ∧ pathF' (Int.ofNat ((2 : Nat) + (1 : Nat))).toNat = pathF'
    (Int.ofNat ((2 : Nat) + (1 : Nat))).toNat ∧ (196611 : Int) = (196611 : Int) ∧ (24 : Int) = (24 : Int) ∧ (3 : Nat) = (3 : Nat) ∧ cap_5 = cap_5 ∧ pathF' (Int.ofNat ((3 : Nat) + (1 :
    Nat))).toNat = pathF' (Int.ofNat ((3 : Nat) + (1 : Nat))).toNat ∧ (196611 : Int) = (196611 : Int) ∧ (25 : Int) = (25 : Int) ∧ (3 : Nat) = (3 : Nat) ∧ cap_6 = cap_6 ∧ pathF'
    (Int.ofNat ((4 : Nat) + (1 : Nat))).toNat = pathF' (Int.ofNat ((4 : Nat) + (1 : Nat))).toNat ∧ (196611 : Int) = (196611 : Int) ∧ (26 : Int) = (26 : Int) ∧ (((-9223372036854775808 :
    Int) ≤ (27 : Int) ∧ (27 : Int) ≤ (9223372036854775807 : Int)) ∧ (y.val.snd.snd.read.read.read.read.read.read.read.read.read.read.Has (196611 : Int) (27 : Int) ∧ (4 : Nat) = (4 :
    Nat) ∧ (4 : Nat) = (4 : Nat) ∧ ((fun (g : Nat) => (↑(topsF (slF W a) y.val.fst g) : Int)) = fun (g : Nat) => (↑(topsF (slF W a) y.val.fst g) : Int)) ∧ (15 : Nat) = (15 : Nat) ∧ (15
    : Nat) = (15 : Nat) ∧ ((fun (s : Nat) => (↑(ownF (slF W a) y.val.fst s) : Int)) = fun (s : Nat) => (↑(ownF (slF W a) y.val.fst s) : Int)) ∧ W = W ∧ (4 : Nat) = (4 : Nat) ∧ cap_1 =
    cap_1 ∧ hsF = hsF ∧ (65537 : Int) = (65537 : Int) ∧ (131074 : Int) = (131074 : Int) ∧ (196611 : Int) = (196611 : Int) ∧ (262148 : Int) = (262148 : Int) ∧ (1 : Nat) = (1 : Nat) ∧ cap
    = cap ∧ pathF' (Int.ofNat (0 : Nat)).toNat = pathF' (Int.ofNat (0 : Nat)).toNat ∧ (65537 : Int) = (65537 : Int) ∧ (6 : Int) = (6 : Int) ∧ (2 : Nat) = (2 : Nat) ∧ cap_2 = cap_2 ∧
    pathF' (Int.ofNat ((0 : Nat) + (1 : Nat))).toNat = pathF' (Int.ofNat ((0 : Nat) + (1 : Nat))).toNat ∧ (131074 : Int) = (131074 : Int) ∧ (12 : Int) = (12 : Int) ∧ (2 : Nat) = (2 :
    Nat) ∧ cap_3 = cap_3 ∧ pathF' (Int.ofNat ((1 : Nat) + (1 : Nat))).toNat = pathF' (Int.ofNat ((1 : Nat) + (1 : Nat))).toNat ∧ (131074 : Int) = (131074 : Int) ∧ (13 : Int) = (13 :
    Int) ∧ (3 : Nat) = (3 : Nat) ∧ cap_4 = cap_4 ∧ pathF' (Int.ofNat ((2 : Nat) + (1 : Nat))).toNat = pathF' (Int.ofNat ((2 : Nat) + (1 : Nat))).toNat ∧ (196611 : Int) = (196611 : Int)
    ∧ (24 : Int) = (24 : Int) ∧ (3 : Nat) = (3 : Nat) ∧ cap_5 = cap_5 ∧ pathF' (Int.ofNat ((3 : Nat) + (1 : Nat))).toNat = pathF' (Int.ofNat ((3 : Nat) + (1 : Nat))).toNat ∧ (196611 :
    Int) = (196611 : Int) ∧ (25 : Int) = (25 : Int) ∧ (3 : Nat) = (3 : Nat) ∧ cap_6 = cap_6 ∧ pathF' (Int.ofNat ((4 : Nat) + (1 : Nat))).toNat = pathF' (Int.ofNat ((4 : Nat) + (1 :
    Nat))).toNat ∧ (196611 : Int) = (196611 : Int) ∧ (26 : Int) = (26 : Int) ∧ (6 : Nat) < (15 : Nat) ∧ ((0 : Int) ≤ (↑(ownF (slF W a) y.val.fst (6 : Nat)) : Int) ∧ (↑(ownF (slF W a)
    y.val.fst (6 : Nat)) : Int) < (18446744073709551616 : Int)) ∧ ((↑(y.val.snd.snd.read.read.read.read.read.read.read.read.read.read.rd (196611 : Int) (27 : Int)) : Int) != (↑(ownF
    (slF W a) y.val.fst (6 : Nat)) : Int)) = false ∧ (3 : Nat) < (4 : Nat) ∧ ((0 : Nat) < (4 : Nat) ∧ ∀ (cap_8 : Nat), (4 : Nat) ≤ cap_8 → (4 : Nat) = (4 : Nat) ∧ (4 : Nat) = (4 : Nat)
    ∧ ((fun (g : Nat) => (↑(topsF (slF W a) y.val.fst g) : Int)) = fun (g : Nat) => (↑(topsF (slF W a) y.val.fst g) : Int)) ∧ (15 : Nat) = (15 : Nat) ∧ (15 : Nat) = (15 : Nat) ∧ ((fun
    (s : Nat) => (↑(ownF (slF W a) y.val.fst s) : Int)) = fun (s : Nat) => (↑(ownF (slF W a) y.val.fst s) : Int)) ∧ W = W ∧ (4 : Nat) = (4 : Nat) ∧ cap_1 = cap_1 ∧ hsF = hsF ∧ (65537 :
    Int) = (65537 : Int) ∧ (131074 : Int) = (131074 : Int) ∧ (196611 : Int) = (196611 : Int) ∧ (262148 : Int) = (262148 : Int) ∧ (1 : Nat) = (1 : Nat) ∧ cap = cap ∧ pathF' (Int.ofNat (0
    : Nat)).toNat = pathF' (Int.ofNat (0 : Nat)).toNat ∧ (65537 : Int) = (65537 : Int) ∧ (6 : Int) = (6 : Int) ∧ (2 : Nat) = (2 : Nat) ∧ cap_2 = cap_2 ∧ pathF' (Int.ofNat ((0 : Nat) +
    (1 : Nat))).toNat = pathF' (Int.ofNat ((0 : Nat) + (1 : Nat))).toNat ∧ (131074 : Int) = (131074 : Int) ∧ (12 : Int) = (12 : Int) ∧ (2 : Nat) = (2 : Nat) ∧ cap_3 = cap_3 ∧ pathF'
    (Int.ofNat ((1 : Nat) + (1 : Nat))).toNat = pathF' (Int.ofNat ((1 : Nat) + (1 : Nat))).toNat ∧ (131074 : Int) = (131074 : Int) ∧ (13 : Int) = (13 : Int) ∧ (3 : Nat) = (3 : Nat) ∧
    cap_4 = cap_4 ∧ pathF' (Int.ofNat ((2 : Nat) + (1 : Nat))).toNat = pathF' (Int.ofNat ((2 : Nat) + (1 : Nat))).toNat ∧ (196611 : Int) = (196611 : Int) ∧ (24 : Int) = (24 : Int) ∧ (3
    : Nat) = (3 : Nat) ∧ cap_5 = cap_5 ∧ pathF' (Int.ofNat ((3 : Nat) + (1 : Nat))).toNat = pathF' (Int.ofNat ((3 : Nat) + (1 : Nat))).toNat ∧ (196611 : Int) = (196611 : Int) ∧ (25 :
    Int) = (25 : Int) ∧ (3 : Nat) = (3 : Nat) ∧ cap_6 = cap_6 ∧ pathF' (Int.ofNat ((4 : Nat) + (1 : Nat))).toNat = pathF' (Int.ofNat ((4 : Nat) + (1 : Nat))).toNat ∧ (196611 : Int) =
    (196611 : Int) ∧ (26 : Int) = (26 : Int) ∧ (3 : Nat) = (3 : Nat) ∧ cap_7 = cap_7 ∧ pathF' (Int.ofNat ((5 : Nat) + (1 : Nat))).toNat = pathF' (Int.ofNat ((5 : Nat) + (1 :
    Nat))).toNat ∧ (196611 : Int) = (196611 : Int) ∧ (27 : Int) = (27 : Int) ∧ ((0 : Int) ≤ (0 : Int) ∧ (0 : Int) < (4 : Int)) ∧ ((0 : Nat) < (4 : Nat) ∧ (4 : Nat) = (4 : Nat) ∧ (4 :
    Nat) = (4 : Nat) ∧ ((fun (g : Nat) => (↑(topsF (slF W a) y.val.fst g) : Int)) = fun (g : Nat) => (↑(topsF (slF W a) y.val.fst g) : Int)) ∧ (15 : Nat) = (15 : Nat) ∧ (15 : Nat) = (15
    : Nat) ∧ ((fun (s : Nat) => (↑(ownF (slF W a) y.val.fst s) : Int)) = fun (s : Nat) => (↑(ownF (slF W a) y.val.fst s) : Int)) ∧ W = W ∧ (4 : Nat) = (4 : Nat) ∧ cap_1 = cap_1 ∧ hsF =
    hsF ∧ (65537 : Int) = (65537 : Int) ∧ (131074 : Int) = (131074 : Int) ∧ (196611 : Int) = (196611 : Int) ∧ (262148 : Int) = (262148 : Int) ∧ (1 : Nat) = (1 : Nat) ∧ cap = cap ∧
    pathF' (Int.ofNat (0 : Nat)).toNat = pathF' (Int.ofNat (0 : Nat)).toNat ∧ (65537 : Int) = (65537 : Int) ∧ (6 : Int) = (6 : Int) ∧ (2 : Nat) = (2 : Nat) ∧ cap_2 = cap_2 ∧ pathF'
    (Int.ofNat ((0 : Nat) + (1 : Nat))).toNat = pathF' (Int.ofNat ((0 : Nat) + (1 : Nat))).toNat ∧ (131074 : Int) = (131074 : Int) ∧ (12 : Int) = (12 : Int) ∧ (2 : Nat) = (2 : Nat) ∧
    cap_3 = cap_3 ∧ pathF' (Int.ofNat ((1 : Nat) + (1 : Nat))).toNat = pathF' (Int.ofNat ((1 : Nat) + (1 : Nat))).toNat ∧ (131074 : Int) = (131074 : Int) ∧ (13 : Int) = (13 : Int) ∧ (3
    : Nat) = (3 : Nat) ∧ cap_4 = cap_4 ∧ pathF' (Int.ofNat ((2 : Nat) + (1 : Nat))).toNat = pathF' (Int.ofNat ((2 : Nat) + (1 : Nat))).toNat ∧ (196611 : Int) = (196611 : Int) ∧ (24 :
    Int) = (24 : Int) ∧ (3 : Nat) = (3 : Nat) ∧ cap_5 = cap_5 ∧ pathF' (Int.ofNat ((3 : Nat) + (1 : Nat))).toNat = pathF' (Int.ofNat ((3 : Nat) + (1 : Nat))).toNat ∧ (196611 : Int) =
    (196611 : Int) ∧ (25 : Int) = (25 : Int) ∧ (3 : Nat) = (3 : Nat) ∧ cap_6 = cap_6 ∧ pathF' (Int.ofNat ((4 : Nat) + (1 : Nat))).toNat = pathF' (Int.ofNat ((4 : Nat) + (1 :
    Nat))).toNat ∧ (196611 : Int) = (196611 : Int) ∧ (26 : Int) = (26 : Int) ∧ (3 : Nat) = (3 : Nat) ∧ cap_7 = cap_7 ∧ pathF' (Int.ofNat ((5 : Nat) + (1 : Nat))).toNat = pathF'
    (Int.ofNat ((5 : Nat) + (1 : Nat))).toNat ∧ (196611 : Int) = (196611 : Int) ∧ (27 : Int) = (27 : Int) ∧ (((-9223372036854775808 : Int) ≤ (48 : Int) ∧ (48 : Int) ≤
    (9223372036854775807 : Int)) ∧ (y.val.snd.snd.read.read.read.read.read.read.read.read.read.read.read.Has (262148 : Int) (48 : Int) ∧ (4 : Nat) = (4 : Nat) ∧ (4 : Nat) = (4 : Nat) ∧
    ((fun (g : Nat) => (↑(topsF (slF W a) y.val.fst g) : Int)) = fun (g : Nat) => (↑(topsF (slF W a) y.val.fst g) : Int)) ∧ (15 : Nat) = (15 : Nat) ∧ (15 : Nat) = (15 : Nat) ∧ ((fun (s
    : Nat) => (↑(ownF (slF W a) y.val.fst s) : Int)) = fun (s : Nat) => (↑(ownF (slF W a) y.val.fst s) : Int)) ∧ W = W ∧ (4 : Nat) = (4 : Nat) ∧ cap_1 = cap_1 ∧ hsF = hsF ∧ (65537 :
    Int) = (65537 : Int) ∧ (131074 : Int) = (131074 : Int) ∧ (196611 : Int) = (196611 : Int) ∧ (262148 : Int) = (262148 : Int) ∧ (1 : Nat) = (1 : Nat) ∧ cap = cap ∧ pathF' (Int.ofNat (0
    : Nat)).toNat = pathF' (Int.ofNat (0 : Nat)).toNat ∧ (65537 : Int) = (65537 : Int) ∧ (6 : Int) = (6 : Int) ∧ (2 : Nat) = (2 : Nat) ∧ cap_2 = cap_2 ∧ pathF' (Int.ofNat ((0 : Nat) +
    (1 : Nat))).toNat = pathF' (Int.ofNat ((0 : Nat) + (1 : Nat))).toNat ∧ (131074 : Int) = (131074 : Int) ∧ (12 : Int) = (12 : Int) ∧ (2 : Nat) = (2 : Nat) ∧ cap_3 = cap_3 ∧ pathF'
    (Int.ofNat ((1 : Nat) + (1 : Nat))).toNat = pathF' (Int.ofNat ((1 : Nat) + (1 : Nat))).toNat ∧ (131074 : Int) = (131074 : Int) ∧ (13 : Int) = (13 : Int) ∧ (3 : Nat) = (3 : Nat) ∧
    cap_4 = cap_4 ∧ pathF' (Int.ofNat ((2 : Nat) + (1 : Nat))).toNat = pathF' (Int.ofNat ((2 : Nat) + (1 : Nat))).toNat ∧ (196611 : Int) = (196611 : Int) ∧ (24 : Int) = (24 : Int) ∧ (3
    : Nat) = (3 : Nat) ∧ cap_5 = cap_5 ∧ pathF' (Int.ofNat ((3 : Nat) + (1 : Nat))).toNat = pathF' (Int.ofNat ((3 : Nat) + (1 : Nat))).toNat ∧ (196611 : Int) = (196611 : Int) ∧ (25 :
    Int) = (25 : Int) ∧ (3 : Nat) = (3 : Nat) ∧ cap_6 = cap_6 ∧ pathF' (Int.ofNat ((4 : Nat) + (1 : Nat))).toNat = pathF' (Int.ofNat ((4 : Nat) + (1 : Nat))).toNat ∧ (196611 : Int) =
    (196611 : Int) ∧ (26 : Int) = (26 : Int) ∧ (3 : Nat) = (3 : Nat) ∧ cap_7 = cap_7 ∧ pathF' (Int.ofNat ((5 : Nat) + (1 : Nat))).toNat = pathF' (Int.ofNat ((5 : Nat) + (1 :
    Nat))).toNat ∧ (196611 : Int) = (196611 : Int) ∧ (27 : Int) = (27 : Int) ∧ (7 : Nat) < (15 : Nat) ∧ ((0 : Int) ≤ (↑(ownF (slF W a) y.val.fst (7 : Nat)) : Int) ∧ (↑(ownF (slF W a)
    y.val.fst (7 : Nat)) : Int) < (18446744073709551616 : Int)) ∧ ((↑(y.val.snd.snd.read.read.read.read.read.read.read.read.read.read.read.rd (262148 : Int) (48 : Int)) : Int) !=
    (↑(ownF (slF W a) y.val.fst (7 : Nat)) : Int)) = false ∧ (3 : Nat) < (4 : Nat) ∧ ((0 : Nat) < (4 : Nat) ∧ ∀ (cap_9 : Nat), (4 : Nat) ≤ cap_9 → (4 : Nat) = (4 : Nat) ∧ (4 : Nat) = (4
    : Nat) ∧ ((fun (g : Nat) => (↑(topsF (slF W a) y.val.fst g) : Int)) = fun (g : Nat) => (↑(topsF (slF W a) y.val.fst g) : Int)) ∧ (15 : Nat) = (15 : Nat) ∧ (15 : Nat) = (15 : Nat) ∧
    ((fun (s : Nat) => (↑(ownF (slF W a) y.val.fst s) : Int)) = fun (s : Nat) => (↑(ownF (slF W a) y.val.fst s) : Int)) ∧ W = W ∧ (4 : Nat) = (4 : Nat) ∧ cap_1 = cap_1 ∧ hsF = hsF ∧
    (65537 : Int) = (65537 : Int) ∧ (131074 : Int) = (131074 : Int) ∧ (196611 : Int) = (196611 : Int) ∧ (262148 : Int) = (262148 : Int) ∧ (1 : Nat) = (1 : Nat) ∧ cap = cap ∧ pathF'
    (Int.ofNat (0 : Nat)).toNat = pathF' (Int.ofNat (0 : Nat)).toNat ∧ (65537 : Int) = (65537 : Int) ∧ (6 : Int) = (6 : Int) ∧ (2 : Nat) = (2 : Nat) ∧ cap_2 = cap_2 ∧ pathF' (Int.ofNat
    ((0 : Nat) + (1 : Nat))).toNat = pathF' (Int.ofNat ((0 : Nat) + (1 : Nat))).toNat ∧ (131074 : Int) = (131074 : Int) ∧ (12 : Int) = (12 : Int) ∧ (2 : Nat) = (2 : Nat) ∧ cap_3 = cap_3
    ∧ pathF' (Int.ofNat ((1 : Nat) + (1 : Nat))).toNat = pathF' (Int.ofNat ((1 : Nat) + (1 : Nat))).toNat ∧ (131074 : Int) = (131074 : Int) ∧ (13 : Int) = (13 : Int) ∧ (3 : Nat) = (3 :
    Nat) ∧ cap_4 = cap_4 ∧ pathF' (Int.ofNat ((2 : Nat) + (1 : Nat))).toNat = pathF' (Int.ofNat ((2 : Nat) + (1 : Nat))).toNat ∧ (196611 : Int) = (196611 : Int) ∧ (24 : Int) = (24 :
    Int) ∧ (3 : Nat) = (3 : Nat) ∧ cap_5 = cap_5 ∧ pathF' (Int.ofNat ((3 : Nat) + (1 : Nat))).toNat = pathF' (Int.ofNat ((3 : Nat) + (1 : Nat))).toNat ∧ (196611 : Int) = (196611 : Int)
    ∧ (25 : Int) = (25 : Int) ∧ (3 : Nat) = (3 : Nat) ∧ cap_6 = cap_6 ∧ pathF' (Int.ofNat ((4 : Nat) + (1 : Nat))).toNat = pathF' (Int.ofNat ((4 : Nat) + (1 : Nat))).toNat ∧ (196611 :
    Int) = (196611 : Int) ∧ (26 : Int) = (26 : Int) ∧ (3 : Nat) = (3 : Nat) ∧ cap_7 = cap_7 ∧ pathF' (Int.ofNat ((5 : Nat) + (1 : Nat))).toNat = pathF' (Int.ofNat ((5 : Nat) + (1 :
    Nat))).toNat ∧ (196611 : Int) = (196611 : Int) ∧ (27 : Int) = (27 : Int) ∧ (4 : Nat) = (4 : Nat) ∧ cap_8 = cap_8 ∧ pathF' (Int.ofNat ((6 : Nat) + (1 : Nat))).toNat = pathF'
    (Int.ofNat ((6 : Nat) + (1 : Nat))).toNat ∧ (262148 : Int) = (262148 : Int) ∧ (48 : Int) = (48 : Int) ∧ ((0 : Int) ≤ (0 : Int) ∧ (0 : Int) < (4 : Int)) ∧ ((0 : Nat) < (4 : Nat) ∧ (4
    : Nat) = (4 : Nat) ∧ (4 : Nat) = (4 : Nat) ∧ ((fun (g : Nat) => (↑(topsF (slF W a) y.val.fst g) : Int)) = fun (g : Nat) => (↑(topsF (slF W a) y.val.fst g) : Int)) ∧ (15 : Nat) = (15
    : Nat) ∧ (15 : Nat) = (15 : Nat) ∧ ((fun (s : Nat) => (↑(ownF (slF W a) y.val.fst s) : Int)) = fun (s : Nat) => (↑(ownF (slF W a) y.val.fst s) : Int)) ∧ W = W ∧ (4 : Nat) = (4 :
    Nat) ∧ cap_1 = cap_1 ∧ hsF = hsF ∧ (65537 : Int) = (65537 : Int) ∧ (131074 : Int) = (131074 : Int) ∧ (196611 : Int) = (196611 : Int) ∧ (262148 : Int) = (262148 : Int) ∧ (1 : Nat) =
    (1 : Nat) ∧ cap = cap ∧ pathF' (Int.ofNat (0 : Nat)).toNat = pathF' (Int.ofNat (0 : Nat)).toNat ∧ (65537 : Int) = (65537 : Int) ∧ (6 : Int) = (6 : Int) ∧ (2 : Nat) = (2 : Nat) ∧
    cap_2 = cap_2 ∧ pathF' (Int.ofNat ((0 : Nat) + (1 : Nat))).toNat = pathF' (Int.ofNat ((0 : Nat) + (1 : Nat))).toNat ∧ (131074 : Int) = (131074 : Int) ∧ (12 : Int) = (12 : Int) ∧ (2
    : Nat) = (2 : Nat) ∧ cap_3 = cap_3 ∧ pathF' (Int.ofNat ((1 : Nat) + (1 : Nat))).toNat = pathF' (Int.ofNat ((1 : Nat) + (1 : Nat))).toNat ∧ (131074 : Int) = (131074 : Int) ∧ (13 :
    Int) = (13 : Int) ∧ (3 : Nat) = (3 : Nat) ∧ cap_4 = cap_4 ∧ pathF' (Int.ofNat ((2 : Nat) + (1 : Nat))).toNat = pathF' (Int.ofNat ((2 : Nat) + (1 : Nat))).toNat ∧ (196611 : Int) =
    (196611 : Int) ∧ (24 : Int) = (24 : Int) ∧ (3 : Nat) = (3 : Nat) ∧ cap_5 = cap_5 ∧ pathF' (Int.ofNat ((3 : Nat) + (1 : Nat))).toNat = pathF' (Int.ofNat ((3 : Nat) + (1 :
    Nat))).toNat ∧ (196611 : Int) = (196611 : Int) ∧ (25 : Int) = (25 : Int) ∧ (3 : Nat) = (3 : Nat) ∧ cap_6 = cap_6 ∧ pathF' (Int.ofNat ((4 : Nat) + (1 : Nat))).toNat = pathF'
    (Int.ofNat ((4 : Nat) + (1 : Nat))).toNat ∧ (196611 : Int) = (196611 : Int) ∧ (26 : Int) = (26 : Int) ∧ (3 : Nat) = (3 : Nat) ∧ cap_7 = cap_7 ∧ pathF' (Int.ofNat ((5 : Nat) + (1 :
    Nat))).toNat = pathF' (Int.ofNat ((5 : Nat) + (1 : Nat))).toNat ∧ (196611 : Int) = (196611 : Int) ∧ (27 : Int) = (27 : Int) ∧ (4 : Nat) = (4 : Nat) ∧ cap_8 = cap_8 ∧ pathF'
    (Int.ofNat ((6 : Nat) + (1 : Nat))).toNat = pathF' (Int.ofNat ((6 : Nat) + (1 : Nat))).toNat ∧ (262148 : Int) = (262148 : Int) ∧ (48 : Int) = (48 : Int) ∧ (((-9223372036854775808 :
    Int) ≤ (49 : Int) ∧ (49 : Int) ≤ (9223372036854775807 : Int)) ∧ (y.val.snd.snd.read.read.read.read.read.read.read.read.read.read.read.read.Has (262148 : Int) (49 : Int) ∧ (4 : Nat)
    = (4 : Nat) ∧ (4 : Nat) = (4 : Nat) ∧ ((fun (g : Nat) => (↑(topsF (slF W a) y.val.fst g) : Int)) = fun (g : Nat) => (↑(topsF (slF W a) y.val.fst g) : Int)) ∧ (15 : Nat) = (15 : Nat)
    ∧ (15 : Nat) = (15 : Nat) ∧ ((fun (s : Nat) => (↑(ownF (slF W a) y.val.fst s) : Int)) = fun (s : Nat) => (↑(ownF (slF W a) y.val.fst s) : Int)) ∧ W = W ∧ (4 : Nat) = (4 : Nat) ∧
    cap_1 = cap_1 ∧ hsF = hsF ∧ (65537 : Int) = (65537 : Int) ∧ (131074 : Int) = (131074 : Int) ∧ (196611 : Int) = (196611 : Int) ∧ (262148 : Int) = (262148 : Int) ∧ (1 : Nat) = (1 :
    Nat) ∧ cap = cap ∧ pathF' (Int.ofNat (0 : Nat)).toNat = pathF' (Int.ofNat (0 : Nat)).toNat ∧ (65537 : Int) = (65537 : Int) ∧ (6 : Int) = (6 : Int) ∧ (2 : Nat) = (2 : Nat) ∧ cap_2 =
    cap_2 ∧ pathF' (Int.ofNat ((0 : Nat) + (1 : Nat))).toNat = pathF' (Int.ofNat ((0 : Nat) + (1 : Nat))).toNat ∧ (131074 : Int) = (131074 : Int) ∧ (12 : Int) = (12 : Int) ∧ (2 : Nat) =
    (2 : Nat) ∧ cap_3 = cap_3 ∧ pathF' (Int.ofNat ((1 : Nat) + (1 : Nat))).toNat = pathF' (Int.ofNat ((1 : Nat) + (1 : Nat))).toNat ∧ (131074 : Int) = (131074 : Int) ∧ (13 : Int) = (13
    : Int) ∧ (3 : Nat) = (3 : Nat) ∧ cap_4 = cap_4 ∧ pathF' (Int.ofNat ((2 : Nat) + (1 : Nat))).toNat = pathF' (Int.ofNat ((2 : Nat) + (1 : Nat))).toNat ∧ (196611 : Int) = (196611 :
    Int) ∧ (24 : Int) = (24 : Int) ∧ (3 : Nat) = (3 : Nat) ∧ cap_5 = cap_5 ∧ pathF' (Int.ofNat ((3 : Nat) + (1 : Nat))).toNat = pathF' (Int.ofNat ((3 : Nat) + (1 : Nat))).toNat ∧
    (196611 : Int) = (196611 : Int) ∧ (25 : Int) = (25 : Int) ∧ (3 : Nat) = (3 : Nat) ∧ cap_6 = cap_6 ∧ pathF' (Int.ofNat ((4 : Nat) + (1 : Nat))).toNat = pathF' (Int.ofNat ((4 : Nat) +
    (1 : Nat))).toNat ∧ (196611 : Int) = (196611 : Int) ∧ (26 : Int) = (26 : Int) ∧ (3 : Nat) = (3 : Nat) ∧ cap_7 = cap_7 ∧ pathF' (Int.ofNat ((5 : Nat) + (1 : Nat))).toNat = pathF'
    (Int.ofNat ((5 : Nat) + (1 : Nat))).toNat ∧ (196611 : Int) = (196611 : Int) ∧ (27 : Int) = (27 : Int) ∧ (4 : Nat) = (4 : Nat) ∧ cap_8 = cap_8 ∧ pathF' (Int.ofNat ((6 : Nat) + (1 :
    Nat))).toNat = pathF' (Int.ofNat ((6 : Nat) + (1 : Nat))).toNat ∧ (262148 : Int) = (262148 : Int) ∧ (48 : Int) = (48 : Int) ∧ (8 : Nat) < (15 : Nat) ∧ ((0 : Int) ≤ (↑(ownF (slF W a)
    y.val.fst (8 : Nat)) : Int) ∧ (↑(ownF (slF W a) y.val.fst (8 : Nat)) : Int) < (18446744073709551616 : Int)) ∧
    ((↑(y.val.snd.snd.read.read.read.read.read.read.read.read.read.read.read.read.rd (262148 : Int) (49 : Int)) : Int) != (↑(ownF (slF W a) y.val.fst (8 : Nat)) : Int)) = false ∧ (3 :
    Nat) < (4 : Nat) ∧ ((0 : Nat) < (4 : Nat) ∧ ∀ (cap_10 : Nat), (4 : Nat) ≤ cap_10 → (4 : Nat) = (4 : Nat) ∧ (4 : Nat) = (4 : Nat) ∧ ((fun (g : Nat) => (↑(topsF (slF W a) y.val.fst g)
    : Int)) = fun (g : Nat) => (↑(topsF (slF W a) y.val.fst g) : Int)) ∧ (15 : Nat) = (15 : Nat) ∧ (15 : Nat) = (15 : Nat) ∧ ((fun (s : Nat) => (↑(ownF (slF W a) y.val.fst s) : Int)) =
    fun (s : Nat) => (↑(ownF (slF W a) y.val.fst s) : Int)) ∧ W = W ∧ (4 : Nat) = (4 : Nat) ∧ cap_1 = cap_1 ∧ hsF = hsF ∧ (65537 : Int) = (65537 : Int) ∧ (131074 : Int) = (131074 : Int)
    ∧ (196611 : Int) = (196611 : Int) ∧ (262148 : Int) = (262148 : Int) ∧ (1 : Nat) = (1 : Nat) ∧ cap = cap ∧ pathF' (Int.ofNat (0 : Nat)).toNat = pathF' (Int.ofNat (0 : Nat)).toNat ∧
    (65537 : Int) = (65537 : Int) ∧ (6 : Int) = (6 : Int) ∧ (2 : Nat) = (2 : Nat) ∧ cap_2 = cap_2 ∧ pathF' (Int.ofNat ((0 : Nat) + (1 : Nat))).toNat = pathF' (Int.ofNat ((0 : Nat) + (1
    : Nat))).toNat ∧ (131074 : Int) = (131074 : Int) ∧ (12 : Int) = (12 : Int) ∧ (2 : Nat) = (2 : Nat) ∧ cap_3 = cap_3 ∧ pathF' (Int.ofNat ((1 : Nat) + (1 : Nat))).toNat = pathF'
    (Int.ofNat ((1 : Nat) + (1 : Nat))).toNat ∧ (131074 : Int) = (131074 : Int) ∧ (13 : Int) = (13 : Int) ∧ (3 : Nat) = (3 : Nat) ∧ cap_4 = cap_4 ∧ pathF' (Int.ofNat ((2 : Nat) + (1 :
    Nat))).toNat = pathF' (Int.ofNat ((2 : Nat) + (1 : Nat))).toNat ∧ (196611 : Int) = (196611 : Int) ∧ (24 : Int) = (24 : Int) ∧ (3 : Nat) = (3 : Nat) ∧ cap_5 = cap_5 ∧ pathF'
    (Int.ofNat ((3 : Nat) + (1 : Nat))).toNat = pathF' (Int.ofNat ((3 : Nat) + (1 : Nat))).toNat ∧ (196611 : Int) = (196611 : Int) ∧ (25 : Int) = (25 : Int) ∧ (3 : Nat) = (3 : Nat) ∧
    cap_6 = cap_6 ∧ pathF' (Int.ofNat ((4 : Nat) + (1 : Nat))).toNat = pathF' (Int.ofNat ((4 : Nat) + (1 : Nat))).toNat ∧ (196611 : Int) = (196611 : Int) ∧ (26 : Int) = (26 : Int) ∧ (3
    : Nat) = (3 : Nat) ∧ cap_7 = cap_7 ∧ pathF' (Int.ofNat ((5 : Nat) + (1 : Nat))).toNat = pathF' (Int.ofNat ((5 : Nat) + (1 : Nat))).toNat ∧ (196611 : Int) = (196611 : Int) ∧ (27 :
    Int) = (27 : Int) ∧ (4 : Nat) = (4 : Nat) ∧ cap_8 = cap_8 ∧ pathF' (Int.ofNat ((6 : Nat) + (1 : Nat))).toNat = pathF' (Int.ofNat ((6 : Nat) + (1 : Nat))).toNat ∧ (262148 : Int) =
    (262148 : Int) ∧ (48 : Int) = (48 : Int) ∧ (4 : Nat) = (4 : Nat) ∧ cap_9 = cap_9 ∧ pathF' (Int.ofNat ((7 : Nat) + (1 : Nat))).toNat = pathF' (Int.ofNat ((7 : Nat) + (1 :
    Nat))).toNat ∧ (262148 : Int) = (262148 : Int) ∧ (49 : Int) = (49 : Int) ∧ ((0 : Int) ≤ (0 : Int) ∧ (0 : Int) < (4 : Int)) ∧ ((0 : Nat) < (4 : Nat) ∧ (4 : Nat) = (4 : Nat) ∧ (4 :
    Nat) = (4 : Nat) ∧ ((fun (g : Nat) => (↑(topsF (slF W a) y.val.fst g) : Int)) = fun (g : Nat) => (↑(topsF (slF W a) y.val.fst g) : Int)) ∧ (15 : Nat) = (15 : Nat) ∧ (15 : Nat) = (15
    : Nat) ∧ ((fun (s : Nat) => (↑(ownF (slF W a) y.val.fst s) : Int)) = fun (s : Nat) => (↑(ownF (slF W a) y.val.fst s) : Int)) ∧ W = W ∧ (4 : Nat) = (4 : Nat) ∧ cap_1 = cap_1 ∧ hsF =
    hsF ∧ (65537 : Int) = (65537 : Int) ∧ (131074 : Int) = (131074 : Int) ∧ (196611 : Int) = (196611 : Int) ∧ (262148 : Int) = (262148 : Int) ∧ (1 : Nat) = (1 : Nat) ∧ cap = cap ∧
    pathF' (Int.ofNat (0 : Nat)).toNat = pathF' (Int.ofNat (0 : Nat)).toNat ∧ (65537 : Int) = (65537 : Int) ∧ (6 : Int) = (6 : Int) ∧ (2 : Nat) = (2 : Nat) ∧ cap_2 = cap_2 ∧ pathF'
    (Int.ofNat ((0 : Nat) + (1 : Nat))).toNat = pathF' (Int.ofNat ((0 : Nat) + (1 : Nat))).toNat ∧ (131074 : Int) = (131074 : Int) ∧ (12 : Int) = (12 : Int) ∧ (2 : Nat) = (2 : Nat) ∧
    cap_3 = cap_3 ∧ pathF' (Int.ofNat ((1 : Nat) + (1 : Nat))).toNat = pathF' (Int.ofNat ((1 : Nat) + (1 : Nat))).toNat ∧ (131074 : Int) = (131074 : Int) ∧ (13 : Int) = (13 : Int) ∧ (3
    : Nat) = (3 : Nat) ∧ cap_4 = cap_4 ∧ pathF' (Int.ofNat ((2 : Nat) + (1 : Nat))).toNat = pathF' (Int.ofNat ((2 : Nat) + (1 : Nat))).toNat ∧ (196611 : Int) = (196611 : Int) ∧ (24 :
    Int) = (24 : Int) ∧ (3 : Nat) = (3 : Nat) ∧ cap_5 = cap_5 ∧ pathF' (Int.ofNat ((3 : Nat) + (1 : Nat))).toNat = pathF' (Int.ofNat ((3 : Nat) + (1 : Nat))).toNat ∧ (196611 : Int) =
    (196611 : Int) ∧ (25 : Int) = (25 : Int) ∧ (3 : Nat) = (3 : Nat) ∧ cap_6 = cap_6 ∧ pathF' (Int.ofNat ((4 : Nat) + (1 : Nat))).toNat = pathF' (Int.ofNat ((4 : Nat) + (1 :
    Nat))).toNat ∧ (196611 : Int) = (196611 : Int) ∧ (26 : Int) = (26 : Int) ∧ (3 : Nat) = (3 : Nat) ∧ cap_7 = cap_7 ∧ pathF' (Int.ofNat ((5 : Nat) + (1 : Nat))).toNat = pathF'
    (Int.ofNat ((5 : Nat) + (1 : Nat))).toNat ∧ (196611 : Int) = (196611 : Int) ∧ (27 : Int) = (27 : Int) ∧ (4 : Nat) = (4 : Nat) ∧ cap_8 = cap_8 ∧ pathF' (Int.ofNat ((6 : Nat) + (1 :
    Nat))).toNat = pathF' (Int.ofNat ((6 : Nat) + (1 : Nat))).toNat ∧ (262148 : Int) = (262148 : Int) ∧ (48 : Int) = (48 : Int) ∧ (4 : Nat) = (4 : Nat) ∧ cap_9 = cap_9 ∧ pathF'
    (Int.ofNat ((7 : Nat) + (1 : Nat))).toNat = pathF' (Int.ofNat ((7 : Nat) + (1 : Nat))).toNat ∧ (262148 : Int) = (262148 : Int) ∧ (49 : Int) = (49 : Int) ∧ (((-9223372036854775808 :
    Int) ≤ (50 : Int) ∧ (50 : Int) ≤ (9223372036854775807 : Int)) ∧ (y.val.snd.snd.read.read.read.read.read.read.read.read.read.read.read.read.read.Has (262148 : Int) (50 : Int) ∧ (4 :
    Nat) = (4 : Nat) ∧ (4 : Nat) = (4 : Nat) ∧ ((fun (g : Nat) => (↑(topsF (slF W a) y.val.fst g) : Int)) = fun (g : Nat) => (↑(topsF (slF W a) y.val.fst g) : Int)) ∧ (15 : Nat) = (15 :
    Nat) ∧ (15 : Nat) = (15 : Nat) ∧ ((fun (s : Nat) => (↑(ownF (slF W a) y.val.fst s) : Int)) = fun (s : Nat) => (↑(ownF (slF W a) y.val.fst s) : Int)) ∧ W = W ∧ (4 : Nat) = (4 : Nat)
    ∧ cap_1 = cap_1 ∧ hsF = hsF ∧ (65537 : Int) = (65537 : Int) ∧ (131074 : Int) = (131074 : Int) ∧ (196611 : Int) = (196611 : Int) ∧ (262148 : Int) = (262148 : Int) ∧ (1 : Nat) = (1 :
    Nat) ∧ cap = cap ∧ pathF' (Int.ofNat (0 : Nat)).toNat = pathF' (Int.ofNat (0 : Nat)).toNat ∧ (65537 : Int) = (65537 : Int) ∧ (6 : Int) = (6 : Int) ∧ (2 : Nat) = (2 : Nat) ∧ cap_2 =
    cap_2 ∧ pathF' (Int.ofNat ((0 : Nat) + (1 : Nat))).toNat = pathF' (Int.ofNat ((0 : Nat) + (1 : Nat))).toNat ∧ (131074 : Int) = (131074 : Int) ∧ (12 : Int) = (12 : Int) ∧ (2 : Nat) =
    (2 : Nat) ∧ cap_3 = cap_3 ∧ pathF' (Int.ofNat ((1 : Nat) + (1 : Nat))).toNat = pathF' (Int.ofNat ((1 : Nat) + (1 : Nat))).toNat ∧ (131074 : Int) = (131074 : Int) ∧ (13 : Int) = (13
    : Int) ∧ (3 : Nat) = (3 : Nat) ∧ cap_4 = cap_4 ∧ pathF' (Int.ofNat ((2 : Nat) + (1 : Nat))).toNat = pathF' (Int.ofNat ((2 : Nat) + (1 : Nat))).toNat ∧ (196611 : Int) = (196611 :
    Int) ∧ (24 : Int) = (24 : Int) ∧ (3 : Nat) = (3 : Nat) ∧ cap_5 = cap_5 ∧ pathF' (Int.ofNat ((3 : Nat) + (1 : Nat))).toNat = pathF' (Int.ofNat ((3 : Nat) + (1 : Nat))).toNat ∧
    (196611 : Int) = (196611 : Int) ∧ (25 : Int) = (25 : Int) ∧ (3 : Nat) = (3 : Nat) ∧ cap_6 = cap_6 ∧ pathF' (Int.ofNat ((4 : Nat) + (1 : Nat))).toNat = pathF' (Int.ofNat ((4 : Nat) +
    (1 : Nat))).toNat ∧ (196611 : Int) = (196611 : Int) ∧ (26 : Int) = (26 : Int) ∧ (3 : Nat) = (3 : Nat) ∧ cap_7 = cap_7 ∧ pathF' (Int.ofNat ((5 : Nat) + (1 : Nat))).toNat = pathF'
    (Int.ofNat ((5 : Nat) + (1 : Nat))).toNat ∧ (196611 : Int) = (196611 : Int) ∧ (27 : Int) = (27 : Int) ∧ (4 : Nat) = (4 : Nat) ∧ cap_8 = cap_8 ∧ pathF' (Int.ofNat ((6 : Nat) + (1 :
    Nat))).toNat = pathF' (Int.ofNat ((6 : Nat) + (1 : Nat))).toNat ∧ (262148 : Int) = (262148 : Int) ∧ (48 : Int) = (48 : Int) ∧ (4 : Nat) = (4 : Nat) ∧ cap_9 = cap_9 ∧ pathF'
    (Int.ofNat ((7 : Nat) + (1 : Nat))).toNat = pathF' (Int.ofNat ((7 : Nat) + (1 : Nat))).toNat ∧ (262148 : Int) = (262148 : Int) ∧ (49 : Int) = (49 : Int) ∧ (9 : Nat) < (15 : Nat) ∧
    ((0 : Int) ≤ (↑(ownF (slF W a) y.val.fst (9 : Nat)) : Int) ∧ (↑(ownF (slF W a) y.val.fst (9 : Nat)) : Int) < (18446744073709551616 : Int)) ∧
    ((↑(y.val.snd.snd.read.read.read.read.read.read.read.read.read.read.read.read.read.rd (262148 : Int) (50 : Int)) : Int) != (↑(ownF (slF W a) y.val.fst (9 : Nat)) : Int)) = false ∧
    (3 : Nat) < (4 : Nat) ∧ ((0 : Nat) < (4 : Nat) ∧ ∀ (cap_11 : Nat), (4 : Nat) ≤ cap_11 → (4 : Nat) = (4 : Nat) ∧ (4 : Nat) = (4 : Nat) ∧ ((fun (g : Nat) => (↑(topsF (slF W a)
    y.val.fst g) : Int)) = fun (g : Nat) => (↑(topsF (slF W a) y.val.fst g) : Int)) ∧ (15 : Nat) = (15 : Nat) ∧ (15 : Nat) = (15 : Nat) ∧ ((fun (s : Nat) => (↑(ownF (slF W a) y.val.fst
    s) : Int)) = fun (s : Nat) => (↑(ownF (slF W a) y.val.fst s) : Int)) ∧ W = W ∧ (4 : Nat) = (4 : Nat) ∧ cap_1 = cap_1 ∧ hsF = hsF ∧ (65537 : Int) = (65537 : Int) ∧ (131074 : Int) =
    (131074 : Int) ∧ (196611 : Int) = (196611 : Int) ∧ (262148 : Int) = (262148 : Int) ∧ (1 : Nat) = (1 : Nat) ∧ cap = cap ∧ pathF' (Int.ofNat (0 : Nat)).toNat = pathF' (Int.ofNat (0 :
    Nat)).toNat ∧ (65537 : Int) = (65537 : Int) ∧ (6 : Int) = (6 : Int) ∧ (2 : Nat) = (2 : Nat) ∧ cap_2 = cap_2 ∧ pathF' (Int.ofNat ((0 : Nat) + (1 : Nat))).toNat = pathF' (Int.ofNat
    ((0 : Nat) + (1 : Nat))).toNat ∧ (131074 : Int) = (131074 : Int) ∧ (12 : Int) = (12 : Int) ∧ (2 : Nat) = (2 : Nat) ∧ cap_3 = cap_3 ∧ pathF' (Int.ofNat ((1 : Nat) + (1 : Nat))).toNat
    = pathF' (Int.ofNat ((1 : Nat) + (1 : Nat))).toNat ∧ (131074 : Int) = (131074 : Int) ∧ (13 : Int) = (13 : Int) ∧ (3 : Nat) = (3 : Nat) ∧ cap_4 = cap_4 ∧ pathF' (Int.ofNat ((2 : Nat)
    + (1 : Nat))).toNat = pathF' (Int.ofNat ((2 : Nat) + (1 : Nat))).toNat ∧ (196611 : Int) = (196611 : Int) ∧ (24 : Int) = (24 : Int) ∧ (3 : Nat) = (3 : Nat) ∧ cap_5 = cap_5 ∧ pathF'
    (Int.ofNat ((3 : Nat) + (1 : Nat))).toNat = pathF' (Int.ofNat ((3 : Nat) + (1 : Nat))).toNat ∧ (196611 : Int) = (196611 : Int) ∧ (25 : Int) = (25 : Int) ∧ (3 : Nat) = (3 : Nat) ∧
    cap_6 = cap_6 ∧ pathF' (Int.ofNat ((4 : Nat) + (1 : Nat))).toNat = pathF' (Int.ofNat ((4 : Nat) + (1 : Nat))).toNat ∧ (196611 : Int) = (196611 : Int) ∧ (26 : Int) = (26 : Int) ∧ (3
    : Nat) = (3 : Nat) ∧ cap_7 = cap_7 ∧ pathF' (Int.ofNat ((5 : Nat) + (1 : Nat))).toNat = pathF' (Int.ofNat ((5 : Nat) + (1 : Nat))).toNat ∧ (196611 : Int) = (196611 : Int) ∧ (27 :
    Int) = (27 : Int) ∧ (4 : Nat) = (4 : Nat) ∧ cap_8 = cap_8 ∧ pathF' (Int.ofNat ((6 : Nat) + (1 : Nat))).toNat = pathF' (Int.ofNat ((6 : Nat) + (1 : Nat))).toNat ∧ (262148 : Int) =
    (262148 : Int) ∧ (48 : Int) = (48 : Int) ∧ (4 : Nat) = (4 : Nat) ∧ cap_9 = cap_9 ∧ pathF' (Int.ofNat ((7 : Nat) + (1 : Nat))).toNat = pathF' (Int.ofNat ((7 : Nat) + (1 :
    Nat))).toNat ∧ (262148 : Int) = (262148 : Int) ∧ (49 : Int) = (49 : Int) ∧ (4 : Nat) = (4 : Nat) ∧ cap_10 = cap_10 ∧ pathF' (Int.ofNat ((8 : Nat) + (1 : Nat))).toNat = pathF'
    (Int.ofNat ((8 : Nat) + (1 : Nat))).toNat ∧ (262148 : Int) = (262148 : Int) ∧ (50 : Int) = (50 : Int) ∧ ((0 : Int) ≤ (0 : Int) ∧ (0 : Int) < (4 : Int)) ∧ ((0 : Nat) < (4 : Nat) ∧ (4
    : Nat) = (4 : Nat) ∧ (4 : Nat) = (4 : Nat) ∧ ((fun (g : Nat) => (↑(topsF (slF W a) y.val.fst g) : Int)) = fun (g : Nat) => (↑(topsF (slF W a) y.val.fst g) : Int)) ∧ (15 : Nat) = (15
    : Nat) ∧ (15 : Nat) = (15 : Nat) ∧ ((fun (s : Nat) => (↑(ownF (slF W a) y.val.fst s) : Int)) = fun (s : Nat) => (↑(ownF (slF W a) y.val.fst s) : Int)) ∧ W = W ∧ (4 : Nat) = (4 :
    Nat) ∧ cap_1 = cap_1 ∧ hsF = hsF ∧ (65537 : Int) = (65537 : Int) ∧ (131074 : Int) = (131074 : Int) ∧ (196611 : Int) = (196611 : Int) ∧ (262148 : Int) = (262148 : Int) ∧ (1 : Nat) =
    (1 : Nat) ∧ cap = cap ∧ pathF' (Int.ofNat (0 : Nat)).toNat = pathF' (Int.ofNat (0 : Nat)).toNat ∧ (65537 : Int) = (65537 : Int) ∧ (6 : Int) = (6 : Int) ∧ (2 : Nat) = (2 : Nat) ∧
    cap_2 = cap_2 ∧ pathF' (Int.ofNat ((0 : Nat) + (1 : Nat))).toNat = pathF' (Int.ofNat ((0 : Nat) + (1 : Nat))).toNat ∧ (131074 : Int) = (131074 : Int) ∧ (12 : Int) = (12 : Int) ∧ (2
    : Nat) = (2 : Nat) ∧ cap_3 = cap_3 ∧ pathF' (Int.ofNat ((1 : Nat) + (1 : Nat))).toNat = pathF' (Int.ofNat ((1 : Nat) + (1 : Nat))).toNat ∧ (131074 : Int) = (131074 : Int) ∧ (13 :
    Int) = (13 : Int) ∧ (3 : Nat) = (3 : Nat) ∧ cap_4 = cap_4 ∧ pathF' (Int.ofNat ((2 : Nat) + (1 : Nat))).toNat = pathF' (Int.ofNat ((2 : Nat) + (1 : Nat))).toNat ∧ (196611 : Int) =
    (196611 : Int) ∧ (24 : Int) = (24 : Int) ∧ (3 : Nat) = (3 : Nat) ∧ cap_5 = cap_5 ∧ pathF' (Int.ofNat ((3 : Nat) + (1 : Nat))).toNat = pathF' (Int.ofNat ((3 : Nat) + (1 :
    Nat))).toNat ∧ (196611 : Int) = (196611 : Int) ∧ (25 : Int) = (25 : Int) ∧ (3 : Nat) = (3 : Nat) ∧ cap_6 = cap_6 ∧ pathF' (Int.ofNat ((4 : Nat) + (1 : Nat))).toNat = pathF'
    (Int.ofNat ((4 : Nat) + (1 : Nat))).toNat ∧ (196611 : Int) = (196611 : Int) ∧ (26 : Int) = (26 : Int) ∧ (3 : Nat) = (3 : Nat) ∧ cap_7 = cap_7 ∧ pathF' (Int.ofNat ((5 : Nat) + (1 :
    Nat))).toNat = pathF' (Int.ofNat ((5 : Nat) + (1 : Nat))).toNat ∧ (196611 : Int) = (196611 : Int) ∧ (27 : Int) = (27 : Int) ∧ (4 : Nat) = (4 : Nat) ∧ cap_8 = cap_8 ∧ pathF'
    (Int.ofNat ((6 : Nat) + (1 : Nat))).toNat = pathF' (Int.ofNat ((6 : Nat) + (1 : Nat))).toNat ∧ (262148 : Int) = (262148 : Int) ∧ (48 : Int) = (48 : Int) ∧ (4 : Nat) = (4 : Nat) ∧
    cap_9 = cap_9 ∧ pathF' (Int.ofNat ((7 : Nat) + (1 : Nat))).toNat = pathF' (Int.ofNat ((7 : Nat) + (1 : Nat))).toNat ∧ (262148 : Int) = (262148 : Int) ∧ (49 : Int) = (49 : Int) ∧ (4
    : Nat) = (4 : Nat) ∧ cap_10 = cap_10 ∧ pathF' (Int.ofNat ((8 : Nat) + (1 : Nat))).toNat = pathF' (Int.ofNat ((8 : Nat) + (1 : Nat))).toNat ∧ (262148 : Int) = (262148 : Int) ∧ (50 :
    Int) = (50 : Int) ∧ (((-9223372036854775808 : Int) ≤ (51 : Int) ∧ (51 : Int) ≤ (9223372036854775807 : Int)) ∧
    (y.val.snd.snd.read.read.read.read.read.read.read.read.read.read.read.read.read.read.Has (262148 : Int) (51 : Int) ∧ (4 : Nat) = (4 : Nat) ∧ (4 : Nat) = (4 : Nat) ∧ ((fun (g : Nat)
    => (↑(topsF (slF W a) y.val.fst g) : Int)) = fun (g : Nat) => (↑(topsF (slF W a) y.val.fst g) : Int)) ∧ (15 : Nat) = (15 : Nat) ∧ (15 : Nat) = (15 : Nat) ∧ ((fun (s : Nat) =>
    (↑(ownF (slF W a) y.val.fst s) : Int)) = fun (s : Nat) => (↑(ownF (slF W a) y.val.fst s) : Int)) ∧ W = W ∧ (4 : Nat) = (4 : Nat) ∧ cap_1 = cap_1 ∧ hsF = hsF ∧ (65537 : Int) = (65537
    : Int) ∧ (131074 : Int) = (131074 : Int) ∧ (196611 : Int) = (196611 : Int) ∧ (262148 : Int) = (262148 : Int) ∧ (1 : Nat) = (1 : Nat) ∧ cap = cap ∧ pathF' (Int.ofNat (0 : Nat)).toNat
    = pathF' (Int.ofNat (0 : Nat)).toNat ∧ (65537 : Int) = (65537 : Int) ∧ (6 : Int) = (6 : Int) ∧ (2 : Nat) = (2 : Nat) ∧ cap_2 = cap_2 ∧ pathF' (Int.ofNat ((0 : Nat) + (1 :
    Nat))).toNat = pathF' (Int.ofNat ((0 : Nat) + (1 : Nat))).toNat ∧ (131074 : Int) = (131074 : Int) ∧ (12 : Int) = (12 : Int) ∧ (2 : Nat) = (2 : Nat) ∧ cap_3 = cap_3 ∧ pathF'
    (Int.ofNat ((1 : Nat) + (1 : Nat))).toNat = pathF' (Int.ofNat ((1 : Nat) + (1 : Nat))).toNat ∧ (131074 : Int) = (131074 : Int) ∧ (13 : Int) = (13 : Int) ∧ (3 : Nat) = (3 : Nat) ∧
    cap_4 = cap_4 ∧ pathF' (Int.ofNat ((2 : Nat) + (1 : Nat))).toNat = pathF' (Int.ofNat ((2 : Nat) + (1 : Nat))).toNat ∧ (196611 : Int) = (196611 : Int) ∧ (24 : Int) = (24 : Int) ∧ (3
    : Nat) = (3 : Nat) ∧ cap_5 = cap_5 ∧ pathF' (Int.ofNat ((3 : Nat) + (1 : Nat))).toNat = pathF' (Int.ofNat ((3 : Nat) + (1 : Nat))).toNat ∧ (196611 : Int) = (196611 : Int) ∧ (25 :
    Int) = (25 : Int) ∧ (3 : Nat) = (3 : Nat) ∧ cap_6 = cap_6 ∧ pathF' (Int.ofNat ((4 : Nat) + (1 : Nat))).toNat = pathF' (Int.ofNat ((4 : Nat) + (1 : Nat))).toNat ∧ (196611 : Int) =
    (196611 : Int) ∧ (26 : Int) = (26 : Int) ∧ (3 : Nat) = (3 : Nat) ∧ cap_7 = cap_7 ∧ pathF' (Int.ofNat ((5 : Nat) + (1 : Nat))).toNat = pathF' (Int.ofNat ((5 : Nat) + (1 :
    Nat))).toNat ∧ (196611 : Int) = (196611 : Int) ∧ (27 : Int) = (27 : Int) ∧ (4 : Nat) = (4 : Nat) ∧ cap_8 = cap_8 ∧ pathF' (Int.ofNat ((6 : Nat) + (1 : Nat))).toNat = pathF'
    (Int.ofNat ((6 : Nat) + (1 : Nat))).toNat ∧ (262148 : Int) = (262148 : Int) ∧ (48 : Int) = (48 : Int) ∧ (4 : Nat) = (4 : Nat) ∧ cap_9 = cap_9 ∧ pathF' (Int.ofNat ((7 : Nat) + (1 :
    Nat))).toNat = pathF' (Int.ofNat ((7 : Nat) + (1 : Nat))).toNat ∧ (262148 : Int) = (262148 : Int) ∧ (49 : Int) = (49 : Int) ∧ (4 : Nat) = (4 : Nat) ∧ cap_10 = cap_10 ∧ pathF'
    (Int.ofNat ((8 : Nat) + (1 : Nat))).toNat = pathF' (Int.ofNat ((8 : Nat) + (1 : Nat))).toNat ∧ (262148 : Int) = (262148 : Int) ∧ (50 : Int) = (50 : Int) ∧ (10 : Nat) < (15 : Nat) ∧
    ((0 : Int) ≤ (↑(ownF (slF W a) y.val.fst (10 : Nat)) : Int) ∧ (↑(ownF (slF W a) y.val.fst (10 : Nat)) : Int) < (18446744073709551616 : Int)) ∧
    ((↑(y.val.snd.snd.read.read.read.read.read.read.read.read.read.read.read.read.read.read.rd (262148 : Int) (51 : Int)) : Int) != (↑(ownF (slF W a) y.val.fst (10 : Nat)) : Int)) =
    false ∧ (3 : Nat) < (4 : Nat) ∧ ((0 : Nat) < (4 : Nat) ∧ ∀ (cap_12 : Nat), (4 : Nat) ≤ cap_12 → (4 : Nat) = (4 : Nat) ∧ (4 : Nat) = (4 : Nat) ∧ ((fun (g : Nat) => (↑(topsF (slF W a)
    y.val.fst g) : Int)) = fun (g : Nat) => (↑(topsF (slF W a) y.val.fst g) : Int)) ∧ (15 : Nat) = (15 : Nat) ∧ (15 : Nat) = (15 : Nat) ∧ ((fun (s : Nat) => (↑(ownF (slF W a) y.val.fst
    s) : Int)) = fun (s : Nat) => (↑(ownF (slF W a) y.val.fst s) : Int)) ∧ W = W ∧ (4 : Nat) = (4 : Nat) ∧ cap_1 = cap_1 ∧ hsF = hsF ∧ (65537 : Int) = (65537 : Int) ∧ (131074 : Int) =
    (131074 : Int) ∧ (196611 : Int) = (196611 : Int) ∧ (262148 : Int) = (262148 : Int) ∧ (1 : Nat) = (1 : Nat) ∧ cap = cap ∧ pathF' (Int.ofNat (0 : Nat)).toNat = pathF' (Int.ofNat (0 :
    Nat)).toNat ∧ (65537 : Int) = (65537 : Int) ∧ (6 : Int) = (6 : Int) ∧ (2 : Nat) = (2 : Nat) ∧ cap_2 = cap_2 ∧ pathF' (Int.ofNat ((0 : Nat) + (1 : Nat))).toNat = pathF' (Int.ofNat
    ((0 : Nat) + (1 : Nat))).toNat ∧ (131074 : Int) = (131074 : Int) ∧ (12 : Int) = (12 : Int) ∧ (2 : Nat) = (2 : Nat) ∧ cap_3 = cap_3 ∧ pathF' (Int.ofNat ((1 : Nat) + (1 : Nat))).toNat
    = pathF' (Int.ofNat ((1 : Nat) + (1 : Nat))).toNat ∧ (131074 : Int) = (131074 : Int) ∧ (13 : Int) = (13 : Int) ∧ (3 : Nat) = (3 : Nat) ∧ cap_4 = cap_4 ∧ pathF' (Int.ofNat ((2 : Nat)
    + (1 : Nat))).toNat = pathF' (Int.ofNat ((2 : Nat) + (1 : Nat))).toNat ∧ (196611 : Int) = (196611 : Int) ∧ (24 : Int) = (24 : Int) ∧ (3 : Nat) = (3 : Nat) ∧ cap_5 = cap_5 ∧ pathF'
    (Int.ofNat ((3 : Nat) + (1 : Nat))).toNat = pathF' (Int.ofNat ((3 : Nat) + (1 : Nat))).toNat ∧ (196611 : Int) = (196611 : Int) ∧ (25 : Int) = (25 : Int) ∧ (3 : Nat) = (3 : Nat) ∧
    cap_6 = cap_6 ∧ pathF' (Int.ofNat ((4 : Nat) + (1 : Nat))).toNat = pathF' (Int.ofNat ((4 : Nat) + (1 : Nat))).toNat ∧ (196611 : Int) = (196611 : Int) ∧ (26 : Int) = (26 : Int) ∧ (3
    : Nat) = (3 : Nat) ∧ cap_7 = cap_7 ∧ pathF' (Int.ofNat ((5 : Nat) + (1 : Nat))).toNat = pathF' (Int.ofNat ((5 : Nat) + (1 : Nat))).toNat ∧ (196611 : Int) = (196611 : Int) ∧ (27 :
    Int) = (27 : Int) ∧ (4 : Nat) = (4 : Nat) ∧ cap_8 = cap_8 ∧ pathF' (Int.ofNat ((6 : Nat) + (1 : Nat))).toNat = pathF' (Int.ofNat ((6 : Nat) + (1 : Nat))).toNat ∧ (262148 : Int) =
    (262148 : Int) ∧ (48 : Int) = (48 : Int) ∧ (4 : Nat) = (4 : Nat) ∧ cap_9 = cap_9 ∧ pathF' (Int.ofNat ((7 : Nat) + (1 : Nat))).toNat = pathF' (Int.ofNat ((7 : Nat) + (1 :
    Nat))).toNat ∧ (262148 : Int) = (262148 : Int) ∧ (49 : Int) = (49 : Int) ∧ (4 : Nat) = (4 : Nat) ∧ cap_10 = cap_10 ∧ pathF' (Int.ofNat ((8 : Nat) + (1 : Nat))).toNat = pathF'
    (Int.ofNat ((8 : Nat) + (1 : Nat))).toNat ∧ (262148 : Int) = (262148 : Int) ∧ (50 : Int) = (50 : Int) ∧ (4 : Nat) = (4 : Nat) ∧ cap_11 = cap_11 ∧ pathF' (Int.ofNat ((9 : Nat) + (1 :
    Nat))).toNat = pathF' (Int.ofNat ((9 : Nat) + (1 : Nat))).toNat ∧ (262148 : Int) = (262148 : Int) ∧ (51 : Int) = (51 : Int) ∧ ((0 : Int) ≤ (0 : Int) ∧ (0 : Int) < (4 : Int)) ∧ ((0 :
    Nat) < (4 : Nat) ∧ (4 : Nat) = (4 : Nat) ∧ (4 : Nat) = (4 : Nat) ∧ ((fun (g : Nat) => (↑(topsF (slF W a) y.val.fst g) : Int)) = fun (g : Nat) => (↑(topsF (slF W a) y.val.fst g) :
    Int)) ∧ (15 : Nat) = (15 : Nat) ∧ (15 : Nat) = (15 : Nat) ∧ ((fun (s : Nat) => (↑(ownF (slF W a) y.val.fst s) : Int)) = fun (s : Nat) => (↑(ownF (slF W a) y.val.fst s) : Int)) ∧ W =
    W ∧ (4 : Nat) = (4 : Nat) ∧ cap_1 = cap_1 ∧ hsF = hsF ∧ (65537 : Int) = (65537 : Int) ∧ (131074 : Int) = (131074 : Int) ∧ (196611 : Int) = (196611 : Int) ∧ (262148 : Int) = (262148
    : Int) ∧ (1 : Nat) = (1 : Nat) ∧ cap = cap ∧ pathF' (Int.ofNat (0 : Nat)).toNat = pathF' (Int.ofNat (0 : Nat)).toNat ∧ (65537 : Int) = (65537 : Int) ∧ (6 : Int) = (6 : Int) ∧ (2 :
    Nat) = (2 : Nat) ∧ cap_2 = cap_2 ∧ pathF' (Int.ofNat ((0 : Nat) + (1 : Nat))).toNat = pathF' (Int.ofNat ((0 : Nat) + (1 : Nat))).toNat ∧ (131074 : Int) = (131074 : Int) ∧ (12 : Int)
    = (12 : Int) ∧ (2 : Nat) = (2 : Nat) ∧ cap_3 = cap_3 ∧ pathF' (Int.ofNat ((1 : Nat) + (1 : Nat))).toNat = pathF' (Int.ofNat ((1 : Nat) + (1 : Nat))).toNat ∧ (131074 : Int) = (131074
    : Int) ∧ (13 : Int) = (13 : Int) ∧ (3 : Nat) = (3 : Nat) ∧ cap_4 = cap_4 ∧ pathF' (Int.ofNat ((2 : Nat) + (1 : Nat))).toNat = pathF' (Int.ofNat ((2 : Nat) + (1 : Nat))).toNat ∧
    (196611 : Int) = (196611 : Int) ∧ (24 : Int) = (24 : Int) ∧ (3 : Nat) = (3 : Nat) ∧ cap_5 = cap_5 ∧ pathF' (Int.ofNat ((3 : Nat) + (1 : Nat))).toNat = pathF' (Int.ofNat ((3 : Nat) +
    (1 : Nat))).toNat ∧ (196611 : Int) = (196611 : Int) ∧ (25 : Int) = (25 : Int) ∧ (3 : Nat) = (3 : Nat) ∧ cap_6 = cap_6 ∧ pathF' (Int.ofNat ((4 : Nat) + (1 : Nat))).toNat = pathF'
    (Int.ofNat ((4 : Nat) + (1 : Nat))).toNat ∧ (196611 : Int) = (196611 : Int) ∧ (26 : Int) = (26 : Int) ∧ (3 : Nat) = (3 : Nat) ∧ cap_7 = cap_7 ∧ pathF' (Int.ofNat ((5 : Nat) + (1 :
    Nat))).toNat = pathF' (Int.ofNat ((5 : Nat) + (1 : Nat))).toNat ∧ (196611 : Int) = (196611 : Int) ∧ (27 : Int) = (27 : Int) ∧ (4 : Nat) = (4 : Nat) ∧ cap_8 = cap_8 ∧ pathF'
    (Int.ofNat ((6 : Nat) + (1 : Nat))).toNat = pathF' (Int.ofNat ((6 : Nat) + (1 : Nat))).toNat ∧ (262148 : Int) = (262148 : Int) ∧ (48 : Int) = (48 : Int) ∧ (4 : Nat) = (4 : Nat) ∧
    cap_9 = cap_9 ∧ pathF' (Int.ofNat ((7 : Nat) + (1 : Nat))).toNat = pathF' (Int.ofNat ((7 : Nat) + (1 : Nat))).toNat ∧ (262148 : Int) = (262148 : Int) ∧ (49 : Int) = (49 : Int) ∧ (4
    : Nat) = (4 : Nat) ∧ cap_10 = cap_10 ∧ pathF' (Int.ofNat ((8 : Nat) + (1 : Nat))).toNat = pathF' (Int.ofNat ((8 : Nat) + (1 : Nat))).toNat ∧ (262148 : Int) = (262148 : Int) ∧ (50 :
    Int) = (50 : Int) ∧ (4 : Nat) = (4 : Nat) ∧ cap_11 = cap_11 ∧ pathF' (Int.ofNat ((9 : Nat) + (1 : Nat))).toNat = pathF' (Int.ofNat ((9 : Nat) + (1 : Nat))).toNat ∧ (262148 : Int) =
    (262148 : Int) ∧ (51 : Int) = (51 : Int) ∧ (((-9223372036854775808 : Int) ≤ (52 : Int) ∧ (52 : Int) ≤ (9223372036854775807 : Int)) ∧
    (y.val.snd.snd.read.read.read.read.read.read.read.read.read.read.read.read.read.read.read.Has (262148 : Int) (52 : Int) ∧ (4 : Nat) = (4 : Nat) ∧ (4 : Nat) = (4 : Nat) ∧ ((fun (g :
    Nat) => (↑(topsF (slF W a) y.val.fst g) : Int)) = fun (g : Nat) => (↑(topsF (slF W a) y.val.fst g) : Int)) ∧ (15 : Nat) = (15 : Nat) ∧ (15 : Nat) = (15 : Nat) ∧ ((fun (s : Nat) =>
    (↑(ownF (slF W a) y.val.fst s) : Int)) = fun (s : Nat) => (↑(ownF (slF W a) y.val.fst s) : Int)) ∧ W = W ∧ (4 : Nat) = (4 : Nat) ∧ cap_1 = cap_1 ∧ hsF = hsF ∧ (65537 : Int) = (65537
    : Int) ∧ (131074 : Int) = (131074 : Int) ∧ (196611 : Int) = (196611 : Int) ∧ (262148 : Int) = (262148 : Int) ∧ (1 : Nat) = (1 : Nat) ∧ cap = cap ∧ pathF' (Int.ofNat (0 : Nat)).toNat
    = pathF' (Int.ofNat (0 : Nat)).toNat ∧ (65537 : Int) = (65537 : Int) ∧ (6 : Int) = (6 : Int) ∧ (2 : Nat) = (2 : Nat) ∧ cap_2 = cap_2 ∧ pathF' (Int.ofNat ((0 : Nat) + (1 :
    Nat))).toNat = pathF' (Int.ofNat ((0 : Nat) + (1 : Nat))).toNat ∧ (131074 : Int) = (131074 : Int) ∧ (12 : Int) = (12 : Int) ∧ (2 : Nat) = (2 : Nat) ∧ cap_3 = cap_3 ∧ pathF'
    (Int.ofNat ((1 : Nat) + (1 : Nat))).toNat = pathF' (Int.ofNat ((1 : Nat) + (1 : Nat))).toNat ∧ (131074 : Int) = (131074 : Int) ∧ (13 : Int) = (13 : Int) ∧ (3 : Nat) = (3 : Nat) ∧
    cap_4 = cap_4 ∧ pathF' (Int.ofNat ((2 : Nat) + (1 : Nat))).toNat = pathF' (Int.ofNat ((2 : Nat) + (1 : Nat))).toNat ∧ (196611 : Int) = (196611 : Int) ∧ (24 : Int) = (24 : Int) ∧ (3
    : Nat) = (3 : Nat) ∧ cap_5 = cap_5 ∧ pathF' (Int.ofNat ((3 : Nat) + (1 : Nat))).toNat = pathF' (Int.ofNat ((3 : Nat) + (1 : Nat))).toNat ∧ (196611 : Int) = (196611 : Int) ∧ (25 :
    Int) = (25 : Int) ∧ (3 : Nat) = (3 : Nat) ∧ cap_6 = cap_6 ∧ pathF' (Int.ofNat ((4 : Nat) + (1 : Nat))).toNat = pathF' (Int.ofNat ((4 : Nat) + (1 : Nat))).toNat ∧ (196611 : Int) =
    (196611 : Int) ∧ (26 : Int) = (26 : Int) ∧ (3 : Nat) = (3 : Nat) ∧ cap_7 = cap_7 ∧ pathF' (Int.ofNat ((5 : Nat) + (1 : Nat))).toNat = pathF' (Int.ofNat ((5 : Nat) + (1 :
    Nat))).toNat ∧ (196611 : Int) = (196611 : Int) ∧ (27 : Int) = (27 : Int) ∧ (4 : Nat) = (4 : Nat) ∧ cap_8 = cap_8 ∧ pathF' (Int.ofNat ((6 : Nat) + (1 : Nat))).toNat = pathF'
    (Int.ofNat ((6 : Nat) + (1 : Nat))).toNat ∧ (262148 : Int) = (262148 : Int) ∧ (48 : Int) = (48 : Int) ∧ (4 : Nat) = (4 : Nat) ∧ cap_9 = cap_9 ∧ pathF' (Int.ofNat ((7 : Nat) + (1 :
    Nat))).toNat = pathF' (Int.ofNat ((7 : Nat) + (1 : Nat))).toNat ∧ (262148 : Int) = (262148 : Int) ∧ (49 : Int) = (49 : Int) ∧ (4 : Nat) = (4 : Nat) ∧ cap_10 = cap_10 ∧ pathF'
    (Int.ofNat ((8 : Nat) + (1 : Nat))).toNat = pathF' (Int.ofNat ((8 : Nat) + (1 : Nat))).toNat ∧ (262148 : Int) = (262148 : Int) ∧ (50 : Int) = (50 : Int) ∧ (4 : Nat) = (4 : Nat) ∧
    cap_11 = cap_11 ∧ pathF' (Int.ofNat ((9 : Nat) + (1 : Nat))).toNat = pathF' (Int.ofNat ((9 : Nat) + (1 : Nat))).toNat ∧ (262148 : Int) = (262148 : Int) ∧ (51 : Int) = (51 : Int) ∧
    (11 : Nat) < (15 : Nat) ∧ ((0 : Int) ≤ (↑(ownF (slF W a) y.val.fst (11 : Nat)) : Int) ∧ (↑(ownF (slF W a) y.val.fst (11 : Nat)) : Int) < (18446744073709551616 : Int)) ∧
    ((↑(y.val.snd.snd.read.read.read.read.read.read.read.read.read.read.read.read.read.read.read.rd (262148 : Int) (52 : Int)) : Int) != (↑(ownF (slF W a) y.val.fst (11 : Nat)) : Int))
    = false ∧ (3 : Nat) < (4 : Nat) ∧ ((0 : Nat) < (4 : Nat) ∧ ∀ (cap_13 : Nat), (4 : Nat) ≤ cap_13 → (4 : Nat) = (4 : Nat) ∧ (4 : Nat) = (4 : Nat) ∧ ((fun (g : Nat) => (↑(topsF (slF W
    a) y.val.fst g) : Int)) = fun (g : Nat) => (↑(topsF (slF W a) y.val.fst g) : Int)) ∧ (15 : Nat) = (15 : Nat) ∧ (15 : Nat) = (15 : Nat) ∧ ((fun (s : Nat) => (↑(ownF (slF W a)
    y.val.fst s) : Int)) = fun (s : Nat) => (↑(ownF (slF W a) y.val.fst s) : Int)) ∧ W = W ∧ (4 : Nat) = (4 : Nat) ∧ cap_1 = cap_1 ∧ hsF = hsF ∧ (65537 : Int) = (65537 : Int) ∧ (131074
    : Int) = (131074 : Int) ∧ (196611 : Int) = (196611 : Int) ∧ (262148 : Int) = (262148 : Int) ∧ (1 : Nat) = (1 : Nat) ∧ cap = cap ∧ pathF' (Int.ofNat (0 : Nat)).toNat = pathF'
    (Int.ofNat (0 : Nat)).toNat ∧ (65537 : Int) = (65537 : Int) ∧ (6 : Int) = (6 : Int) ∧ (2 : Nat) = (2 : Nat) ∧ cap_2 = cap_2 ∧ pathF' (Int.ofNat ((0 : Nat) + (1 : Nat))).toNat =
    pathF' (Int.ofNat ((0 : Nat) + (1 : Nat))).toNat ∧ (131074 : Int) = (131074 : Int) ∧ (12 : Int) = (12 : Int) ∧ (2 : Nat) = (2 : Nat) ∧ cap_3 = cap_3 ∧ pathF' (Int.ofNat ((1 : Nat) +
    (1 : Nat))).toNat = pathF' (Int.ofNat ((1 : Nat) + (1 : Nat))).toNat ∧ (131074 : Int) = (131074 : Int) ∧ (13 : Int) = (13 : Int) ∧ (3 : Nat) = (3 : Nat) ∧ cap_4 = cap_4 ∧ pathF'
    (Int.ofNat ((2 : Nat) + (1 : Nat))).toNat = pathF' (Int.ofNat ((2 : Nat) + (1 : Nat))).toNat ∧ (196611 : Int) = (196611 : Int) ∧ (24 : Int) = (24 : Int) ∧ (3 : Nat) = (3 : Nat) ∧
    cap_5 = cap_5 ∧ pathF' (Int.ofNat ((3 : Nat) + (1 : Nat))).toNat = pathF' (Int.ofNat ((3 : Nat) + (1 : Nat))).toNat ∧ (196611 : Int) = (196611 : Int) ∧ (25 : Int) = (25 : Int) ∧ (3
    : Nat) = (3 : Nat) ∧ cap_6 = cap_6 ∧ pathF' (Int.ofNat ((4 : Nat) + (1 : Nat))).toNat = pathF' (Int.ofNat ((4 : Nat) + (1 : Nat))).toNat ∧ (196611 : Int) = (196611 : Int) ∧ (26 :
    Int) = (26 : Int) ∧ (3 : Nat) = (3 : Nat) ∧ cap_7 = cap_7 ∧ pathF' (Int.ofNat ((5 : Nat) + (1 : Nat))).toNat = pathF' (Int.ofNat ((5 : Nat) + (1 : Nat))).toNat ∧ (196611 : Int) =
    (196611 : Int) ∧ (27 : Int) = (27 : Int) ∧ (4 : Nat) = (4 : Nat) ∧ cap_8 = cap_8 ∧ pathF' (Int.ofNat ((6 : Nat) + (1 : Nat))).toNat = pathF' (Int.ofNat ((6 : Nat) + (1 :
    Nat))).toNat ∧ (262148 : Int) = (262148 : Int) ∧ (48 : Int) = (48 : Int) ∧ (4 : Nat) = (4 : Nat) ∧ cap_9 = cap_9 ∧ pathF' (Int.ofNat ((7 : Nat) + (1 : Nat))).toNat = pathF'
    (Int.ofNat ((7 : Nat) + (1 : Nat))).toNat ∧ (262148 : Int) = (262148 : Int) ∧ (49 : Int) = (49 : Int) ∧ (4 : Nat) = (4 : Nat) ∧ cap_10 = cap_10 ∧ pathF' (Int.ofNat ((8 : Nat) + (1 :
    Nat))).toNat = pathF' (Int.ofNat ((8 : Nat) + (1 : Nat))).toNat ∧ (262148 : Int) = (262148 : Int) ∧ (50 : Int) = (50 : Int) ∧ (4 : Nat) = (4 : Nat) ∧ cap_11 = cap_11 ∧ pathF'
    (Int.ofNat ((9 : Nat) + (1 : Nat))).toNat = pathF' (Int.ofNat ((9 : Nat) + (1 : Nat))).toNat ∧ (262148 : Int) = (262148 : Int) ∧ (51 : Int) = (51 : Int) ∧ (4 : Nat) = (4 : Nat) ∧
    cap_12 = cap_12 ∧ pathF' (Int.ofNat ((10 : Nat) + (1 : Nat))).toNat = pathF' (Int.ofNat ((10 : Nat) + (1 : Nat))).toNat ∧ (262148 : Int) = (262148 : Int) ∧ (52 : Int) = (52 : Int) ∧
    ((0 : Int) ≤ (0 : Int) ∧ (0 : Int) < (4 : Int)) ∧ ((0 : Nat) < (4 : Nat) ∧ (4 : Nat) = (4 : Nat) ∧ (4 : Nat) = (4 : Nat) ∧ ((fun (g : Nat) => (↑(topsF (slF W a) y.val.fst g) : Int))
    = fun (g : Nat) => (↑(topsF (slF W a) y.val.fst g) : Int)) ∧ (15 : Nat) = (15 : Nat) ∧ (15 : Nat) = (15 : Nat) ∧ ((fun (s : Nat) => (↑(ownF (slF W a) y.val.fst s) : Int)) = fun (s :
    Nat) => (↑(ownF (slF W a) y.val.fst s) : Int)) ∧ W = W ∧ (4 : Nat) = (4 : Nat) ∧ cap_1 = cap_1 ∧ hsF = hsF ∧ (65537 : Int) = (65537 : Int) ∧ (131074 : Int) = (131074 : Int) ∧
    (196611 : Int) = (196611 : Int) ∧ (262148 : Int) = (262148 : Int) ∧ (1 : Nat) = (1 : Nat) ∧ cap = cap ∧ pathF' (Int.ofNat (0 : Nat)).toNat = pathF' (Int.ofNat (0 : Nat)).toNat ∧
    (65537 : Int) = (65537 : Int) ∧ (6 : Int) = (6 : Int) ∧ (2 : Nat) = (2 : Nat) ∧ cap_2 = cap_2 ∧ pathF' (Int.ofNat ((0 : Nat) + (1 : Nat))).toNat = pathF' (Int.ofNat ((0 : Nat) + (1
    : Nat))).toNat ∧ (131074 : Int) = (131074 : Int) ∧ (12 : Int) = (12 : Int) ∧ (2 : Nat) = (2 : Nat) ∧ cap_3 = cap_3 ∧ pathF' (Int.ofNat ((1 : Nat) + (1 : Nat))).toNat = pathF'
    (Int.ofNat ((1 : Nat) + (1 : Nat))).toNat ∧ (131074 : Int) = (131074 : Int) ∧ (13 : Int) = (13 : Int) ∧ (3 : Nat) = (3 : Nat) ∧ cap_4 = cap_4 ∧ pathF' (Int.ofNat ((2 : Nat) + (1 :
    Nat))).toNat = pathF' (Int.ofNat ((2 : Nat) + (1 : Nat))).toNat ∧ (196611 : Int) = (196611 : Int) ∧ (24 : Int) = (24 : Int) ∧ (3 : Nat) = (3 : Nat) ∧ cap_5 = cap_5 ∧ pathF'
    (Int.ofNat ((3 : Nat) + (1 : Nat))).toNat = pathF' (Int.ofNat ((3 : Nat) + (1 : Nat))).toNat ∧ (196611 : Int) = (196611 : Int) ∧ (25 : Int) = (25 : Int) ∧ (3 : Nat) = (3 : Nat) ∧
    cap_6 = cap_6 ∧ pathF' (Int.ofNat ((4 : Nat) + (1 : Nat))).toNat = pathF' (Int.ofNat ((4 : Nat) + (1 : Nat))).toNat ∧ (196611 : Int) = (196611 : Int) ∧ (26 : Int) = (26 : Int) ∧ (3
    : Nat) = (3 : Nat) ∧ cap_7 = cap_7 ∧ pathF' (Int.ofNat ((5 : Nat) + (1 : Nat))).toNat = pathF' (Int.ofNat ((5 : Nat) + (1 : Nat))).toNat ∧ (196611 : Int) = (196611 : Int) ∧ (27 :
    Int) = (27 : Int) ∧ (4 : Nat) = (4 : Nat) ∧ cap_8 = cap_8 ∧ pathF' (Int.ofNat ((6 : Nat) + (1 : Nat))).toNat = pathF' (Int.ofNat ((6 : Nat) + (1 : Nat))).toNat ∧ (262148 : Int) =
    (262148 : Int) ∧ (48 : Int) = (48 : Int) ∧ (4 : Nat) = (4 : Nat) ∧ cap_9 = cap_9 ∧ pathF' (Int.ofNat ((7 : Nat) + (1 : Nat))).toNat = pathF' (Int.ofNat ((7 : Nat) + (1 :
    Nat))).toNat ∧ (262148 : Int) = (262148 : Int) ∧ (49 : Int) = (49 : Int) ∧ (4 : Nat) = (4 : Nat) ∧ cap_10 = cap_10 ∧ pathF' (Int.ofNat ((8 : Nat) + (1 : Nat))).toNat = pathF'
    (Int.ofNat ((8 : Nat) + (1 : Nat))).toNat ∧ (262148 : Int) = (262148 : Int) ∧ (50 : Int) = (50 : Int) ∧ (4 : Nat) = (4 : Nat) ∧ cap_11 = cap_11 ∧ pathF' (Int.ofNat ((9 : Nat) + (1 :
    Nat))).toNat = pathF' (Int.ofNat ((9 : Nat) + (1 : Nat))).toNat ∧ (262148 : Int) = (262148 : Int) ∧ (51 : Int) = (51 : Int) ∧ (4 : Nat) = (4 : Nat) ∧ cap_12 = cap_12 ∧ pathF'
    (Int.ofNat ((10 : Nat) + (1 : Nat))).toNat = pathF' (Int.ofNat ((10 : Nat) + (1 : Nat))).toNat ∧ (262148 : Int) = (262148 : Int) ∧ (52 : Int) = (52 : Int) ∧ (((-9223372036854775808
    : Int) ≤ (53 : Int) ∧ (53 : Int) ≤ (9223372036854775807 : Int)) ∧ (y.val.snd.snd.read.read.read.read.read.read.read.read.read.read.read.read.read.read.read.read.Has (262148 : Int)
    (53 : Int) ∧ (4 : Nat) = (4 : Nat) ∧ (4 : Nat) = (4 : Nat) ∧ ((fun (g : Nat) => (↑(topsF (slF W a) y.val.fst g) : Int)) = fun (g : Nat) => (↑(topsF (slF W a) y.val.fst g) : Int)) ∧
    (15 : Nat) = (15 : Nat) ∧ (15 : Nat) = (15 : Nat) ∧ ((fun (s : Nat) => (↑(ownF (slF W a) y.val.fst s) : Int)) = fun (s : Nat) => (↑(ownF (slF W a) y.val.fst s) : Int)) ∧ W = W ∧ (4
    : Nat) = (4 : Nat) ∧ cap_1 = cap_1 ∧ hsF = hsF ∧ (65537 : Int) = (65537 : Int) ∧ (131074 : Int) = (131074 : Int) ∧ (196611 : Int) = (196611 : Int) ∧ (262148 : Int) = (262148 : Int)
    ∧ (1 : Nat) = (1 : Nat) ∧ cap = cap ∧ pathF' (Int.ofNat (0 : Nat)).toNat = pathF' (Int.ofNat (0 : Nat)).toNat ∧ (65537 : Int) = (65537 : Int) ∧ (6 : Int) = (6 : Int) ∧ (2 : Nat) =
    (2 : Nat) ∧ cap_2 = cap_2 ∧ pathF' (Int.ofNat ((0 : Nat) + (1 : Nat))).toNat = pathF' (Int.ofNat ((0 : Nat) + (1 : Nat))).toNat ∧ (131074 : Int) = (131074 : Int) ∧ (12 : Int) = (12
    : Int) ∧ (2 : Nat) = (2 : Nat) ∧ cap_3 = cap_3 ∧ pathF' (Int.ofNat ((1 : Nat) + (1 : Nat))).toNat = pathF' (Int.ofNat ((1 : Nat) + (1 : Nat))).toNat ∧ (131074 : Int) = (131074 :
    Int) ∧ (13 : Int) = (13 : Int) ∧ (3 : Nat) = (3 : Nat) ∧ cap_4 = cap_4 ∧ pathF' (Int.ofNat ((2 : Nat) + (1 : Nat))).toNat = pathF' (Int.ofNat ((2 : Nat) + (1 : Nat))).toNat ∧
    (196611 : Int) = (196611 : Int) ∧ (24 : Int) = (24 : Int) ∧ (3 : Nat) = (3 : Nat) ∧ cap_5 = cap_5 ∧ pathF' (Int.ofNat ((3 : Nat) + (1 : Nat))).toNat = pathF' (Int.ofNat ((3 : Nat) +
    (1 : Nat))).toNat ∧ (196611 : Int) = (196611 : Int) ∧ (25 : Int) = (25 : Int) ∧ (3 : Nat) = (3 : Nat) ∧ cap_6 = cap_6 ∧ pathF' (Int.ofNat ((4 : Nat) + (1 : Nat))).toNat = pathF'
    (Int.ofNat ((4 : Nat) + (1 : Nat))).toNat ∧ (196611 : Int) = (196611 : Int) ∧ (26 : Int) = (26 : Int) ∧ (3 : Nat) = (3 : Nat) ∧ cap_7 = cap_7 ∧ pathF' (Int.ofNat ((5 : Nat) + (1 :
    Nat))).toNat = pathF' (Int.ofNat ((5 : Nat) + (1 : Nat))).toNat ∧ (196611 : Int) = (196611 : Int) ∧ (27 : Int) = (27 : Int) ∧ (4 : Nat) = (4 : Nat) ∧ cap_8 = cap_8 ∧ pathF'
    (Int.ofNat ((6 : Nat) + (1 : Nat))).toNat = pathF' (Int.ofNat ((6 : Nat) + (1 : Nat))).toNat ∧ (262148 : Int) = (262148 : Int) ∧ (48 : Int) = (48 : Int) ∧ (4 : Nat) = (4 : Nat) ∧
    cap_9 = cap_9 ∧ pathF' (Int.ofNat ((7 : Nat) + (1 : Nat))).toNat = pathF' (Int.ofNat ((7 : Nat) + (1 : Nat))).toNat ∧ (262148 : Int) = (262148 : Int) ∧ (49 : Int) = (49 : Int) ∧ (4
    : Nat) = (4 : Nat) ∧ cap_10 = cap_10 ∧ pathF' (Int.ofNat ((8 : Nat) + (1 : Nat))).toNat = pathF' (Int.ofNat ((8 : Nat) + (1 : Nat))).toNat ∧ (262148 : Int) = (262148 : Int) ∧ (50 :
    Int) = (50 : Int) ∧ (4 : Nat) = (4 : Nat) ∧ cap_11 = cap_11 ∧ pathF' (Int.ofNat ((9 : Nat) + (1 : Nat))).toNat = pathF' (Int.ofNat ((9 : Nat) + (1 : Nat))).toNat ∧ (262148 : Int) =
    (262148 : Int) ∧ (51 : Int) = (51 : Int) ∧ (4 : Nat) = (4 : Nat) ∧ cap_12 = cap_12 ∧ pathF' (Int.ofNat ((10 : Nat) + (1 : Nat))).toNat = pathF' (Int.ofNat ((10 : Nat) + (1 :
    Nat))).toNat ∧ (262148 : Int) = (262148 : Int) ∧ (52 : Int) = (52 : Int) ∧ (12 : Nat) < (15 : Nat) ∧ ((0 : Int) ≤ (↑(ownF (slF W a) y.val.fst (12 : Nat)) : Int) ∧ (↑(ownF (slF W a)
    y.val.fst (12 : Nat)) : Int) < (18446744073709551616 : Int)) ∧ ((↑(y.val.snd.snd.read.read.read.read.read.read.read.read.read.read.read.read.read.read.read.read.rd (262148 : Int)
    (53 : Int)) : Int) != (↑(ownF (slF W a) y.val.fst (12 : Nat)) : Int)) = false ∧ (3 : Nat) < (4 : Nat) ∧ ((0 : Nat) < (4 : Nat) ∧ ∀ (cap_14 : Nat), (4 : Nat) ≤ cap_14 → (4 : Nat) =
    (4 : Nat) ∧ (4 : Nat) = (4 : Nat) ∧ ((fun (g : Nat) => (↑(topsF (slF W a) y.val.fst g) : Int)) = fun (g : Nat) => (↑(topsF (slF W a) y.val.fst g) : Int)) ∧ (15 : Nat) = (15 : Nat) ∧
    (15 : Nat) = (15 : Nat) ∧ ((fun (s : Nat) => (↑(ownF (slF W a) y.val.fst s) : Int)) = fun (s : Nat) => (↑(ownF (slF W a) y.val.fst s) : Int)) ∧ W = W ∧ (4 : Nat) = (4 : Nat) ∧ cap_1
    = cap_1 ∧ hsF = hsF ∧ (65537 : Int) = (65537 : Int) ∧ (131074 : Int) = (131074 : Int) ∧ (196611 : Int) = (196611 : Int) ∧ (262148 : Int) = (262148 : Int) ∧ (1 : Nat) = (1 : Nat) ∧
    cap = cap ∧ pathF' (Int.ofNat (0 : Nat)).toNat = pathF' (Int.ofNat (0 : Nat)).toNat ∧ (65537 : Int) = (65537 : Int) ∧ (6 : Int) = (6 : Int) ∧ (2 : Nat) = (2 : Nat) ∧ cap_2 = cap_2 ∧
    pathF' (Int.ofNat ((0 : Nat) + (1 : Nat))).toNat = pathF' (Int.ofNat ((0 : Nat) + (1 : Nat))).toNat ∧ (131074 : Int) = (131074 : Int) ∧ (12 : Int) = (12 : Int) ∧ (2 : Nat) = (2 :
    Nat) ∧ cap_3 = cap_3 ∧ pathF' (Int.ofNat ((1 : Nat) + (1 : Nat))).toNat = pathF' (Int.ofNat ((1 : Nat) + (1 : Nat))).toNat ∧ (131074 : Int) = (131074 : Int) ∧ (13 : Int) = (13 :
    Int) ∧ (3 : Nat) = (3 : Nat) ∧ cap_4 = cap_4 ∧ pathF' (Int.ofNat ((2 : Nat) + (1 : Nat))).toNat = pathF' (Int.ofNat ((2 : Nat) + (1 : Nat))).toNat ∧ (196611 : Int) = (196611 : Int)
    ∧ (24 : Int) = (24 : Int) ∧ (3 : Nat) = (3 : Nat) ∧ cap_5 = cap_5 ∧ pathF' (Int.ofNat ((3 : Nat) + (1 : Nat))).toNat = pathF' (Int.ofNat ((3 : Nat) + (1 : Nat))).toNat ∧ (196611 :
    Int) = (196611 : Int) ∧ (25 : Int) = (25 : Int) ∧ (3 : Nat) = (3 : Nat) ∧ cap_6 = cap_6 ∧ pathF' (Int.ofNat ((4 : Nat) + (1 : Nat))).toNat = pathF' (Int.ofNat ((4 : Nat) + (1 :
    Nat))).toNat ∧ (196611 : Int) = (196611 : Int) ∧ (26 : Int) = (26 : Int) ∧ (3 : Nat) = (3 : Nat) ∧ cap_7 = cap_7 ∧ pathF' (Int.ofNat ((5 : Nat) + (1 : Nat))).toNat = pathF'
    (Int.ofNat ((5 : Nat) + (1 : Nat))).toNat ∧ (196611 : Int) = (196611 : Int) ∧ (27 : Int) = (27 : Int) ∧ (4 : Nat) = (4 : Nat) ∧ cap_8 = cap_8 ∧ pathF' (Int.ofNat ((6 : Nat) + (1 :
    Nat))).toNat = pathF' (Int.ofNat ((6 : Nat) + (1 : Nat))).toNat ∧ (262148 : Int) = (262148 : Int) ∧ (48 : Int) = (48 : Int) ∧ (4 : Nat) = (4 : Nat) ∧ cap_9 = cap_9 ∧ pathF'
    (Int.ofNat ((7 : Nat) + (1 : Nat))).toNat = pathF' (Int.ofNat ((7 : Nat) + (1 : Nat))).toNat ∧ (262148 : Int) = (262148 : Int) ∧ (49 : Int) = (49 : Int) ∧ (4 : Nat) = (4 : Nat) ∧
    cap_10 = cap_10 ∧ pathF' (Int.ofNat ((8 : Nat) + (1 : Nat))).toNat = pathF' (Int.ofNat ((8 : Nat) + (1 : Nat))).toNat ∧ (262148 : Int) = (262148 : Int) ∧ (50 : Int) = (50 : Int) ∧
    (4 : Nat) = (4 : Nat) ∧ cap_11 = cap_11 ∧ pathF' (Int.ofNat ((9 : Nat) + (1 : Nat))).toNat = pathF' (Int.ofNat ((9 : Nat) + (1 : Nat))).toNat ∧ (262148 : Int) = (262148 : Int) ∧ (51
    : Int) = (51 : Int) ∧ (4 : Nat) = (4 : Nat) ∧ cap_12 = cap_12 ∧ pathF' (Int.ofNat ((10 : Nat) + (1 : Nat))).toNat = pathF' (Int.ofNat ((10 : Nat) + (1 : Nat))).toNat ∧ (262148 :
    Int) = (262148 : Int) ∧ (52 : Int) = (52 : Int) ∧ (4 : Nat) = (4 : Nat) ∧ cap_13 = cap_13 ∧ pathF' (Int.ofNat ((11 : Nat) + (1 : Nat))).toNat = pathF' (Int.ofNat ((11 : Nat) + (1 :
    Nat))).toNat ∧ (262148 : Int) = (262148 : Int) ∧ (53 : Int) = (53 : Int) ∧ ((0 : Int) ≤ (0 : Int) ∧ (0 : Int) < (4 : Int)) ∧ ((0 : Nat) < (4 : Nat) ∧ (4 : Nat) = (4 : Nat) ∧ (4 :
    Nat) = (4 : Nat) ∧ ((fun (g : Nat) => (↑(topsF (slF W a) y.val.fst g) : Int)) = fun (g : Nat) => (↑(topsF (slF W a) y.val.fst g) : Int)) ∧ (15 : Nat) = (15 : Nat) ∧ (15 : Nat) = (15
    : Nat) ∧ ((fun (s : Nat) => (↑(ownF (slF W a) y.val.fst s) : Int)) = fun (s : Nat) => (↑(ownF (slF W a) y.val.fst s) : Int)) ∧ W = W ∧ (4 : Nat) = (4 : Nat) ∧ cap_1 = cap_1 ∧ hsF =
    hsF ∧ (65537 : Int) = (65537 : Int) ∧ (131074 : Int) = (131074 : Int) ∧ (196611 : Int) = (196611 : Int) ∧ (262148 : Int) = (262148 : Int) ∧ (1 : Nat) = (1 : Nat) ∧ cap = cap ∧
    pathF' (Int.ofNat (0 : Nat)).toNat = pathF' (Int.ofNat (0 : Nat)).toNat ∧ (65537 : Int) = (65537 : Int) ∧ (6 : Int) = (6 : Int) ∧ (2 : Nat) = (2 : Nat) ∧ cap_2 = cap_2 ∧ pathF'
    (Int.ofNat ((0 : Nat) + (1 : Nat))).toNat = pathF' (Int.ofNat ((0 : Nat) + (1 : Nat))).toNat ∧ (131074 : Int) = (131074 : Int) ∧ (12 : Int) = (12 : Int) ∧ (2 : Nat) = (2 : Nat) ∧
    cap_3 = cap_3 ∧ pathF' (Int.ofNat ((1 : Nat) + (1 : Nat))).toNat = pathF' (Int.ofNat ((1 : Nat) + (1 : Nat))).toNat ∧ (131074 : Int) = (131074 : Int) ∧ (13 : Int) = (13 : Int) ∧ (3
    : Nat) = (3 : Nat) ∧ cap_4 = cap_4 ∧ pathF' (Int.ofNat ((2 : Nat) + (1 : Nat))).toNat = pathF' (Int.ofNat ((2 : Nat) + (1 : Nat))).toNat ∧ (196611 : Int) = (196611 : Int) ∧ (24 :
    Int) = (24 : Int) ∧ (3 : Nat) = (3 : Nat) ∧ cap_5 = cap_5 ∧ pathF' (Int.ofNat ((3 : Nat) + (1 : Nat))).toNat = pathF' (Int.ofNat ((3 : Nat) + (1 : Nat))).toNat ∧ (196611 : Int) =
    (196611 : Int) ∧ (25 : Int) = (25 : Int) ∧ (3 : Nat) = (3 : Nat) ∧ cap_6 = cap_6 ∧ pathF' (Int.ofNat ((4 : Nat) + (1 : Nat))).toNat = pathF' (Int.ofNat ((4 : Nat) + (1 :
    Nat))).toNat ∧ (196611 : Int) = (196611 : Int) ∧ (26 : Int) = (26 : Int) ∧ (3 : Nat) = (3 : Nat) ∧ cap_7 = cap_7 ∧ pathF' (Int.ofNat ((5 : Nat) + (1 : Nat))).toNat = pathF'
    (Int.ofNat ((5 : Nat) + (1 : Nat))).toNat ∧ (196611 : Int) = (196611 : Int) ∧ (27 : Int) = (27 : Int) ∧ (4 : Nat) = (4 : Nat) ∧ cap_8 = cap_8 ∧ pathF' (Int.ofNat ((6 : Nat) + (1 :
    Nat))).toNat = pathF' (Int.ofNat ((6 : Nat) + (1 : Nat))).toNat ∧ (262148 : Int) = (262148 : Int) ∧ (48 : Int) = (48 : Int) ∧ (4 : Nat) = (4 : Nat) ∧ cap_9 = cap_9 ∧ pathF'
    (Int.ofNat ((7 : Nat) + (1 : Nat))).toNat = pathF' (Int.ofNat ((7 : Nat) + (1 : Nat))).toNat ∧ (262148 : Int) = (262148 : Int) ∧ (49 : Int) = (49 : Int) ∧ (4 : Nat) = (4 : Nat) ∧
    cap_10 = cap_10 ∧ pathF' (Int.ofNat ((8 : Nat) + (1 : Nat))).toNat = pathF' (Int.ofNat ((8 : Nat) + (1 : Nat))).toNat ∧ (262148 : Int) = (262148 : Int) ∧ (50 : Int) = (50 : Int) ∧
    (4 : Nat) = (4 : Nat) ∧ cap_11 = cap_11 ∧ pathF' (Int.ofNat ((9 : Nat) + (1 : Nat))).toNat = pathF' (Int.ofNat ((9 : Nat) + (1 : Nat))).toNat ∧ (262148 : Int) = (262148 : Int) ∧ (51
    : Int) = (51 : Int) ∧ (4 : Nat) = (4 : Nat) ∧ cap_12 = cap_12 ∧ pathF' (Int.ofNat ((10 : Nat) + (1 : Nat))).toNat = pathF' (Int.ofNat ((10 : Nat) + (1 : Nat))).toNat ∧ (262148 :
    Int) = (262148 : Int) ∧ (52 : Int) = (52 : Int) ∧ (4 : Nat) = (4 : Nat) ∧ cap_13 = cap_13 ∧ pathF' (Int.ofNat ((11 : Nat) + (1 : Nat))).toNat = pathF' (Int.ofNat ((11 : Nat) + (1 :
    Nat))).toNat ∧ (262148 : Int) = (262148 : Int) ∧ (53 : Int) = (53 : Int) ∧ (((-9223372036854775808 : Int) ≤ (54 : Int) ∧ (54 : Int) ≤ (9223372036854775807 : Int)) ∧
    (y.val.snd.snd.read.read.read.read.read.read.read.read.read.read.read.read.read.read.read.read.read.Has (262148 : Int) (54 : Int) ∧ (4 : Nat) = (4 : Nat) ∧ (4 : Nat) = (4 : Nat) ∧
    ((fun (g : Nat) => (↑(topsF (slF W a) y.val.fst g) : Int)) = fun (g : Nat) => (↑(topsF (slF W a) y.val.fst g) : Int)) ∧ (15 : Nat) = (15 : Nat) ∧ (15 : Nat) = (15 : Nat) ∧ ((fun (s
    : Nat) => (↑(ownF (slF W a) y.val.fst s) : Int)) = fun (s : Nat) => (↑(ownF (slF W a) y.val.fst s) : Int)) ∧ W = W ∧ (4 : Nat) = (4 : Nat) ∧ cap_1 = cap_1 ∧ hsF = hsF ∧ (65537 :
    Int) = (65537 : Int) ∧ (131074 : Int) = (131074 : Int) ∧ (196611 : Int) = (196611 : Int) ∧ (262148 : Int) = (262148 : Int) ∧ (1 : Nat) = (1 : Nat) ∧ cap = cap ∧ pathF' (Int.ofNat (0
    : Nat)).toNat = pathF' (Int.ofNat (0 : Nat)).toNat ∧ (65537 : Int) = (65537 : Int) ∧ (6 : Int) = (6 : Int) ∧ (2 : Nat) = (2 : Nat) ∧ cap_2 = cap_2 ∧ pathF' (Int.ofNat ((0 : Nat) +
    (1 : Nat))).toNat = pathF' (Int.ofNat ((0 : Nat) + (1 : Nat))).toNat ∧ (131074 : Int) = (131074 : Int) ∧ (12 : Int) = (12 : Int) ∧ (2 : Nat) = (2 : Nat) ∧ cap_3 = cap_3 ∧ pathF'
    (Int.ofNat ((1 : Nat) + (1 : Nat))).toNat = pathF' (Int.ofNat ((1 : Nat) + (1 : Nat))).toNat ∧ (131074 : Int) = (131074 : Int) ∧ (13 : Int) = (13 : Int) ∧ (3 : Nat) = (3 : Nat) ∧
    cap_4 = cap_4 ∧ pathF' (Int.ofNat ((2 : Nat) + (1 : Nat))).toNat = pathF' (Int.ofNat ((2 : Nat) + (1 : Nat))).toNat ∧ (196611 : Int) = (196611 : Int) ∧ (24 : Int) = (24 : Int) ∧ (3
    : Nat) = (3 : Nat) ∧ cap_5 = cap_5 ∧ pathF' (Int.ofNat ((3 : Nat) + (1 : Nat))).toNat = pathF' (Int.ofNat ((3 : Nat) + (1 : Nat))).toNat ∧ (196611 : Int) = (196611 : Int) ∧ (25 :
    Int) = (25 : Int) ∧ (3 : Nat) = (3 : Nat) ∧ cap_6 = cap_6 ∧ pathF' (Int.ofNat ((4 : Nat) + (1 : Nat))).toNat = pathF' (Int.ofNat ((4 : Nat) + (1 : Nat))).toNat ∧ (196611 : Int) =
    (196611 : Int) ∧ (26 : Int) = (26 : Int) ∧ (3 : Nat) = (3 : Nat) ∧ cap_7 = cap_7 ∧ pathF' (Int.ofNat ((5 : Nat) + (1 : Nat))).toNat = pathF' (Int.ofNat ((5 : Nat) + (1 :
    Nat))).toNat ∧ (196611 : Int) = (196611 : Int) ∧ (27 : Int) = (27 : Int) ∧ (4 : Nat) = (4 : Nat) ∧ cap_8 = cap_8 ∧ pathF' (Int.ofNat ((6 : Nat) + (1 : Nat))).toNat = pathF'
    (Int.ofNat ((6 : Nat) + (1 : Nat))).toNat ∧ (262148 : Int) = (262148 : Int) ∧ (48 : Int) = (48 : Int) ∧ (4 : Nat) = (4 : Nat) ∧ cap_9 = cap_9 ∧ pathF' (Int.ofNat ((7 : Nat) + (1 :
    Nat))).toNat = pathF' (Int.ofNat ((7 : Nat) + (1 : Nat))).toNat ∧ (262148 : Int) = (262148 : Int) ∧ (49 : Int) = (49 : Int) ∧ (4 : Nat) = (4 : Nat) ∧ cap_10 = cap_10 ∧ pathF'
    (Int.ofNat ((8 : Nat) + (1 : Nat))).toNat = pathF' (Int.ofNat ((8 : Nat) + (1 : Nat))).toNat ∧ (262148 : Int) = (262148 : Int) ∧ (50 : Int) = (50 : Int) ∧ (4 : Nat) = (4 : Nat) ∧
    cap_11 = cap_11 ∧ pathF' (Int.ofNat ((9 : Nat) + (1 : Nat))).toNat = pathF' (Int.ofNat ((9 : Nat) + (1 : Nat))).toNat ∧ (262148 : Int) = (262148 : Int) ∧ (51 : Int) = (51 : Int) ∧
    (4 : Nat) = (4 : Nat) ∧ cap_12 = cap_12 ∧ pathF' (Int.ofNat ((10 : Nat) + (1 : Nat))).toNat = pathF' (Int.ofNat ((10 : Nat) + (1 : Nat))).toNat ∧ (262148 : Int) = (262148 : Int) ∧
    (52 : Int) = (52 : Int) ∧ (4 : Nat) = (4 : Nat) ∧ cap_13 = cap_13 ∧ pathF' (Int.ofNat ((11 : Nat) + (1 : Nat))).toNat = pathF' (Int.ofNat ((11 : Nat) + (1 : Nat))).toNat ∧ (262148 :
    Int) = (262148 : Int) ∧ (53 : Int) = (53 : Int) ∧ (13 : Nat) < (15 : Nat) ∧ ((0 : Int) ≤ (↑(ownF (slF W a) y.val.fst (13 : Nat)) : Int) ∧ (↑(ownF (slF W a) y.val.fst (13 : Nat)) :
    Int) < (18446744073709551616 : Int)) ∧ ((↑(y.val.snd.snd.read.read.read.read.read.read.read.read.read.read.read.read.read.read.read.read.read.rd (262148 : Int) (54 : Int)) : Int) !=
    (↑(ownF (slF W a) y.val.fst (13 : Nat)) : Int)) = false ∧ (3 : Nat) < (4 : Nat) ∧ ((0 : Nat) < (4 : Nat) ∧ ∀ (cap_15 : Nat), (4 : Nat) ≤ cap_15 → (4 : Nat) = (4 : Nat) ∧ (4 : Nat) =
    (4 : Nat) ∧ ((fun (g : Nat) => (↑(topsF (slF W a) y.val.fst g) : Int)) = fun (g : Nat) => (↑(topsF (slF W a) y.val.fst g) : Int)) ∧ (15 : Nat) = (15 : Nat) ∧ (15 : Nat) = (15 : Nat)
    ∧ ((fun (s : Nat) => (↑(ownF (slF W a) y.val.fst s) : Int)) = fun (s : Nat) => (↑(ownF (slF W a) y.val.fst s) : Int)) ∧ W = W ∧ (4 : Nat) = (4 : Nat) ∧ cap_1 = cap_1 ∧ hsF = hsF ∧
    (65537 : Int) = (65537 : Int) ∧ (131074 : Int) = (131074 : Int) ∧ (196611 : Int) = (196611 : Int) ∧ (262148 : Int) = (262148 : Int) ∧ (1 : Nat) = (1 : Nat) ∧ cap = cap ∧ pathF'
    (Int.ofNat (0 : Nat)).toNat = pathF' (Int.ofNat (0 : Nat)).toNat ∧ (65537 : Int) = (65537 : Int) ∧ (6 : Int) = (6 : Int) ∧ (2 : Nat) = (2 : Nat) ∧ cap_2 = cap_2 ∧ pathF' (Int.ofNat
    ((0 : Nat) + (1 : Nat))).toNat = pathF' (Int.ofNat ((0 : Nat) + (1 : Nat))).toNat ∧ (131074 : Int) = (131074 : Int) ∧ (12 : Int) = (12 : Int) ∧ (2 : Nat) = (2 : Nat) ∧ cap_3 = cap_3
    ∧ pathF' (Int.ofNat ((1 : Nat) + (1 : Nat))).toNat = pathF' (Int.ofNat ((1 : Nat) + (1 : Nat))).toNat ∧ (131074 : Int) = (131074 : Int) ∧ (13 : Int) = (13 : Int) ∧ (3 : Nat) = (3 :
    Nat) ∧ cap_4 = cap_4 ∧ pathF' (Int.ofNat ((2 : Nat) + (1 : Nat))).toNat = pathF' (Int.ofNat ((2 : Nat) + (1 : Nat))).toNat ∧ (196611 : Int) = (196611 : Int) ∧ (24 : Int) = (24 :
    Int) ∧ (3 : Nat) = (3 : Nat) ∧ cap_5 = cap_5 ∧ pathF' (Int.ofNat ((3 : Nat) + (1 : Nat))).toNat = pathF' (Int.ofNat ((3 : Nat) + (1 : Nat))).toNat ∧ (196611 : Int) = (196611 : Int)
    ∧ (25 : Int) = (25 : Int) ∧ (3 : Nat) = (3 : Nat) ∧ cap_6 = cap_6 ∧ pathF' (Int.ofNat ((4 : Nat) + (1 : Nat))).toNat = pathF' (Int.ofNat ((4 : Nat) + (1 : Nat))).toNat ∧ (196611 :
    Int) = (196611 : Int) ∧ (26 : Int) = (26 : Int) ∧ (3 : Nat) = (3 : Nat) ∧ cap_7 = cap_7 ∧ pathF' (Int.ofNat ((5 : Nat) + (1 : Nat))).toNat = pathF' (Int.ofNat ((5 : Nat) + (1 :
    Nat))).toNat ∧ (196611 : Int) = (196611 : Int) ∧ (27 : Int) = (27 : Int) ∧ (4 : Nat) = (4 : Nat) ∧ cap_8 = cap_8 ∧ pathF' (Int.ofNat ((6 : Nat) + (1 : Nat))).toNat = pathF'
    (Int.ofNat ((6 : Nat) + (1 : Nat))).toNat ∧ (262148 : Int) = (262148 : Int) ∧ (48 : Int) = (48 : Int) ∧ (4 : Nat) = (4 : Nat) ∧ cap_9 = cap_9 ∧ pathF' (Int.ofNat ((7 : Nat) + (1 :
    Nat))).toNat = pathF' (Int.ofNat ((7 : Nat) + (1 : Nat))).toNat ∧ (262148 : Int) = (262148 : Int) ∧ (49 : Int) = (49 : Int) ∧ (4 : Nat) = (4 : Nat) ∧ cap_10 = cap_10 ∧ pathF'
    (Int.ofNat ((8 : Nat) + (1 : Nat))).toNat = pathF' (Int.ofNat ((8 : Nat) + (1 : Nat))).toNat ∧ (262148 : Int) = (262148 : Int) ∧ (50 : Int) = (50 : Int) ∧ (4 : Nat) = (4 : Nat) ∧
    cap_11 = cap_11 ∧ pathF' (Int.ofNat ((9 : Nat) + (1 : Nat))).toNat = pathF' (Int.ofNat ((9 : Nat) + (1 : Nat))).toNat ∧ (262148 : Int) = (262148 : Int) ∧ (51 : Int) = (51 : Int) ∧
    (4 : Nat) = (4 : Nat) ∧ cap_12 = cap_12 ∧ pathF' (Int.ofNat ((10 : Nat) + (1 : Nat))).toNat = pathF' (Int.ofNat ((10 : Nat) + (1 : Nat))).toNat ∧ (262148 : Int) = (262148 : Int) ∧
    (52 : Int) = (52 : Int) ∧ (4 : Nat) = (4 : Nat) ∧ cap_13 = cap_13 ∧ pathF' (Int.ofNat ((11 : Nat) + (1 : Nat))).toNat = pathF' (Int.ofNat ((11 : Nat) + (1 : Nat))).toNat ∧ (262148 :
    Int) = (262148 : Int) ∧ (53 : Int) = (53 : Int) ∧ (4 : Nat) = (4 : Nat) ∧ cap_14 = cap_14 ∧ pathF' (Int.ofNat ((12 : Nat) + (1 : Nat))).toNat = pathF' (Int.ofNat ((12 : Nat) + (1 :
    Nat))).toNat ∧ (262148 : Int) = (262148 : Int) ∧ (54 : Int) = (54 : Int) ∧ ((0 : Int) ≤ (0 : Int) ∧ (0 : Int) < (4 : Int)) ∧ ((0 : Nat) < (4 : Nat) ∧ (4 : Nat) = (4 : Nat) ∧ (4 :
    Nat) = (4 : Nat) ∧ ((fun (g : Nat) => (↑(topsF (slF W a) y.val.fst g) : Int)) = fun (g : Nat) => (↑(topsF (slF W a) y.val.fst g) : Int)) ∧ (15 : Nat) = (15 : Nat) ∧ (15 : Nat) = (15
    : Nat) ∧ ((fun (s : Nat) => (↑(ownF (slF W a) y.val.fst s) : Int)) = fun (s : Nat) => (↑(ownF (slF W a) y.val.fst s) : Int)) ∧ W = W ∧ (4 : Nat) = (4 : Nat) ∧ cap_1 = cap_1 ∧ hsF =
    hsF ∧ (65537 : Int) = (65537 : Int) ∧ (131074 : Int) = (131074 : Int) ∧ (196611 : Int) = (196611 : Int) ∧ (262148 : Int) = (262148 : Int) ∧ (1 : Nat) = (1 : Nat) ∧ cap = cap ∧
    pathF' (Int.ofNat (0 : Nat)).toNat = pathF' (Int.ofNat (0 : Nat)).toNat ∧ (65537 : Int) = (65537 : Int) ∧ (6 : Int) = (6 : Int) ∧ (2 : Nat) = (2 : Nat) ∧ cap_2 = cap_2 ∧ pathF'
    (Int.ofNat ((0 : Nat) + (1 : Nat))).toNat = pathF' (Int.ofNat ((0 : Nat) + (1 : Nat))).toNat ∧ (131074 : Int) = (131074 : Int) ∧ (12 : Int) = (12 : Int) ∧ (2 : Nat) = (2 : Nat) ∧
    cap_3 = cap_3 ∧ pathF' (Int.ofNat ((1 : Nat) + (1 : Nat))).toNat = pathF' (Int.ofNat ((1 : Nat) + (1 : Nat))).toNat ∧ (131074 : Int) = (131074 : Int) ∧ (13 : Int) = (13 : Int) ∧ (3
    : Nat) = (3 : Nat) ∧ cap_4 = cap_4 ∧ pathF' (Int.ofNat ((2 : Nat) + (1 : Nat))).toNat = pathF' (Int.ofNat ((2 : Nat) + (1 : Nat))).toNat ∧ (196611 : Int) = (196611 : Int) ∧ (24 :
    Int) = (24 : Int) ∧ (3 : Nat) = (3 : Nat) ∧ cap_5 = cap_5 ∧ pathF' (Int.ofNat ((3 : Nat) + (1 : Nat))).toNat = pathF' (Int.ofNat ((3 : Nat) + (1 : Nat))).toNat ∧ (196611 : Int) =
    (196611 : Int) ∧ (25 : Int) = (25 : Int) ∧ (3 : Nat) = (3 : Nat) ∧ cap_6 = cap_6 ∧ pathF' (Int.ofNat ((4 : Nat) + (1 : Nat))).toNat = pathF' (Int.ofNat ((4 : Nat) + (1 :
    Nat))).toNat ∧ (196611 : Int) = (196611 : Int) ∧ (26 : Int) = (26 : Int) ∧ (3 : Nat) = (3 : Nat) ∧ cap_7 = cap_7 ∧ pathF' (Int.ofNat ((5 : Nat) + (1 : Nat))).toNat = pathF'
    (Int.ofNat ((5 : Nat) + (1 : Nat))).toNat ∧ (196611 : Int) = (196611 : Int) ∧ (27 : Int) = (27 : Int) ∧ (4 : Nat) = (4 : Nat) ∧ cap_8 = cap_8 ∧ pathF' (Int.ofNat ((6 : Nat) + (1 :
    Nat))).toNat = pathF' (Int.ofNat ((6 : Nat) + (1 : Nat))).toNat ∧ (262148 : Int) = (262148 : Int) ∧ (48 : Int) = (48 : Int) ∧ (4 : Nat) = (4 : Nat) ∧ cap_9 = cap_9 ∧ pathF'
    (Int.ofNat ((7 : Nat) + (1 : Nat))).toNat = pathF' (Int.ofNat ((7 : Nat) + (1 : Nat))).toNat ∧ (262148 : Int) = (262148 : Int) ∧ (49 : Int) = (49 : Int) ∧ (4 : Nat) = (4 : Nat) ∧
    cap_10 = cap_10 ∧ pathF' (Int.ofNat ((8 : Nat) + (1 : Nat))).toNat = pathF' (Int.ofNat ((8 : Nat) + (1 : Nat))).toNat ∧ (262148 : Int) = (262148 : Int) ∧ (50 : Int) = (50 : Int) ∧
    (4 : Nat) = (4 : Nat) ∧ cap_11 = cap_11 ∧ pathF' (Int.ofNat ((9 : Nat) + (1 : Nat))).toNat = pathF' (Int.ofNat ((9 : Nat) + (1 : Nat))).toNat ∧ (262148 : Int) = (262148 : Int) ∧ (51
    : Int) = (51 : Int) ∧ (4 : Nat) = (4 : Nat) ∧ cap_12 = cap_12 ∧ pathF' (Int.ofNat ((10 : Nat) + (1 : Nat))).toNat = pathF' (Int.ofNat ((10 : Nat) + (1 : Nat))).toNat ∧ (262148 :
    Int) = (262148 : Int) ∧ (52 : Int) = (52 : Int) ∧ (4 : Nat) = (4 : Nat) ∧ cap_13 = cap_13 ∧ pathF' (Int.ofNat ((11 : Nat) + (1 : Nat))).toNat = pathF' (Int.ofNat ((11 : Nat) + (1 :
    Nat))).toNat ∧ (262148 : Int) = (262148 : Int) ∧ (53 : Int) = (53 : Int) ∧ (4 : Nat) = (4 : Nat) ∧ cap_14 = cap_14 ∧ pathF' (Int.ofNat ((12 : Nat) + (1 : Nat))).toNat = pathF'
    (Int.ofNat ((12 : Nat) + (1 : Nat))).toNat ∧ (262148 : Int) = (262148 : Int) ∧ (54 : Int) = (54 : Int) ∧ (((-9223372036854775808 : Int) ≤ (55 : Int) ∧ (55 : Int) ≤
    (9223372036854775807 : Int)) ∧ (y.val.snd.snd.read.read.read.read.read.read.read.read.read.read.read.read.read.read.read.read.read.read.Has (262148 : Int) (55 : Int) ∧ (4 : Nat) =
    (4 : Nat) ∧ (4 : Nat) = (4 : Nat) ∧ ((fun (g : Nat) => (↑(topsF (slF W a) y.val.fst g) : Int)) = fun (g : Nat) => (↑(topsF (slF W a) y.val.fst g) : Int)) ∧ (15 : Nat) = (15 : Nat) ∧
    (15 : Nat) = (15 : Nat) ∧ ((fun (s : Nat) => (↑(ownF (slF W a) y.val.fst s) : Int)) = fun (s : Nat) => (↑(ownF (slF W a) y.val.fst s) : Int)) ∧ W = W ∧ (4 : Nat) = (4 : Nat) ∧ cap_1
    = cap_1 ∧ hsF = hsF ∧ (65537 : Int) = (65537 : Int) ∧ (131074 : Int) = (131074 : Int) ∧ (196611 : Int) = (196611 : Int) ∧ (262148 : Int) = (262148 : Int) ∧ (1 : Nat) = (1 : Nat) ∧
    cap = cap ∧ pathF' (Int.ofNat (0 : Nat)).toNat = pathF' (Int.ofNat (0 : Nat)).toNat ∧ (65537 : Int) = (65537 : Int) ∧ (6 : Int) = (6 : Int) ∧ (2 : Nat) = (2 : Nat) ∧ cap_2 = cap_2 ∧
    pathF' (Int.ofNat ((0 : Nat) + (1 : Nat))).toNat = pathF' (Int.ofNat ((0 : Nat) + (1 : Nat))).toNat ∧ (131074 : Int) = (131074 : Int) ∧ (12 : Int) = (12 : Int) ∧ (2 : Nat) = (2 :
    Nat) ∧ cap_3 = cap_3 ∧ pathF' (Int.ofNat ((1 : Nat) + (1 : Nat))).toNat = pathF' (Int.ofNat ((1 : Nat) + (1 : Nat))).toNat ∧ (131074 : Int) = (131074 : Int) ∧ (13 : Int) = (13 :
    Int) ∧ (3 : Nat) = (3 : Nat) ∧ cap_4 = cap_4 ∧ pathF' (Int.ofNat ((2 : Nat) + (1 : Nat))).toNat = pathF' (Int.ofNat ((2 : Nat) + (1 : Nat))).toNat ∧ (196611 : Int) = (196611 : Int)
    ∧ (24 : Int) = (24 : Int) ∧ (3 : Nat) = (3 : Nat) ∧ cap_5 = cap_5 ∧ pathF' (Int.ofNat ((3 : Nat) + (1 : Nat))).toNat = pathF' (Int.ofNat ((3 : Nat) + (1 : Nat))).toNat ∧ (196611 :
    Int) = (196611 : Int) ∧ (25 : Int) = (25 : Int) ∧ (3 : Nat) = (3 : Nat) ∧ cap_6 = cap_6 ∧ pathF' (Int.ofNat ((4 : Nat) + (1 : Nat))).toNat = pathF' (Int.ofNat ((4 : Nat) + (1 :
    Nat))).toNat ∧ (196611 : Int) = (196611 : Int) ∧ (26 : Int) = (26 : Int) ∧ (3 : Nat) = (3 : Nat) ∧ cap_7 = cap_7 ∧ pathF' (Int.ofNat ((5 : Nat) + (1 : Nat))).toNat = pathF'
    (Int.ofNat ((5 : Nat) + (1 : Nat))).toNat ∧ (196611 : Int) = (196611 : Int) ∧ (27 : Int) = (27 : Int) ∧ (4 : Nat) = (4 : Nat) ∧ cap_8 = cap_8 ∧ pathF' (Int.ofNat ((6 : Nat) + (1 :
    Nat))).toNat = pathF' (Int.ofNat ((6 : Nat) + (1 : Nat))).toNat ∧ (262148 : Int) = (262148 : Int) ∧ (48 : Int) = (48 : Int) ∧ (4 : Nat) = (4 : Nat) ∧ cap_9 = cap_9 ∧ pathF'
    (Int.ofNat ((7 : Nat) + (1 : Nat))).toNat = pathF' (Int.ofNat ((7 : Nat) + (1 : Nat))).toNat ∧ (262148 : Int) = (262148 : Int) ∧ (49 : Int) = (49 : Int) ∧ (4 : Nat) = (4 : Nat) ∧
    cap_10 = cap_10 ∧ pathF' (Int.ofNat ((8 : Nat) + (1 : Nat))).toNat = pathF' (Int.ofNat ((8 : Nat) + (1 : Nat))).toNat ∧ (262148 : Int) = (262148 : Int) ∧ (50 : Int) = (50 : Int) ∧
    (4 : Nat) = (4 : Nat) ∧ cap_11 = cap_11 ∧ pathF' (Int.ofNat ((9 : Nat) + (1 : Nat))).toNat = pathF' (Int.ofNat ((9 : Nat) + (1 : Nat))).toNat ∧ (262148 : Int) = (262148 : Int) ∧ (51
    : Int) = (51 : Int) ∧ (4 : Nat) = (4 : Nat) ∧ cap_12 = cap_12 ∧ pathF' (Int.ofNat ((10 : Nat) + (1 : Nat))).toNat = pathF' (Int.ofNat ((10 : Nat) + (1 : Nat))).toNat ∧ (262148 :
    Int) = (262148 : Int) ∧ (52 : Int) = (52 : Int) ∧ (4 : Nat) = (4 : Nat) ∧ cap_13 = cap_13 ∧ pathF' (Int.ofNat ((11 : Nat) + (1 : Nat))).toNat = pathF' (Int.ofNat ((11 : Nat) + (1 :
    Nat))).toNat ∧ (262148 : Int) = (262148 : Int) ∧ (53 : Int) = (53 : Int) ∧ (4 : Nat) = (4 : Nat) ∧ cap_14 = cap_14 ∧ pathF' (Int.ofNat ((12 : Nat) + (1 : Nat))).toNat = pathF'
    (Int.ofNat ((12 : Nat) + (1 : Nat))).toNat ∧ (262148 : Int) = (262148 : Int) ∧ (54 : Int) = (54 : Int) ∧ (14 : Nat) < (15 : Nat) ∧ ((0 : Int) ≤ (↑(ownF (slF W a) y.val.fst (14 :
    Nat)) : Int) ∧ (↑(ownF (slF W a) y.val.fst (14 : Nat)) : Int) < (18446744073709551616 : Int)) ∧
    ((↑(y.val.snd.snd.read.read.read.read.read.read.read.read.read.read.read.read.read.read.read.read.read.read.rd (262148 : Int) (55 : Int)) : Int) != (↑(ownF (slF W a) y.val.fst (14 :
    Nat)) : Int)) = false ∧ (wr64 y.val.snd.snd.read.read.read.read.read.read.read.read.read.read.read.read.read.read.read.read.read.read.read.faults == (0 : Int)) = true ∧ some W =
    some W) ∧ True) ∧ True) ∧ True) ∧ True) ∧ True) ∧ True) ∧ True) ∧ True) ∧ True) ∧ True) ∧ True) ∧ True) ∧ True) ∧ True) ∧ True) ∧ True) ∧ True) ∧ True) ∧ True) ∧ True) ∧ True) ∧
    True) ∧ True) ∧ True) ∧ True) ∧ True) ∧ True) ∧ True) ∧ True) ∧ True) ∧ True) ∧ True) ∧ True) ∧ True) ∧ True) ∧ True) ∧ True) ∧ True) ∧ True) ∧ True) ∧ True) ∧ True) ∧ True) ∧ True)
    ∧ True) ∧ True) ∧ True) ∧ True) ∧ True) ∧ True) ∧ True) ∧ True) ∧ True) ∧ True) ∧ True) ∧ True) ∧ True) ∧ True) ∧ True) ∧ True)) ∧ True) ∧ (∀ (K : KO XE), K (SF.mk (129 : Nat)
    (ST.node (SV.c (SC.sliv a false len cap)) (ST.node (SV.tup []) (ST.node (SV.c (SC.ptr (16 : Nat) (0 : Nat))) (ST.node (SV.c (SC.sli (19 : Nat) (1 : Nat) true (0 : Nat) true (15 :
    Nat) (15 : Nat))) (ST.node (SV.tup []) (ST.node (SV.c (SC.sli (17 : Nat) (1 : Nat) true (0 : Nat) true (4 : Nat) cap_1)) (ST.node (SV.tup []) (ST.node (SV.tup []) ST.nil ST.nil)
    ST.nil) (ST.node (SV.tup []) ST.nil ST.nil)) (ST.node (SV.tup []) (ST.node (SV.tup []) ST.nil ST.nil) (ST.node (SV.tup []) ST.nil ST.nil))) (ST.node (SV.c (SC.boo true false))
    (ST.node (SV.tup []) (ST.node (SV.tup []) ST.nil ST.nil) (ST.node (SV.tup []) ST.nil ST.nil)) (ST.node (SV.tup []) (ST.node (SV.tup []) ST.nil ST.nil) (ST.node (SV.tup []) ST.nil
    ST.nil)))) (ST.node (SV.tup []) (ST.node (SV.tup []) (ST.node (SV.tup []) (ST.node (SV.tup []) ST.nil ST.nil) (ST.node (SV.tup []) ST.nil ST.nil)) (ST.node (SV.tup []) (ST.node
    (SV.tup []) ST.nil ST.nil) (ST.node (SV.tup []) ST.nil ST.nil))) (ST.node (SV.tup [(false, [SC.ptr (16 : Nat) (0 : Nat)]), (true, [SC.int false IntKind.i64 (z (0 : Nat)), SC.int
    false IntKind.i64 (z (1 : Nat)), SC.int false IntKind.i64 (z (2 : Nat)), SC.int false IntKind.i64 (z (3 : Nat)), SC.int false IntKind.u64 (z (4 : Nat)), SC.int false IntKind.u64 (z
    (5 : Nat)), SC.int false IntKind.u64 (z (6 : Nat)), SC.int false IntKind.u64 (z (7 : Nat)), SC.int false IntKind.u64 (z (8 : Nat)), SC.int false IntKind.u64 (z (9 : Nat)), SC.int
    false IntKind.u64 (z (10 : Nat)), SC.int false IntKind.u64 (z (11 : Nat)), SC.int false IntKind.u64 (z (12 : Nat)), SC.sliv ad false ln cp, SC.int false IntKind.i64 (z (14 : Nat)),
    SC.int false IntKind.i64 (z (15 : Nat)), SC.int false IntKind.i64 (z (16 : Nat)), SC.int false IntKind.i64 (z (17 : Nat)), SC.int false IntKind.i64 (z (18 : Nat)), SC.int false
    IntKind.i64 (z (19 : Nat))]), (false, [SC.sli (17 : Nat) (1 : Nat) true (0 : Nat) true (4 : Nat) cap_1])]) (ST.node (SV.tup []) (ST.node (SV.tup []) ST.nil ST.nil) (ST.node (SV.tup
    []) ST.nil ST.nil)) (ST.node (SV.tup []) (ST.node (SV.tup []) ST.nil ST.nil) (ST.node (SV.tup []) ST.nil ST.nil))))) (ST.node (SV.c (SC.sli (17 : Nat) (1 : Nat) true (0 : Nat) true
    (4 : Nat) cap_1)) (ST.node (SV.tup []) (ST.node (SV.tup []) (ST.node (SV.c (SC.sli (19 : Nat) (1 : Nat) true (0 : Nat) true (15 : Nat) (15 : Nat))) (ST.node (SV.tup []) ST.nil
    ST.nil) (ST.node (SV.tup []) ST.nil ST.nil)) (ST.node (SV.tup []) (ST.node (SV.tup []) ST.nil ST.nil) (ST.node (SV.tup []) ST.nil ST.nil))) (ST.node (SV.c (SC.int false IntKind.i64
    (↑len : Int))) (ST.node (SV.tup []) (ST.node (SV.tup []) ST.nil ST.nil) (ST.node (SV.tup []) ST.nil ST.nil)) (ST.node (SV.tup []) (ST.node (SV.tup []) ST.nil ST.nil) (ST.node
    (SV.tup []) ST.nil ST.nil)))) (ST.node (SV.tup []) (ST.node (SV.tup []) (ST.node (SV.tup []) (ST.node (SV.tup []) ST.nil ST.nil) (ST.node (SV.tup []) ST.nil ST.nil)) (ST.node
    (SV.tup []) (ST.node (SV.tup []) ST.nil ST.nil) (ST.node (SV.tup []) ST.nil ST.nil))) (ST.node (SV.c (SC.ptr (16 : Nat) (0 : Nat))) (ST.node (SV.tup []) (ST.node (SV.tup []) ST.nil
    ST.nil) (ST.node (SV.tup []) ST.nil ST.nil)) (ST.node (SV.tup []) (ST.node (SV.tup []) ST.nil ST.nil) (ST.node (SV.tup []) ST.nil ST.nil)))))) (ST.node (SV.c (SC.boo true false))
    (ST.node (SV.c (SC.ptr (12 : Nat) (0 : Nat))) (ST.node (SV.tup []) (ST.node (SV.tup []) (ST.node (SV.c (SC.sli (18 : Nat) (1 : Nat) true (0 : Nat) true (4 : Nat) (4 : Nat)))
    (ST.node (SV.tup []) (ST.node (SV.tup []) ST.nil ST.nil) ST.nil) (ST.node (SV.tup []) ST.nil ST.nil)) (ST.node (SV.tup []) (ST.node (SV.tup []) ST.nil ST.nil) (ST.node (SV.tup [])
    ST.nil ST.nil))) (ST.node (SV.c (SC.sliv a false len cap)) (ST.node (SV.tup []) (ST.node (SV.tup []) ST.nil ST.nil) (ST.node (SV.tup []) ST.nil ST.nil)) (ST.node (SV.tup [])
    (ST.node (SV.tup []) ST.nil ST.nil) (ST.node (SV.tup []) ST.nil ST.nil)))) (ST.node (SV.tup []) (ST.node (SV.tup []) (ST.node (SV.tup []) (ST.node (SV.tup []) ST.nil ST.nil)
    (ST.node (SV.tup []) ST.nil ST.nil)) (ST.node (SV.tup []) (ST.node (SV.tup []) ST.nil ST.nil) (ST.node (SV.tup []) ST.nil ST.nil))) (ST.node (SV.tup [(false, [SC.ptr (16 : Nat) (0 :
    Nat)]), (true, [SC.int false IntKind.i64 (z (0 : Nat)), SC.int false IntKind.i64 (z (1 : Nat)), SC.int false IntKind.i64 (z (2 : Nat)), SC.int false IntKind.i64 (z (3 : Nat)),
    SC.int false IntKind.u64 (z (4 : Nat)), SC.int false IntKind.u64 (z (5 : Nat)), SC.int false IntKind.u64 (z (6 : Nat)), SC.int false IntKind.u64 (z (7 : Nat)), SC.int false
    IntKind.u64 (z (8 : Nat)), SC.int false IntKind.u64 (z (9 : Nat)), SC.int false IntKind.u64 (z (10 : Nat)), SC.int false IntKind.u64 (z (11 : Nat)), SC.int false IntKind.u64 (z (12
    : Nat)), SC.sliv ad false ln cp, SC.int false IntKind.i64 (z (14 : Nat)), SC.int false IntKind.i64 (z (15 : Nat)), SC.int false IntKind.i64 (z (16 : Nat)), SC.int false IntKind.i64
    (z (17 : Nat)), SC.int false IntKind.i64 (z (18 : Nat)), SC.int false IntKind.i64 (z (19 : Nat))]), (false, [SC.sli (17 : Nat) (1 : Nat) true (0 : Nat) true (4 : Nat) cap_1])])
    (ST.node (SV.tup []) (ST.node (SV.tup []) ST.nil ST.nil) (ST.node (SV.tup []) ST.nil ST.nil)) (ST.node (SV.tup []) (ST.node (SV.tup []) ST.nil ST.nil) (ST.node (SV.tup []) ST.nil
    ST.nil))))) (ST.node (SV.c (SC.sli (18 : Nat) (1 : Nat) true (0 : Nat) true (4 : Nat) (4 : Nat))) (ST.node (SV.tup []) (ST.node (SV.tup []) (ST.node (SV.tup []) (ST.node (SV.tup [])
    ST.nil ST.nil) (ST.node (SV.tup []) ST.nil ST.nil)) (ST.node (SV.tup []) (ST.node (SV.tup []) ST.nil ST.nil) (ST.node (SV.tup []) ST.nil ST.nil))) (ST.node (SV.c (SC.boo true
    false)) (ST.node (SV.tup []) (ST.node (SV.tup []) ST.nil ST.nil) (ST.node (SV.tup []) ST.nil ST.nil)) (ST.node (SV.tup []) (ST.node (SV.tup []) ST.nil ST.nil) (ST.node (SV.tup [])
    ST.nil ST.nil)))) (ST.node (SV.tup []) (ST.node (SV.c (SC.boo true true)) (ST.node (SV.tup []) (ST.node (SV.tup []) ST.nil ST.nil) (ST.node (SV.tup []) ST.nil ST.nil)) (ST.node
    (SV.tup []) (ST.node (SV.tup []) ST.nil ST.nil) (ST.node (SV.tup []) ST.nil ST.nil))) (ST.node (SV.agg [SC.int false IntKind.i64 (z (0 : Nat)), SC.int false IntKind.i64 (z (1 :
    Nat)), SC.int false IntKind.i64 (z (2 : Nat)), SC.int false IntKind.i64 (z (3 : Nat)), SC.int false IntKind.u64 (z (4 : Nat)), SC.int false IntKind.u64 (z (5 : Nat)), SC.int false
    IntKind.u64 (z (6 : Nat)), SC.int false IntKind.u64 (z (7 : Nat)), SC.int false IntKind.u64 (z (8 : Nat)), SC.int false IntKind.u64 (z (9 : Nat)), SC.int false IntKind.u64 (z (10 :
    Nat)), SC.int false IntKind.u64 (z (11 : Nat)), SC.int false IntKind.u64 (z (12 : Nat)), SC.sliv ad false ln cp, SC.int false IntKind.i64 (z (14 : Nat)), SC.int false IntKind.i64 (z
    (15 : Nat)), SC.int false IntKind.i64 (z (16 : Nat)), SC.int false IntKind.i64 (z (17 : Nat)), SC.int false IntKind.i64 (z (18 : Nat)), SC.int false IntKind.i64 (z (19 : Nat))])
    (ST.node (SV.tup []) (ST.node (SV.tup []) ST.nil ST.nil) (ST.node (SV.tup []) ST.nil ST.nil)) (ST.node (SV.tup []) (ST.node (SV.tup []) ST.nil ST.nil) (ST.node (SV.tup []) ST.nil
    ST.nil)))))))) (Mem.mk [((0 : Nat), SO.seen W), ((12 : Nat), SO.cells [SC.int false IntKind.i64 (z (0 : Nat)), SC.int false IntKind.i64 (z (1 : Nat)), SC.int false IntKind.i64 (z (2
    : Nat)), SC.int false IntKind.i64 (z (3 : Nat)), SC.int false IntKind.u64 (z (4 : Nat)), SC.int false IntKind.u64 (z (5 : Nat)), SC.int false IntKind.u64 (z (6 : Nat)), SC.int false
    IntKind.u64 (z (7 : Nat)), SC.int false IntKind.u64 (z (8 : Nat)), SC.int false IntKind.u64 (z (9 : Nat)), SC.int false IntKind.u64 (z (10 : Nat)), SC.int false IntKind.u64 (z (11 :
    Nat)), SC.int false IntKind.u64 (z (12 : Nat)), SC.sliv ad false ln cp, SC.int false IntKind.i64 (z (14 : Nat)), SC.int false IntKind.i64 (z (15 : Nat)), SC.int false IntKind.i64 (z
    (16 : Nat)), SC.int false IntKind.i64 (z (17 : Nat)), SC.int false IntKind.i64 (z (18 : Nat)), SC.int false IntKind.i64 (z (19 : Nat))] (31 : Nat)), ((16 : Nat), SO.ext (XO.ar A)),
    ((17 : Nat), SO.ints (OfNat.ofNat (25 : Nat)) IntKind.u64 (4 : Nat) cap_1 hsF), ((18 : Nat), SO.cells [SC.int true IntKind.i64 (0 : Int), SC.int true IntKind.i64 (0 : Int), SC.int
    true IntKind.i64 (0 : Int), SC.int true IntKind.i64 (0 : Int)] (3 : Nat)), ((19 : Nat), SO.cells [SC.int true IntKind.i64 (0 : Int), SC.int true IntKind.i64 (0 : Int), SC.int true
    IntKind.i64 (0 : Int), SC.int true IntKind.i64 (0 : Int), SC.int true IntKind.i64 (0 : Int), SC.int true IntKind.i64 (0 : Int), SC.int true IntKind.i64 (0 : Int), SC.int true
    IntKind.i64 (0 : Int), SC.int true IntKind.i64 (0 : Int), SC.int true IntKind.i64 (0 : Int), SC.int true IntKind.i64 (0 : Int), SC.int true IntKind.i64 (0 : Int), SC.int true
    IntKind.i64 (0 : Int), SC.int true IntKind.i64 (0 : Int), SC.int true IntKind.i64 (0 : Int)] (3 : Nat))] (18 : Nat)) (Scr.inv dead [(12 : Nat), (16 : Nat), (18 : Nat), (19 : Nat)]
    (YT W a len) (headT W a len) (fun (y : YT W a len) => len - y.val.fst) fun (x : YT W a len) => Scr.nil.f.both (fs (19 : Nat))) ∧ True → K (SF.mk (129 : Nat) (ST.node (SV.c (SC.sliv
    a false len cap)) (ST.node (SV.tup []) (ST.node (SV.c (SC.ptr (16 : Nat) (0 : Nat))) (ST.node (SV.c (SC.sli (19 : Nat) (1 : Nat) true (0 : Nat) true (15 : Nat) (15 : Nat))) (ST.node
    (SV.tup []) (ST.node (SV.c (SC.sli (17 : Nat) (1 : Nat) true (0 : Nat) true (4 : Nat) cap_1)) (ST.node (SV.tup []) (ST.node (SV.tup []) ST.nil ST.nil) ST.nil) (ST.node (SV.tup [])
    ST.nil ST.nil)) (ST.node (SV.tup []) (ST.node (SV.tup []) ST.nil ST.nil) (ST.node (SV.tup []) ST.nil ST.nil))) (ST.node (SV.c (SC.boo true false)) (ST.node (SV.tup []) (ST.node
    (SV.tup []) ST.nil ST.nil) (ST.node (SV.tup []) ST.nil ST.nil)) (ST.node (SV.tup []) (ST.node (SV.tup []) ST.nil ST.nil) (ST.node (SV.tup []) ST.nil ST.nil)))) (ST.node (SV.tup [])
    (ST.node (SV.tup []) (ST.node (SV.tup []) (ST.node (SV.tup []) ST.nil ST.nil) (ST.node (SV.tup []) ST.nil ST.nil)) (ST.node (SV.tup []) (ST.node (SV.tup []) ST.nil ST.nil) (ST.node
    (SV.tup []) ST.nil ST.nil))) (ST.node (SV.tup [(false, [SC.ptr (16 : Nat) (0 : Nat)]), (true, [SC.int false IntKind.i64 (z (0 : Nat)), SC.int false IntKind.i64 (z (1 : Nat)), SC.int
    false IntKind.i64 (z (2 : Nat)), SC.int false IntKind.i64 (z (3 : Nat)), SC.int false IntKind.u64 (z (4 : Nat)), SC.int false IntKind.u64 (z (5 : Nat)), SC.int false IntKind.u64 (z
    (6 : Nat)), SC.int false IntKind.u64 (z (7 : Nat)), SC.int false IntKind.u64 (z (8 : Nat)), SC.int false IntKind.u64 (z (9 : Nat)), SC.int false IntKind.u64 (z (10 : Nat)), SC.int
    false IntKind.u64 (z (11 : Nat)), SC.int false IntKind.u64 (z (12 : Nat)), SC.sliv ad false ln cp, SC.int false IntKind.i64 (z (14 : Nat)), SC.int false IntKind.i64 (z (15 : Nat)),
    SC.int false IntKind.i64 (z (16 : Nat)), SC.int false IntKind.i64 (z (17 : Nat)), SC.int false IntKind.i64 (z (18 : Nat)), SC.int false IntKind.i64 (z (19 : Nat))]), (false, [SC.sli
    (17 : Nat) (1 : Nat) true (0 : Nat) true (4 : Nat) cap_1])]) (ST.node (SV.tup []) (ST.node (SV.tup []) ST.nil ST.nil) (ST.node (SV.tup []) ST.nil ST.nil)) (ST.node (SV.tup [])
    (ST.node (SV.tup []) ST.nil ST.nil) (ST.node (SV.tup []) ST.nil ST.nil))))) (ST.node (SV.c (SC.sli (17 : Nat) (1 : Nat) true (0 : Nat) true (4 : Nat) cap_1)) (ST.node (SV.tup [])
    (ST.node (SV.tup []) (ST.node (SV.c (SC.sli (19 : Nat) (1 : Nat) true (0 : Nat) true (15 : Nat) (15 : Nat))) (ST.node (SV.tup []) ST.nil ST.nil) (ST.node (SV.tup []) ST.nil ST.nil))
    (ST.node (SV.tup []) (ST.node (SV.tup []) ST.nil ST.nil) (ST.node (SV.tup []) ST.nil ST.nil))) (ST.node (SV.c (SC.int false IntKind.i64 (↑len : Int))) (ST.node (SV.tup []) (ST.node
    (SV.tup []) ST.nil ST.nil) (ST.node (SV.tup []) ST.nil ST.nil)) (ST.node (SV.tup []) (ST.node (SV.tup []) ST.nil ST.nil) (ST.node (SV.tup []) ST.nil ST.nil)))) (ST.node (SV.tup [])
    (ST.node (SV.tup []) (ST.node (SV.tup []) (ST.node (SV.tup []) ST.nil ST.nil) (ST.node (SV.tup []) ST.nil ST.nil)) (ST.node (SV.tup []) (ST.node (SV.tup []) ST.nil ST.nil) (ST.node
    (SV.tup []) ST.nil ST.nil))) (ST.node (SV.c (SC.ptr (16 : Nat) (0 : Nat))) (ST.node (SV.tup []) (ST.node (SV.tup []) ST.nil ST.nil) (ST.node (SV.tup []) ST.nil ST.nil)) (ST.node
    (SV.tup []) (ST.node (SV.tup []) ST.nil ST.nil) (ST.node (SV.tup []) ST.nil ST.nil)))))) (ST.node (SV.c (SC.boo true false)) (ST.node (SV.c (SC.ptr (12 : Nat) (0 : Nat))) (ST.node
    (SV.tup []) (ST.node (SV.tup []) (ST.node (SV.c (SC.sli (18 : Nat) (1 : Nat) true (0 : Nat) true (4 : Nat) (4 : Nat))) (ST.node (SV.tup []) (ST.node (SV.tup []) ST.nil ST.nil)
    ST.nil) (ST.node (SV.tup []) ST.nil ST.nil)) (ST.node (SV.tup []) (ST.node (SV.tup []) ST.nil ST.nil) (ST.node (SV.tup []) ST.nil ST.nil))) (ST.node (SV.c (SC.sliv a false len cap))
    (ST.node (SV.tup []) (ST.node (SV.tup []) ST.nil ST.nil) (ST.node (SV.tup []) ST.nil ST.nil)) (ST.node (SV.tup []) (ST.node (SV.tup []) ST.nil ST.nil) (ST.node (SV.tup []) ST.nil
    ST.nil)))) (ST.node (SV.tup []) (ST.node (SV.tup []) (ST.node (SV.tup []) (ST.node (SV.tup []) ST.nil ST.nil) (ST.node (SV.tup []) ST.nil ST.nil)) (ST.node (SV.tup []) (ST.node
    (SV.tup []) ST.nil ST.nil) (ST.node (SV.tup []) ST.nil ST.nil))) (ST.node (SV.tup [(false, [SC.ptr (16 : Nat) (0 : Nat)]), (true, [SC.int false IntKind.i64 (z (0 : Nat)), SC.int
    false IntKind.i64 (z (1 : Nat)), SC.int false IntKind.i64 (z (2 : Nat)), SC.int false IntKind.i64 (z (3 : Nat)), SC.int false IntKind.u64 (z (4 : Nat)), SC.int false IntKind.u64 (z
    (5 : Nat)), SC.int false IntKind.u64 (z (6 : Nat)), SC.int false IntKind.u64 (z (7 : Nat)), SC.int false IntKind.u64 (z (8 : Nat)), SC.int false IntKind.u64 (z (9 : Nat)), SC.int
    false IntKind.u64 (z (10 : Nat)), SC.int false IntKind.u64 (z (11 : Nat)), SC.int false IntKind.u64 (z (12 : Nat)), SC.sliv ad false ln cp, SC.int false IntKind.i64 (z (14 : Nat)),
    SC.int false IntKind.i64 (z (15 : Nat)), SC.int false IntKind.i64 (z (16 : Nat)), SC.int false IntKind.i64 (z (17 : Nat)), SC.int false IntKind.i64 (z (18 : Nat)), SC.int false
    IntKind.i64 (z (19 : Nat))]), (false, [SC.sli (17 : Nat) (1 : Nat) true (0 : Nat) true (4 : Nat) cap_1])]) (ST.node (SV.tup []) (ST.node (SV.tup []) ST.nil ST.nil) (ST.node (SV.tup
    []) ST.nil ST.nil)) (ST.node (SV.tup []) (ST.node (SV.tup []) ST.nil ST.nil) (ST.node (SV.tup []) ST.nil ST.nil))))) (ST.node (SV.c (SC.sli (18 : Nat) (1 : Nat) true (0 : Nat) true
    (4 : Nat) (4 : Nat))) (ST.node (SV.tup []) (ST.node (SV.tup []) (ST.node (SV.tup []) (ST.node (SV.tup []) ST.nil ST.nil) (ST.node (SV.tup []) ST.nil ST.nil)) (ST.node (SV.tup [])
    (ST.node (SV.tup []) ST.nil ST.nil) (ST.node (SV.tup []) ST.nil ST.nil))) (ST.node (SV.c (SC.boo true false)) (ST.node (SV.tup []) (ST.node (SV.tup []) ST.nil ST.nil) (ST.node
    (SV.tup []) ST.nil ST.nil)) (ST.node (SV.tup []) (ST.node (SV.tup []) ST.nil ST.nil) (ST.node (SV.tup []) ST.nil ST.nil)))) (ST.node (SV.tup []) (ST.node (SV.c (SC.boo true true))
    (ST.node (SV.tup []) (ST.node (SV.tup []) ST.nil ST.nil) (ST.node (SV.tup []) ST.nil ST.nil)) (ST.node (SV.tup []) (ST.node (SV.tup []) ST.nil ST.nil) (ST.node (SV.tup []) ST.nil
    ST.nil))) (ST.node (SV.agg [SC.int false IntKind.i64 (z (0 : Nat)), SC.int false IntKind.i64 (z (1 : Nat)), SC.int false IntKind.i64 (z (2 : Nat)), SC.int false IntKind.i64 (z (3 :
    Nat)), SC.int false IntKind.u64 (z (4 : Nat)), SC.int false IntKind.u64 (z (5 : Nat)), SC.int false IntKind.u64 (z (6 : Nat)), SC.int false IntKind.u64 (z (7 : Nat)), SC.int false
    IntKind.u64 (z (8 : Nat)), SC.int false IntKind.u64 (z (9 : Nat)), SC.int false IntKind.u64 (z (10 : Nat)), SC.int false IntKind.u64 (z (11 : Nat)), SC.int false IntKind.u64 (z (12
    : Nat)), SC.sliv ad false ln cp, SC.int false IntKind.i64 (z (14 : Nat)), SC.int false IntKind.i64 (z (15 : Nat)), SC.int false IntKind.i64 (z (16 : Nat)), SC.int false IntKind.i64
    (z (17 : Nat)), SC.int false IntKind.i64 (z (18 : Nat)), SC.int false IntKind.i64 (z (19 : Nat))]) (ST.node (SV.tup []) (ST.node (SV.tup []) ST.nil ST.nil) (ST.node (SV.tup [])
    ST.nil ST.nil)) (ST.node (SV.tup []) (ST.node (SV.tup []) ST.nil ST.nil) (ST.node (SV.tup []) ST.nil ST.nil)))))))) (Mem.mk [((0 : Nat), SO.seen W), ((12 : Nat), SO.cells [SC.int
    false IntKind.i64 (z (0 : Nat)), SC.int false IntKind.i64 (z (1 : Nat)), SC.int false IntKind.i64 (z (2 : Nat)), SC.int false IntKind.i64 (z (3 : Nat)), SC.int false IntKind.u64 (z
    (4 : Nat)), SC.int false IntKind.u64 (z (5 : Nat)), SC.int false IntKind.u64 (z (6 : Nat)), SC.int false IntKind.u64 (z (7 : Nat)), SC.int false IntKind.u64 (z (8 : Nat)), SC.int
    false IntKind.u64 (z (9 : Nat)), SC.int false IntKind.u64 (z (10 : Nat)), SC.int false IntKind.u64 (z (11 : Nat)), SC.int false IntKind.u64 (z (12 : Nat)), SC.sliv ad false ln cp,
    SC.int false IntKind.i64 (z (14 : Nat)), SC.int false IntKind.i64 (z (15 : Nat)), SC.int false IntKind.i64 (z (16 : Nat)), SC.int false IntKind.i64 (z (17 : Nat)), SC.int false
    IntKind.i64 (z (18 : Nat)), SC.int false IntKind.i64 (z (19 : Nat))] (31 : Nat)), ((16 : Nat), SO.ext (XO.ar A)), ((17 : Nat), SO.ints (OfNat.ofNat (25 : Nat)) IntKind.u64 (4 : Nat)
    cap_1 hsF), ((18 : Nat), SO.cells [SC.int true IntKind.i64 (0 : Int), SC.int true IntKind.i64 (0 : Int), SC.int true IntKind.i64 (0 : Int), SC.int true IntKind.i64 (0 : Int)] (3 :
    Nat)), ((19 : Nat), SO.cells [SC.int true IntKind.i64 (0 : Int), SC.int true IntKind.i64 (0 : Int), SC.int true IntKind.i64 (0 : Int), SC.int true IntKind.i64 (0 : Int), SC.int true
    IntKind.i64 (0 : Int), SC.int true IntKind.i64 (0 : Int), SC.int true IntKind.i64 (0 : Int), SC.int true IntKind.i64 (0 : Int), SC.int true IntKind.i64 (0 : Int), SC.int true
    IntKind.i64 (0 : Int), SC.int true IntKind.i64 (0 : Int), SC.int true IntKind.i64 (0 : Int), SC.int true IntKind.i64 (0 : Int), SC.int true IntKind.i64 (0 : Int), SC.int true
    IntKind.i64 (0 : Int)] (3 : Nat))] (18 : Nat)) (Scr.inv dead [(12 : Nat), (16 : Nat), (18 : Nat), (19 : Nat)] (YT W a len) (headT W a len) (fun (y : YT W a len) => len - y.val.fst)
    fun (x : YT W a len) => Scr.nil.f.both (fs (19 : Nat))) ∧ True) ∧ True)) := by
  kernel_rfl
theorem countTops (W : World) (a : Option Addr) (len cap : Nat) (hsome : 0 < len → a.isSome = true) (hseen : ∀ j, j < len → Seen .u8 W (addOpt a j)) : Run (callN Try.prog tblT (fun _ _ => false) 100 20 3 [.c (.sliv a false len cap)] ⟨[(0, .seen W)], 1⟩ (script W a len) (fun v m _ => retSeen W v m)) := by
  constructor
  rw [countTops_vc]
  refine ⟨fun _ => ⟨rfl, rfl⟩, fun hlen A cap1 z ad ln cp hA hcap => ?_⟩
  have h40 : len ≤ 40 := by have := of_decide_eq_false hlen; omega
  have hsg : ∀ k, segG (seenInt .u8 W (addOpt a k) % 15).toNat ≤ 3 := fun k => segG_14 (slF_le W a k)
  have hx15 : ∀ k, 0 ≤ seenInt .u8 W (addOpt a k) % 15 ∧ seenInt .u8 W (addOpt a k) % 15 ≤ 14 := fun k => by
    have := Int.emod_lt_of_pos (seenInt .u8 W (addOpt a k)) (show (0 : Int) < 15 by omega)
    have := Int.emod_nonneg (seenInt .u8 W (addOpt a k)) (show (15 : Int) ≠ 0 by omega)
    omega
  have lt_of : ∀ y : YT W a len, decide ((y.1.1 : Int) < (len : Int)) = true → y.1.1 < len := fun y h => by have := of_decide_eq_true h; omega
  repeat' first
    | with_reducible apply And.intro
    | with_reducible exact trivial
    | with_reducible exact fun _ h => h
    | intro _
    | with_reducible exact Eq.refl _
  any_goals first
    | (have hy := lt_of ‹YT W a len› ‹_›; with_reducible refine Exists.intro (nextY ‹YT W a len› hy h40) ?_)
    | with_reducible refine Exists.intro (mkY 0 A A (Nat.zero_le _) hA (TopInv.zero hA _) : YT W a len) ?_
  repeat' first
    | with_reducible apply And.intro
    | with_reducible exact trivial
    | with_reducible exact fun _ h => h
    | intro _
    | with_reducible exact Eq.refl _
  all_goals first
    | omega
    | with_reducible exact nextLt _ _ _
    | with_reducible exact nextK _ _ _
    | (with_reducible refine nextX _ _ _ ?_; simp only [addO_eq, Int.toNat_natCast, Nat.zero_add, stY, slF]; done)
    | (with_reducible refine nextT _ _ _ _ ?_; simp only [addO_eq, Int.toNat_natCast, Nat.zero_add, stY, slF]; done)
    | (with_reducible refine nextO _ _ _ _ ?_; simp only [addO_eq, Int.toNat_natCast, Nat.zero_add, stY, slF]; done)
    | with_reducible exact topLt _ h40 _
    | with_reducible exact ownLt _ h40 _
    | with_reducible exact topLe _ h40 _
    | with_reducible exact ownLe _ h40 _
    | (with_reducible refine okZ0 _ h40 ?_; simp only [addO_eq, Int.toNat_natCast, Nat.zero_add, stY, slF]; done)
    | (with_reducible refine okZ1 _ h40 ?_; simp only [addO_eq, Int.toNat_natCast, Nat.zero_add, stY, slF]; done)
    | (with_reducible refine okZ2 _ h40 ?_; simp only [addO_eq, Int.toNat_natCast, Nat.zero_add, stY, slF]; done)
    | (with_reducible refine okZ3 _ h40 ?_; simp only [addO_eq, Int.toNat_natCast, Nat.zero_add, stY, slF]; done)
    | (with_reducible refine okZ4 _ h40 ?_; simp only [addO_eq, Int.toNat_natCast, Nat.zero_add, stY, slF]; done)
    | (with_reducible refine okZ5 _ h40 ?_; simp only [addO_eq, Int.toNat_natCast, Nat.zero_add, stY, slF]; done)
    | (with_reducible refine okZ6 _ h40 ?_; simp only [addO_eq, Int.toNat_natCast, Nat.zero_add, stY, slF]; done)
    | (with_reducible refine okZ7 _ h40 ?_; simp only [addO_eq, Int.toNat_natCast, Nat.zero_add, stY, slF]; done)
    | (with_reducible refine okZ8 _ h40 ?_; simp only [addO_eq, Int.toNat_natCast, Nat.zero_add, stY, slF]; done)
    | with_reducible exact hsome (by have := lt_of ‹YT W a len› ‹_›; omega)
    | (have h1 := hseen _ (lt_of ‹YT W a len› ‹_›); simp only [Int.toNat_natCast]; with_reducible exact h1)
    | (have h1 := hsg ((‹YT W a len›.1.1 : Int)).toNat; have h2 := hx15 ((‹YT W a len›.1.1 : Int)).toNat; simp only [addO_eq, Nat.zero_add]; omega)
    | (have h1 := hsg ((‹YT W a len›.1.1 : Int)).toNat; have h2 := hx15 ((‹YT W a len›.1.1 : Int)).toNat; omega)
    | (with_reducible apply decide_eq_false; have h1 := hsg ((‹YT W a len›.1.1 : Int)).toNat; omega)
    | (have := lt_of ‹YT W a len› ‹_›; omega)
    | with_reducible exact Int.natCast_nonneg _
    | (try simp only [Ar.has_read, Ar.rd_read]
       with_reducible first
         | exact hT0 _
         | exact rT0 _
         | exact hT1 _
         | exact rT1 _
         | exact hT2 _
         | exact rT2 _
         | exact hT3 _
         | exact rT3 _
         | exact hO0 _
         | exact rO0 _
         | exact hO1 _
         | exact rO1 _
         | exact hO2 _
         | exact rO2 _
         | exact hO3 _
         | exact rO3 _
         | exact hO4 _
         | exact rO4 _
         | exact hO5 _
         | exact rO5 _
         | exact hO6 _
         | exact rO6 _
         | exact hO7 _
         | exact rO7 _
         | exact hO8 _
         | exact rO8 _
         | exact hO9 _
         | exact rO9 _
         | exact hO10 _
         | exact rO10 _
         | exact hO11 _
         | exact rO11 _
         | exact hO12 _
         | exact rO12 _
         | exact hO13 _
         | exact rO13 _
         | exact hO14 _
         | exact rO14 _
       done)
    | (simp only [faults_read]; with_reducible exact faultsY _)
    | (with_reducible refine Int.le_trans ?_ (Int.add_le_add_right (Int.natCast_nonneg _) 1); omega)

    | with_reducible exact hsome ‹_›
    | with_reducible exact hseen _ ‹_›
    | (unfold mkY; rfl)
end Go.Proofs.Ytgiakcepgbpchaa
