/- DirTells: the walk by the executor; what is left to show is plain. Conditions: none. -/
import Derived.Test.YtohijcgbfcahhaaSumDir
import Derived.Test.YtohijcgbfcahhaaDirE
import Derived.Test.YtohijcgbfcahhaaGate
namespace Go.Proofs.Ytohijcgbfcahhaa.dirTellsW
open Go
set_option maxRecDepth 1000000
set_option maxHeartbeats 0
def firstS : Smry Try.prog EXT.none where
  g := 26
  run := fun args m K => match args with
    | [] => K (.c (.boo true true)) m
    | _ => Stuck 720
  ok := fun args m K h => by
    split at h <;> try exact h.elim
    exact gives_pure h fun ν w => first10 w
def tbl : List (Smry Try.prog EXT.none) := [firstS, segS, sizeS, fixedS, powS, rsegS, pathS, rpathS, wordS, counterS, slotS]
def i64B (n : Int) (h : -9223372036854775808 ≤ n ∧ n ≤ 9223372036854775807) : SC := .int false .i64 n (.w _ _ h)
def u64B (n : Int) (h : 0 ≤ n ∧ n ≤ 18446744073709551615) : SC := .int false .u64 n (.w _ _ h)
def tmp23 (t : Nat) : Bool := Nat.ble 23 t
def cutB (id slot : Nat) (b : Bool) (rest : Scr EXT.none) : Scr EXT.none := .cut id tmp23 [0] Unit (fun _ _ => ([(slot, .c (.boo false b))], [])) .nil fun _ => rest
def cutL (id slot : Nat) (rest : Scr EXT.none) : Scr EXT.none := .cut id tmp23 [] Unit (fun _ _ => ([(slot, .c (.boo true false))], [])) .nil fun _ => rest
def cutC (id slot : Nat) (first rest : Scr EXT.none) : Scr EXT.none := .cut id tmp23 [] Unit (fun _ _ => ([(slot, .c (.boo true false))], [])) first fun _ => rest
def stop (id : Nat) : Scr EXT.none := .cut id tmp23 [] Unit (fun _ _ => ([], [])) .nil fun _ => .stop
def invL (len : Nat) : Scr EXT.none := .inv (fun t => Nat.ble 23 t && !(Nat.beq t 248)) [] {i : Nat // i ≤ len} (fun _ y => ([(249, .c (.int false .i64 (y.1 : Int) .any))], [])) (fun y => len - y.1) (fun _ => .nil)
def script (s g : Int) : Scr EXT.none := cutB 9 17 (inS s) (cutB 10 18 (inG g) (cutL 11 122 (cutL 13 149 (cutC 15 191 (.case 13 (.case 15 (.f (.f .nil)) (.f (.f .nil))) (.case 15 (.f (.f .nil)) (.f (.f .nil)))) (.both .nil (cutC 20 238 (.case 11 (.f (.f (.f .nil))) (.f (.f (.f .nil)))) (.f (invL (segG s.toNat + 1)))))))))
/-- What the executor leaves to be shown, written out. -/
theorem vc (seg s field g node : Int) (h0 : _) (h1 : _) (h2 : _) (h3 : _) (h4 : _) : (callN Try.prog tbl (fun _ _ => false) 100 20 7 [.agg [u64B seg h0, i64B s h1, i64B field h2, i64B g h3, i64B node h4]] ⟨[], 0⟩ (script s g) (fun v _ _ => retTrue v)) = (
    (seg = seg ∧ s = s ∧ field = field ∧ g = g ∧ node = node ∧ (seg = seg ∧ s = s ∧ field = field ∧ g = g ∧ node = node ∧ (inS s = true → (0 : Nat) < segG s.toNat + (1 : Nat) ∧ ∀ (cap :
    Nat), segG s.toNat + (1 : Nat) ≤ cap → ((decide (s ≥ (0 : Int)) = true → ∃ (y : Unit), seg = seg ∧ s = s ∧ field = field ∧ g = g ∧ node = node ∧ field = field ∧ g = g ∧ node = node
    ∧ ((if inS s = true then (↑(segG s.toNat) : Int) else (0 : Int)) = if inS s = true then (↑(segG s.toNat) : Int) else (0 : Int)) ∧ ((if inS s = true then (↑(segO s.toNat) : Int) else
    (0 : Int)) = if inS s = true then (↑(segO s.toNat) : Int) else (0 : Int)) ∧ inS s = inS s ∧ (inS s && inF field) = (inS s && inF field) ∧ inC g node = inC g node ∧ ((if inL g node =
    true then node - (1 : Int) else (0 : Int)) = if inL g node = true then node - (1 : Int) else (0 : Int)) ∧ inL g node = inL g node ∧ (0 : Nat) = (0 : Nat) ∧ segG s.toNat + (1 : Nat)
    = segG s.toNat + (1 : Nat) ∧ cap = cap ∧ seg = seg ∧ s = s ∧ ((if (inS s && inF field) = true then seg else (0 : Int)) = if (inS s && inF field) = true then seg else (0 : Int)) ∧
    ((if (inS s && inF field) = true then (5 : Int) * (↑(segO s.toNat) : Int) + field else (0 : Int)) = if (inS s && inF field) = true then (5 : Int) * (↑(segO s.toNat) : Int) + field
    else (0 : Int)) ∧ ((if inC g node = true then seg else (0 : Int)) = if inC g node = true then seg else (0 : Int)) ∧ ((if inC g node = true then (5 : Int) * (↑((2 : Nat) ^ g.toNat) :
    Int) + node else (0 : Int)) = if inC g node = true then (5 : Int) * (↑((2 : Nat) ^ g.toNat) : Int) + node else (0 : Int)) ∧ segG s.toNat + (1 : Nat) = segG s.toNat + (1 : Nat) ∧ cap
    = cap ∧ pathF' s.toNat = pathF' s.toNat ∧ inS s = decide (s ≤ (254 : Int)) ∧ True) ∧ (decide (s ≥ (0 : Int)) = false → ∃ (y : Unit), seg = seg ∧ s = s ∧ field = field ∧ g = g ∧ node
    = node ∧ field = field ∧ g = g ∧ node = node ∧ ((if inS s = true then (↑(segG s.toNat) : Int) else (0 : Int)) = if inS s = true then (↑(segG s.toNat) : Int) else (0 : Int)) ∧ ((if
    inS s = true then (↑(segO s.toNat) : Int) else (0 : Int)) = if inS s = true then (↑(segO s.toNat) : Int) else (0 : Int)) ∧ inS s = inS s ∧ (inS s && inF field) = (inS s && inF
    field) ∧ inC g node = inC g node ∧ ((if inL g node = true then node - (1 : Int) else (0 : Int)) = if inL g node = true then node - (1 : Int) else (0 : Int)) ∧ inL g node = inL g
    node ∧ (0 : Nat) = (0 : Nat) ∧ segG s.toNat + (1 : Nat) = segG s.toNat + (1 : Nat) ∧ cap = cap ∧ seg = seg ∧ s = s ∧ ((if (inS s && inF field) = true then seg else (0 : Int)) = if
    (inS s && inF field) = true then seg else (0 : Int)) ∧ ((if (inS s && inF field) = true then (5 : Int) * (↑(segO s.toNat) : Int) + field else (0 : Int)) = if (inS s && inF field) =
    true then (5 : Int) * (↑(segO s.toNat) : Int) + field else (0 : Int)) ∧ ((if inC g node = true then seg else (0 : Int)) = if inC g node = true then seg else (0 : Int)) ∧ ((if inC g
    node = true then (5 : Int) * (↑((2 : Nat) ^ g.toNat) : Int) + node else (0 : Int)) = if inC g node = true then (5 : Int) * (↑((2 : Nat) ^ g.toNat) : Int) + node else (0 : Int)) ∧
    segG s.toNat + (1 : Nat) = segG s.toNat + (1 : Nat) ∧ cap = cap ∧ pathF' s.toNat = pathF' s.toNat ∧ inS s = false ∧ True)) ∧ ∀ (y : Unit) (ρ : Nat → Value), ((decide (g ≥ (0 : Int))
    = true → ∃ (y : Unit), seg = seg ∧ s = s ∧ field = field ∧ g = g ∧ node = node ∧ field = field ∧ g = g ∧ node = node ∧ ((if inS s = true then (↑(segG s.toNat) : Int) else (0 : Int))
    = if inS s = true then (↑(segG s.toNat) : Int) else (0 : Int)) ∧ ((if inS s = true then (↑(segO s.toNat) : Int) else (0 : Int)) = if inS s = true then (↑(segO s.toNat) : Int) else
    (0 : Int)) ∧ inS s = inS s ∧ (inS s && inF field) = (inS s && inF field) ∧ inC g node = inC g node ∧ ((if inL g node = true then node - (1 : Int) else (0 : Int)) = if inL g node =
    true then node - (1 : Int) else (0 : Int)) ∧ inL g node = inL g node ∧ (0 : Nat) = (0 : Nat) ∧ segG s.toNat + (1 : Nat) = segG s.toNat + (1 : Nat) ∧ cap = cap ∧ inS s = inS s ∧ seg
    = seg ∧ s = s ∧ ((if (inS s && inF field) = true then seg else (0 : Int)) = if (inS s && inF field) = true then seg else (0 : Int)) ∧ ((if (inS s && inF field) = true then (5 : Int)
    * (↑(segO s.toNat) : Int) + field else (0 : Int)) = if (inS s && inF field) = true then (5 : Int) * (↑(segO s.toNat) : Int) + field else (0 : Int)) ∧ ((if inC g node = true then seg
    else (0 : Int)) = if inC g node = true then seg else (0 : Int)) ∧ ((if inC g node = true then (5 : Int) * (↑((2 : Nat) ^ g.toNat) : Int) + node else (0 : Int)) = if inC g node =
    true then (5 : Int) * (↑((2 : Nat) ^ g.toNat) : Int) + node else (0 : Int)) ∧ segG s.toNat + (1 : Nat) = segG s.toNat + (1 : Nat) ∧ cap = cap ∧ pathF' s.toNat = pathF' s.toNat ∧ inG
    g = decide (g ≤ (7 : Int)) ∧ True) ∧ (decide (g ≥ (0 : Int)) = false → ∃ (y : Unit), seg = seg ∧ s = s ∧ field = field ∧ g = g ∧ node = node ∧ field = field ∧ g = g ∧ node = node ∧
    ((if inS s = true then (↑(segG s.toNat) : Int) else (0 : Int)) = if inS s = true then (↑(segG s.toNat) : Int) else (0 : Int)) ∧ ((if inS s = true then (↑(segO s.toNat) : Int) else
    (0 : Int)) = if inS s = true then (↑(segO s.toNat) : Int) else (0 : Int)) ∧ inS s = inS s ∧ (inS s && inF field) = (inS s && inF field) ∧ inC g node = inC g node ∧ ((if inL g node =
    true then node - (1 : Int) else (0 : Int)) = if inL g node = true then node - (1 : Int) else (0 : Int)) ∧ inL g node = inL g node ∧ (0 : Nat) = (0 : Nat) ∧ segG s.toNat + (1 : Nat)
    = segG s.toNat + (1 : Nat) ∧ cap = cap ∧ inS s = inS s ∧ seg = seg ∧ s = s ∧ ((if (inS s && inF field) = true then seg else (0 : Int)) = if (inS s && inF field) = true then seg else
    (0 : Int)) ∧ ((if (inS s && inF field) = true then (5 : Int) * (↑(segO s.toNat) : Int) + field else (0 : Int)) = if (inS s && inF field) = true then (5 : Int) * (↑(segO s.toNat) :
    Int) + field else (0 : Int)) ∧ ((if inC g node = true then seg else (0 : Int)) = if inC g node = true then seg else (0 : Int)) ∧ ((if inC g node = true then (5 : Int) * (↑((2 : Nat)
    ^ g.toNat) : Int) + node else (0 : Int)) = if inC g node = true then (5 : Int) * (↑((2 : Nat) ^ g.toNat) : Int) + node else (0 : Int)) ∧ segG s.toNat + (1 : Nat) = segG s.toNat + (1
    : Nat) ∧ cap = cap ∧ pathF' s.toNat = pathF' s.toNat ∧ inG g = false ∧ True)) ∧ ∀ (y : Unit) (ρ : Nat → Value), (((false == (inS s == inS s)) = true → false = true) ∧ ((false ==
    (inS s == inS s)) = false → (inS s = true → (decide (field ≥ (0 : Int)) = true → ((false == ((inS s && inF field) == decide (field ≤ (4 : Int)))) = true → false = true) ∧ ((false ==
    ((inS s && inF field) == decide (field ≤ (4 : Int)))) = false → ((false == ((0 : Int) == (0 : Int) && ((1 : Int) + max (0 : Int) (min g (7 : Int)) == (1 : Int) + max (0 : Int) (min
    g (7 : Int)) && true))) = true → false = true) ∧ ((false == ((0 : Int) == (0 : Int) && ((1 : Int) + max (0 : Int) (min g (7 : Int)) == (1 : Int) + max (0 : Int) (min g (7 : Int)) &&
    true))) = false → ((!inG g) = true → (((if inG g = true then (↑((7 : Nat) * (2 : Nat) ^ g.toNat) : Int) else (0 : Int)) != (0 : Int)) = true → false = true) ∧ (((if inG g = true
    then (↑((7 : Nat) * (2 : Nat) ^ g.toNat) : Int) else (0 : Int)) != (0 : Int)) = false → (inG g = true → ((0 : Int) ≤ g ∧ g ≤ (8 : Int)) ∧ ((-9223372036854775808 : Int) ≤ (7 : Int) *
    (↑((2 : Nat) ^ g.toNat) : Int) ∧ (7 : Int) * (↑((2 : Nat) ^ g.toNat) : Int) ≤ (9223372036854775807 : Int)) ∧ (((if inG g = true then (↑((7 : Nat) * (2 : Nat) ^ g.toNat) : Int) else
    (0 : Int)) != (7 : Int) * (↑((2 : Nat) ^ g.toNat) : Int)) = true → false = true) ∧ (((if inG g = true then (↑((7 : Nat) * (2 : Nat) ^ g.toNat) : Int) else (0 : Int)) != (7 : Int) *
    (↑((2 : Nat) ^ g.toNat) : Int)) = false → ∃ (y : Unit), seg = seg ∧ s = s ∧ field = field ∧ g = g ∧ node = node ∧ field = field ∧ g = g ∧ node = node ∧ ((if inS s = true then
    (↑(segG s.toNat) : Int) else (0 : Int)) = if inS s = true then (↑(segG s.toNat) : Int) else (0 : Int)) ∧ ((if inS s = true then (↑(segO s.toNat) : Int) else (0 : Int)) = if inS s =
    true then (↑(segO s.toNat) : Int) else (0 : Int)) ∧ inS s = inS s ∧ (inS s && inF field) = (inS s && inF field) ∧ inC g node = inC g node ∧ ((if inL g node = true then node - (1 :
    Int) else (0 : Int)) = if inL g node = true then node - (1 : Int) else (0 : Int)) ∧ inL g node = inL g node ∧ (0 : Nat) = (0 : Nat) ∧ segG s.toNat + (1 : Nat) = segG s.toNat + (1 :
    Nat) ∧ cap = cap ∧ inS s = inS s ∧ inG g = inG g ∧ seg = seg ∧ s = s ∧ ((if (inS s && inF field) = true then seg else (0 : Int)) = if (inS s && inF field) = true then seg else (0 :
    Int)) ∧ ((if (inS s && inF field) = true then (5 : Int) * (↑(segO s.toNat) : Int) + field else (0 : Int)) = if (inS s && inF field) = true then (5 : Int) * (↑(segO s.toNat) : Int) +
    field else (0 : Int)) ∧ ((if inC g node = true then seg else (0 : Int)) = if inC g node = true then seg else (0 : Int)) ∧ ((if inC g node = true then (5 : Int) * (↑((2 : Nat) ^
    g.toNat) : Int) + node else (0 : Int)) = if inC g node = true then (5 : Int) * (↑((2 : Nat) ^ g.toNat) : Int) + node else (0 : Int)) ∧ segG s.toNat + (1 : Nat) = segG s.toNat + (1 :
    Nat) ∧ cap = cap ∧ pathF' s.toNat = pathF' s.toNat ∧ True)) ∧ (inG g = false → ∃ (y : Unit), seg = seg ∧ s = s ∧ field = field ∧ g = g ∧ node = node ∧ field = field ∧ g = g ∧ node =
    node ∧ ((if inS s = true then (↑(segG s.toNat) : Int) else (0 : Int)) = if inS s = true then (↑(segG s.toNat) : Int) else (0 : Int)) ∧ ((if inS s = true then (↑(segO s.toNat) : Int)
    else (0 : Int)) = if inS s = true then (↑(segO s.toNat) : Int) else (0 : Int)) ∧ inS s = inS s ∧ (inS s && inF field) = (inS s && inF field) ∧ inC g node = inC g node ∧ ((if inL g
    node = true then node - (1 : Int) else (0 : Int)) = if inL g node = true then node - (1 : Int) else (0 : Int)) ∧ inL g node = inL g node ∧ (0 : Nat) = (0 : Nat) ∧ segG s.toNat + (1
    : Nat) = segG s.toNat + (1 : Nat) ∧ cap = cap ∧ inS s = inS s ∧ inG g = inG g ∧ seg = seg ∧ s = s ∧ ((if (inS s && inF field) = true then seg else (0 : Int)) = if (inS s && inF
    field) = true then seg else (0 : Int)) ∧ ((if (inS s && inF field) = true then (5 : Int) * (↑(segO s.toNat) : Int) + field else (0 : Int)) = if (inS s && inF field) = true then (5 :
    Int) * (↑(segO s.toNat) : Int) + field else (0 : Int)) ∧ ((if inC g node = true then seg else (0 : Int)) = if inC g node = true then seg else (0 : Int)) ∧ ((if inC g node = true
    then (5 : Int) * (↑((2 : Nat) ^ g.toNat) : Int) + node else (0 : Int)) = if inC g node = true then (5 : Int) * (↑((2 : Nat) ^ g.toNat) : Int) + node else (0 : Int)) ∧ segG s.toNat +
    (1 : Nat) = segG s.toNat + (1 : Nat) ∧ cap = cap ∧ pathF' s.toNat = pathF' s.toNat ∧ True))) ∧ ((!inG g) = false → (inG g = true → ((0 : Int) ≤ g ∧ g ≤ (8 : Int)) ∧
    ((-9223372036854775808 : Int) ≤ (7 : Int) * (↑((2 : Nat) ^ g.toNat) : Int) ∧ (7 : Int) * (↑((2 : Nat) ^ g.toNat) : Int) ≤ (9223372036854775807 : Int)) ∧ (((if inG g = true then
    (↑((7 : Nat) * (2 : Nat) ^ g.toNat) : Int) else (0 : Int)) != (7 : Int) * (↑((2 : Nat) ^ g.toNat) : Int)) = true → false = true) ∧ (((if inG g = true then (↑((7 : Nat) * (2 : Nat) ^
    g.toNat) : Int) else (0 : Int)) != (7 : Int) * (↑((2 : Nat) ^ g.toNat) : Int)) = false → ∃ (y : Unit), seg = seg ∧ s = s ∧ field = field ∧ g = g ∧ node = node ∧ field = field ∧ g =
    g ∧ node = node ∧ ((if inS s = true then (↑(segG s.toNat) : Int) else (0 : Int)) = if inS s = true then (↑(segG s.toNat) : Int) else (0 : Int)) ∧ ((if inS s = true then (↑(segO
    s.toNat) : Int) else (0 : Int)) = if inS s = true then (↑(segO s.toNat) : Int) else (0 : Int)) ∧ inS s = inS s ∧ (inS s && inF field) = (inS s && inF field) ∧ inC g node = inC g
    node ∧ ((if inL g node = true then node - (1 : Int) else (0 : Int)) = if inL g node = true then node - (1 : Int) else (0 : Int)) ∧ inL g node = inL g node ∧ (0 : Nat) = (0 : Nat) ∧
    segG s.toNat + (1 : Nat) = segG s.toNat + (1 : Nat) ∧ cap = cap ∧ inS s = inS s ∧ inG g = inG g ∧ seg = seg ∧ s = s ∧ ((if (inS s && inF field) = true then seg else (0 : Int)) = if
    (inS s && inF field) = true then seg else (0 : Int)) ∧ ((if (inS s && inF field) = true then (5 : Int) * (↑(segO s.toNat) : Int) + field else (0 : Int)) = if (inS s && inF field) =
    true then (5 : Int) * (↑(segO s.toNat) : Int) + field else (0 : Int)) ∧ ((if inC g node = true then seg else (0 : Int)) = if inC g node = true then seg else (0 : Int)) ∧ ((if inC g
    node = true then (5 : Int) * (↑((2 : Nat) ^ g.toNat) : Int) + node else (0 : Int)) = if inC g node = true then (5 : Int) * (↑((2 : Nat) ^ g.toNat) : Int) + node else (0 : Int)) ∧
    segG s.toNat + (1 : Nat) = segG s.toNat + (1 : Nat) ∧ cap = cap ∧ pathF' s.toNat = pathF' s.toNat ∧ True)) ∧ (inG g = false → ∃ (y : Unit), seg = seg ∧ s = s ∧ field = field ∧ g = g
    ∧ node = node ∧ field = field ∧ g = g ∧ node = node ∧ ((if inS s = true then (↑(segG s.toNat) : Int) else (0 : Int)) = if inS s = true then (↑(segG s.toNat) : Int) else (0 : Int)) ∧
    ((if inS s = true then (↑(segO s.toNat) : Int) else (0 : Int)) = if inS s = true then (↑(segO s.toNat) : Int) else (0 : Int)) ∧ inS s = inS s ∧ (inS s && inF field) = (inS s && inF
    field) ∧ inC g node = inC g node ∧ ((if inL g node = true then node - (1 : Int) else (0 : Int)) = if inL g node = true then node - (1 : Int) else (0 : Int)) ∧ inL g node = inL g
    node ∧ (0 : Nat) = (0 : Nat) ∧ segG s.toNat + (1 : Nat) = segG s.toNat + (1 : Nat) ∧ cap = cap ∧ inS s = inS s ∧ inG g = inG g ∧ seg = seg ∧ s = s ∧ ((if (inS s && inF field) = true
    then seg else (0 : Int)) = if (inS s && inF field) = true then seg else (0 : Int)) ∧ ((if (inS s && inF field) = true then (5 : Int) * (↑(segO s.toNat) : Int) + field else (0 :
    Int)) = if (inS s && inF field) = true then (5 : Int) * (↑(segO s.toNat) : Int) + field else (0 : Int)) ∧ ((if inC g node = true then seg else (0 : Int)) = if inC g node = true then
    seg else (0 : Int)) ∧ ((if inC g node = true then (5 : Int) * (↑((2 : Nat) ^ g.toNat) : Int) + node else (0 : Int)) = if inC g node = true then (5 : Int) * (↑((2 : Nat) ^ g.toNat) :
    Int) + node else (0 : Int)) ∧ segG s.toNat + (1 : Nat) = segG s.toNat + (1 : Nat) ∧ cap = cap ∧ pathF' s.toNat = pathF' s.toNat ∧ True))))) ∧ (decide (field ≥ (0 : Int)) = false →
    ((false == ((inS s && inF field) == false)) = true → false = true) ∧ ((false == ((inS s && inF field) == false)) = false → ((false == ((0 : Int) == (0 : Int) && ((1 : Int) + max (0
    : Int) (min g (7 : Int)) == (1 : Int) + max (0 : Int) (min g (7 : Int)) && true))) = true → false = true) ∧ ((false == ((0 : Int) == (0 : Int) && ((1 : Int) + max (0 : Int) (min g
    (7 : Int)) == (1 : Int) + max (0 : Int) (min g (7 : Int)) && true))) = false → ((!inG g) = true → (((if inG g = true then (↑((7 : Nat) * (2 : Nat) ^ g.toNat) : Int) else (0 : Int))
    != (0 : Int)) = true → false = true) ∧ (((if inG g = true then (↑((7 : Nat) * (2 : Nat) ^ g.toNat) : Int) else (0 : Int)) != (0 : Int)) = false → (inG g = true → ((0 : Int) ≤ g ∧ g
    ≤ (8 : Int)) ∧ ((-9223372036854775808 : Int) ≤ (7 : Int) * (↑((2 : Nat) ^ g.toNat) : Int) ∧ (7 : Int) * (↑((2 : Nat) ^ g.toNat) : Int) ≤ (9223372036854775807 : Int)) ∧ (((if inG g =
    true then (↑((7 : Nat) * (2 : Nat) ^ g.toNat) : Int) else (0 : Int)) != (7 : Int) * (↑((2 : Nat) ^ g.toNat) : Int)) = true → false = true) ∧ (((if inG g = true then (↑((7 : Nat) *
    (2 : Nat) ^ g.toNat) : Int) else (0 : Int)) != (7 : Int) * (↑((2 : Nat) ^ g.toNat) : Int)) = false → ∃ (y : Unit), seg = seg ∧ s = s ∧ field = field ∧ g = g ∧ node = node ∧ field =
    field ∧ g = g ∧ node = node ∧ ((if inS s = true then (↑(segG s.toNat) : Int) else (0 : Int)) = if inS s = true then (↑(segG s.toNat) : Int) else (0 : Int)) ∧ ((if inS s = true then
    (↑(segO s.toNat) : Int) else (0 : Int)) = if inS s = true then (↑(segO s.toNat) : Int) else (0 : Int)) ∧ inS s = inS s ∧ (inS s && inF field) = (inS s && inF field) ∧ inC g node =
    inC g node ∧ ((if inL g node = true then node - (1 : Int) else (0 : Int)) = if inL g node = true then node - (1 : Int) else (0 : Int)) ∧ inL g node = inL g node ∧ (0 : Nat) = (0 :
    Nat) ∧ segG s.toNat + (1 : Nat) = segG s.toNat + (1 : Nat) ∧ cap = cap ∧ inS s = inS s ∧ inG g = inG g ∧ seg = seg ∧ s = s ∧ ((if (inS s && inF field) = true then seg else (0 :
    Int)) = if (inS s && inF field) = true then seg else (0 : Int)) ∧ ((if (inS s && inF field) = true then (5 : Int) * (↑(segO s.toNat) : Int) + field else (0 : Int)) = if (inS s &&
    inF field) = true then (5 : Int) * (↑(segO s.toNat) : Int) + field else (0 : Int)) ∧ ((if inC g node = true then seg else (0 : Int)) = if inC g node = true then seg else (0 : Int))
    ∧ ((if inC g node = true then (5 : Int) * (↑((2 : Nat) ^ g.toNat) : Int) + node else (0 : Int)) = if inC g node = true then (5 : Int) * (↑((2 : Nat) ^ g.toNat) : Int) + node else (0
    : Int)) ∧ segG s.toNat + (1 : Nat) = segG s.toNat + (1 : Nat) ∧ cap = cap ∧ pathF' s.toNat = pathF' s.toNat ∧ True)) ∧ (inG g = false → ∃ (y : Unit), seg = seg ∧ s = s ∧ field =
    field ∧ g = g ∧ node = node ∧ field = field ∧ g = g ∧ node = node ∧ ((if inS s = true then (↑(segG s.toNat) : Int) else (0 : Int)) = if inS s = true then (↑(segG s.toNat) : Int)
    else (0 : Int)) ∧ ((if inS s = true then (↑(segO s.toNat) : Int) else (0 : Int)) = if inS s = true then (↑(segO s.toNat) : Int) else (0 : Int)) ∧ inS s = inS s ∧ (inS s && inF
    field) = (inS s && inF field) ∧ inC g node = inC g node ∧ ((if inL g node = true then node - (1 : Int) else (0 : Int)) = if inL g node = true then node - (1 : Int) else (0 : Int)) ∧
    inL g node = inL g node ∧ (0 : Nat) = (0 : Nat) ∧ segG s.toNat + (1 : Nat) = segG s.toNat + (1 : Nat) ∧ cap = cap ∧ inS s = inS s ∧ inG g = inG g ∧ seg = seg ∧ s = s ∧ ((if (inS s
    && inF field) = true then seg else (0 : Int)) = if (inS s && inF field) = true then seg else (0 : Int)) ∧ ((if (inS s && inF field) = true then (5 : Int) * (↑(segO s.toNat) : Int) +
    field else (0 : Int)) = if (inS s && inF field) = true then (5 : Int) * (↑(segO s.toNat) : Int) + field else (0 : Int)) ∧ ((if inC g node = true then seg else (0 : Int)) = if inC g
    node = true then seg else (0 : Int)) ∧ ((if inC g node = true then (5 : Int) * (↑((2 : Nat) ^ g.toNat) : Int) + node else (0 : Int)) = if inC g node = true then (5 : Int) * (↑((2 :
    Nat) ^ g.toNat) : Int) + node else (0 : Int)) ∧ segG s.toNat + (1 : Nat) = segG s.toNat + (1 : Nat) ∧ cap = cap ∧ pathF' s.toNat = pathF' s.toNat ∧ True))) ∧ ((!inG g) = false →
    (inG g = true → ((0 : Int) ≤ g ∧ g ≤ (8 : Int)) ∧ ((-9223372036854775808 : Int) ≤ (7 : Int) * (↑((2 : Nat) ^ g.toNat) : Int) ∧ (7 : Int) * (↑((2 : Nat) ^ g.toNat) : Int) ≤
    (9223372036854775807 : Int)) ∧ (((if inG g = true then (↑((7 : Nat) * (2 : Nat) ^ g.toNat) : Int) else (0 : Int)) != (7 : Int) * (↑((2 : Nat) ^ g.toNat) : Int)) = true → false =
    true) ∧ (((if inG g = true then (↑((7 : Nat) * (2 : Nat) ^ g.toNat) : Int) else (0 : Int)) != (7 : Int) * (↑((2 : Nat) ^ g.toNat) : Int)) = false → ∃ (y : Unit), seg = seg ∧ s = s ∧
    field = field ∧ g = g ∧ node = node ∧ field = field ∧ g = g ∧ node = node ∧ ((if inS s = true then (↑(segG s.toNat) : Int) else (0 : Int)) = if inS s = true then (↑(segG s.toNat) :
    Int) else (0 : Int)) ∧ ((if inS s = true then (↑(segO s.toNat) : Int) else (0 : Int)) = if inS s = true then (↑(segO s.toNat) : Int) else (0 : Int)) ∧ inS s = inS s ∧ (inS s && inF
    field) = (inS s && inF field) ∧ inC g node = inC g node ∧ ((if inL g node = true then node - (1 : Int) else (0 : Int)) = if inL g node = true then node - (1 : Int) else (0 : Int)) ∧
    inL g node = inL g node ∧ (0 : Nat) = (0 : Nat) ∧ segG s.toNat + (1 : Nat) = segG s.toNat + (1 : Nat) ∧ cap = cap ∧ inS s = inS s ∧ inG g = inG g ∧ seg = seg ∧ s = s ∧ ((if (inS s
    && inF field) = true then seg else (0 : Int)) = if (inS s && inF field) = true then seg else (0 : Int)) ∧ ((if (inS s && inF field) = true then (5 : Int) * (↑(segO s.toNat) : Int) +
    field else (0 : Int)) = if (inS s && inF field) = true then (5 : Int) * (↑(segO s.toNat) : Int) + field else (0 : Int)) ∧ ((if inC g node = true then seg else (0 : Int)) = if inC g
    node = true then seg else (0 : Int)) ∧ ((if inC g node = true then (5 : Int) * (↑((2 : Nat) ^ g.toNat) : Int) + node else (0 : Int)) = if inC g node = true then (5 : Int) * (↑((2 :
    Nat) ^ g.toNat) : Int) + node else (0 : Int)) ∧ segG s.toNat + (1 : Nat) = segG s.toNat + (1 : Nat) ∧ cap = cap ∧ pathF' s.toNat = pathF' s.toNat ∧ True)) ∧ (inG g = false → ∃ (y :
    Unit), seg = seg ∧ s = s ∧ field = field ∧ g = g ∧ node = node ∧ field = field ∧ g = g ∧ node = node ∧ ((if inS s = true then (↑(segG s.toNat) : Int) else (0 : Int)) = if inS s =
    true then (↑(segG s.toNat) : Int) else (0 : Int)) ∧ ((if inS s = true then (↑(segO s.toNat) : Int) else (0 : Int)) = if inS s = true then (↑(segO s.toNat) : Int) else (0 : Int)) ∧
    inS s = inS s ∧ (inS s && inF field) = (inS s && inF field) ∧ inC g node = inC g node ∧ ((if inL g node = true then node - (1 : Int) else (0 : Int)) = if inL g node = true then node
    - (1 : Int) else (0 : Int)) ∧ inL g node = inL g node ∧ (0 : Nat) = (0 : Nat) ∧ segG s.toNat + (1 : Nat) = segG s.toNat + (1 : Nat) ∧ cap = cap ∧ inS s = inS s ∧ inG g = inG g ∧ seg
    = seg ∧ s = s ∧ ((if (inS s && inF field) = true then seg else (0 : Int)) = if (inS s && inF field) = true then seg else (0 : Int)) ∧ ((if (inS s && inF field) = true then (5 : Int)
    * (↑(segO s.toNat) : Int) + field else (0 : Int)) = if (inS s && inF field) = true then (5 : Int) * (↑(segO s.toNat) : Int) + field else (0 : Int)) ∧ ((if inC g node = true then seg
    else (0 : Int)) = if inC g node = true then seg else (0 : Int)) ∧ ((if inC g node = true then (5 : Int) * (↑((2 : Nat) ^ g.toNat) : Int) + node else (0 : Int)) = if inC g node =
    true then (5 : Int) * (↑((2 : Nat) ^ g.toNat) : Int) + node else (0 : Int)) ∧ segG s.toNat + (1 : Nat) = segG s.toNat + (1 : Nat) ∧ cap = cap ∧ pathF' s.toNat = pathF' s.toNat ∧
    True)))))) ∧ (inS s = false → ((false == ((inS s && inF field) == false)) = true → false = true) ∧ ((false == ((inS s && inF field) == false)) = false → ((false == ((0 : Int) == (0
    : Int) && ((1 : Int) + max (0 : Int) (min g (7 : Int)) == (1 : Int) + max (0 : Int) (min g (7 : Int)) && true))) = true → false = true) ∧ ((false == ((0 : Int) == (0 : Int) && ((1 :
    Int) + max (0 : Int) (min g (7 : Int)) == (1 : Int) + max (0 : Int) (min g (7 : Int)) && true))) = false → ((!inG g) = true → (((if inG g = true then (↑((7 : Nat) * (2 : Nat) ^
    g.toNat) : Int) else (0 : Int)) != (0 : Int)) = true → false = true) ∧ (((if inG g = true then (↑((7 : Nat) * (2 : Nat) ^ g.toNat) : Int) else (0 : Int)) != (0 : Int)) = false →
    (inG g = true → ((0 : Int) ≤ g ∧ g ≤ (8 : Int)) ∧ ((-9223372036854775808 : Int) ≤ (7 : Int) * (↑((2 : Nat) ^ g.toNat) : Int) ∧ (7 : Int) * (↑((2 : Nat) ^ g.toNat) : Int) ≤
    (9223372036854775807 : Int)) ∧ (((if inG g = true then (↑((7 : Nat) * (2 : Nat) ^ g.toNat) : Int) else (0 : Int)) != (7 : Int) * (↑((2 : Nat) ^ g.toNat) : Int)) = true → false =
    true) ∧ (((if inG g = true then (↑((7 : Nat) * (2 : Nat) ^ g.toNat) : Int) else (0 : Int)) != (7 : Int) * (↑((2 : Nat) ^ g.toNat) : Int)) = false → ∃ (y : Unit), seg = seg ∧ s = s ∧
    field = field ∧ g = g ∧ node = node ∧ field = field ∧ g = g ∧ node = node ∧ ((if inS s = true then (↑(segG s.toNat) : Int) else (0 : Int)) = if inS s = true then (↑(segG s.toNat) :
    Int) else (0 : Int)) ∧ ((if inS s = true then (↑(segO s.toNat) : Int) else (0 : Int)) = if inS s = true then (↑(segO s.toNat) : Int) else (0 : Int)) ∧ inS s = inS s ∧ (inS s && inF
    field) = (inS s && inF field) ∧ inC g node = inC g node ∧ ((if inL g node = true then node - (1 : Int) else (0 : Int)) = if inL g node = true then node - (1 : Int) else (0 : Int)) ∧
    inL g node = inL g node ∧ (0 : Nat) = (0 : Nat) ∧ segG s.toNat + (1 : Nat) = segG s.toNat + (1 : Nat) ∧ cap = cap ∧ inS s = inS s ∧ inG g = inG g ∧ seg = seg ∧ s = s ∧ ((if (inS s
    && inF field) = true then seg else (0 : Int)) = if (inS s && inF field) = true then seg else (0 : Int)) ∧ ((if (inS s && inF field) = true then (5 : Int) * (↑(segO s.toNat) : Int) +
    field else (0 : Int)) = if (inS s && inF field) = true then (5 : Int) * (↑(segO s.toNat) : Int) + field else (0 : Int)) ∧ ((if inC g node = true then seg else (0 : Int)) = if inC g
    node = true then seg else (0 : Int)) ∧ ((if inC g node = true then (5 : Int) * (↑((2 : Nat) ^ g.toNat) : Int) + node else (0 : Int)) = if inC g node = true then (5 : Int) * (↑((2 :
    Nat) ^ g.toNat) : Int) + node else (0 : Int)) ∧ segG s.toNat + (1 : Nat) = segG s.toNat + (1 : Nat) ∧ cap = cap ∧ pathF' s.toNat = pathF' s.toNat ∧ True)) ∧ (inG g = false → ∃ (y :
    Unit), seg = seg ∧ s = s ∧ field = field ∧ g = g ∧ node = node ∧ field = field ∧ g = g ∧ node = node ∧ ((if inS s = true then (↑(segG s.toNat) : Int) else (0 : Int)) = if inS s =
    true then (↑(segG s.toNat) : Int) else (0 : Int)) ∧ ((if inS s = true then (↑(segO s.toNat) : Int) else (0 : Int)) = if inS s = true then (↑(segO s.toNat) : Int) else (0 : Int)) ∧
    inS s = inS s ∧ (inS s && inF field) = (inS s && inF field) ∧ inC g node = inC g node ∧ ((if inL g node = true then node - (1 : Int) else (0 : Int)) = if inL g node = true then node
    - (1 : Int) else (0 : Int)) ∧ inL g node = inL g node ∧ (0 : Nat) = (0 : Nat) ∧ segG s.toNat + (1 : Nat) = segG s.toNat + (1 : Nat) ∧ cap = cap ∧ inS s = inS s ∧ inG g = inG g ∧ seg
    = seg ∧ s = s ∧ ((if (inS s && inF field) = true then seg else (0 : Int)) = if (inS s && inF field) = true then seg else (0 : Int)) ∧ ((if (inS s && inF field) = true then (5 : Int)
    * (↑(segO s.toNat) : Int) + field else (0 : Int)) = if (inS s && inF field) = true then (5 : Int) * (↑(segO s.toNat) : Int) + field else (0 : Int)) ∧ ((if inC g node = true then seg
    else (0 : Int)) = if inC g node = true then seg else (0 : Int)) ∧ ((if inC g node = true then (5 : Int) * (↑((2 : Nat) ^ g.toNat) : Int) + node else (0 : Int)) = if inC g node =
    true then (5 : Int) * (↑((2 : Nat) ^ g.toNat) : Int) + node else (0 : Int)) ∧ segG s.toNat + (1 : Nat) = segG s.toNat + (1 : Nat) ∧ cap = cap ∧ pathF' s.toNat = pathF' s.toNat ∧
    True))) ∧ ((!inG g) = false → (inG g = true → ((0 : Int) ≤ g ∧ g ≤ (8 : Int)) ∧ ((-9223372036854775808 : Int) ≤ (7 : Int) * (↑((2 : Nat) ^ g.toNat) : Int) ∧ (7 : Int) * (↑((2 : Nat)
    ^ g.toNat) : Int) ≤ (9223372036854775807 : Int)) ∧ (((if inG g = true then (↑((7 : Nat) * (2 : Nat) ^ g.toNat) : Int) else (0 : Int)) != (7 : Int) * (↑((2 : Nat) ^ g.toNat) : Int))
    = true → false = true) ∧ (((if inG g = true then (↑((7 : Nat) * (2 : Nat) ^ g.toNat) : Int) else (0 : Int)) != (7 : Int) * (↑((2 : Nat) ^ g.toNat) : Int)) = false → ∃ (y : Unit),
    seg = seg ∧ s = s ∧ field = field ∧ g = g ∧ node = node ∧ field = field ∧ g = g ∧ node = node ∧ ((if inS s = true then (↑(segG s.toNat) : Int) else (0 : Int)) = if inS s = true then
    (↑(segG s.toNat) : Int) else (0 : Int)) ∧ ((if inS s = true then (↑(segO s.toNat) : Int) else (0 : Int)) = if inS s = true then (↑(segO s.toNat) : Int) else (0 : Int)) ∧ inS s = inS
    s ∧ (inS s && inF field) = (inS s && inF field) ∧ inC g node = inC g node ∧ ((if inL g node = true then node - (1 : Int) else (0 : Int)) = if inL g node = true then node - (1 : Int)
    else (0 : Int)) ∧ inL g node = inL g node ∧ (0 : Nat) = (0 : Nat) ∧ segG s.toNat + (1 : Nat) = segG s.toNat + (1 : Nat) ∧ cap = cap ∧ inS s = inS s ∧ inG g = inG g ∧ seg = seg ∧ s =
    s ∧ ((if (inS s && inF field) = true then seg else (0 : Int)) = if (inS s && inF field) = true then seg else (0 : Int)) ∧ ((if (inS s && inF field) = true then (5 : Int) * (↑(segO
    s.toNat) : Int) + field else (0 : Int)) = if (inS s && inF field) = true then (5 : Int) * (↑(segO s.toNat) : Int) + field else (0 : Int)) ∧ ((if inC g node = true then seg else (0 :
    Int)) = if inC g node = true then seg else (0 : Int)) ∧ ((if inC g node = true then (5 : Int) * (↑((2 : Nat) ^ g.toNat) : Int) + node else (0 : Int)) = if inC g node = true then (5
    : Int) * (↑((2 : Nat) ^ g.toNat) : Int) + node else (0 : Int)) ∧ segG s.toNat + (1 : Nat) = segG s.toNat + (1 : Nat) ∧ cap = cap ∧ pathF' s.toNat = pathF' s.toNat ∧ True)) ∧ (inG g
    = false → ∃ (y : Unit), seg = seg ∧ s = s ∧ field = field ∧ g = g ∧ node = node ∧ field = field ∧ g = g ∧ node = node ∧ ((if inS s = true then (↑(segG s.toNat) : Int) else (0 :
    Int)) = if inS s = true then (↑(segG s.toNat) : Int) else (0 : Int)) ∧ ((if inS s = true then (↑(segO s.toNat) : Int) else (0 : Int)) = if inS s = true then (↑(segO s.toNat) : Int)
    else (0 : Int)) ∧ inS s = inS s ∧ (inS s && inF field) = (inS s && inF field) ∧ inC g node = inC g node ∧ ((if inL g node = true then node - (1 : Int) else (0 : Int)) = if inL g
    node = true then node - (1 : Int) else (0 : Int)) ∧ inL g node = inL g node ∧ (0 : Nat) = (0 : Nat) ∧ segG s.toNat + (1 : Nat) = segG s.toNat + (1 : Nat) ∧ cap = cap ∧ inS s = inS s
    ∧ inG g = inG g ∧ seg = seg ∧ s = s ∧ ((if (inS s && inF field) = true then seg else (0 : Int)) = if (inS s && inF field) = true then seg else (0 : Int)) ∧ ((if (inS s && inF field)
    = true then (5 : Int) * (↑(segO s.toNat) : Int) + field else (0 : Int)) = if (inS s && inF field) = true then (5 : Int) * (↑(segO s.toNat) : Int) + field else (0 : Int)) ∧ ((if inC
    g node = true then seg else (0 : Int)) = if inC g node = true then seg else (0 : Int)) ∧ ((if inC g node = true then (5 : Int) * (↑((2 : Nat) ^ g.toNat) : Int) + node else (0 :
    Int)) = if inC g node = true then (5 : Int) * (↑((2 : Nat) ^ g.toNat) : Int) + node else (0 : Int)) ∧ segG s.toNat + (1 : Nat) = segG s.toNat + (1 : Nat) ∧ cap = cap ∧ pathF'
    s.toNat = pathF' s.toNat ∧ True))))))) ∧ ∀ (y : Unit) (ρ : Nat → Value), ((inG g = true → (decide (node ≥ (1 : Int)) = true → ((false == (inC g node == decide (node < (2 : Int) *
    (↑((2 : Nat) ^ (max (0 : Int) (min g (7 : Int))).toNat) : Int)))) = true → false = true) ∧ ((false == (inC g node == decide (node < (2 : Int) * (↑((2 : Nat) ^ (max (0 : Int) (min g
    (7 : Int))).toNat) : Int)))) = false → (inC g node = true → ((0 : Int) ≤ g ∧ g ≤ (8 : Int)) ∧ ((false == (inL g node == decide (node ≥ (↑((2 : Nat) ^ g.toNat) : Int)))) = true →
    false = true) ∧ ((false == (inL g node == decide (node ≥ (↑((2 : Nat) ^ g.toNat) : Int)))) = false → ∃ (y : Unit), seg = seg ∧ s = s ∧ field = field ∧ g = g ∧ node = node ∧ field =
    field ∧ g = g ∧ node = node ∧ ((if inS s = true then (↑(segG s.toNat) : Int) else (0 : Int)) = if inS s = true then (↑(segG s.toNat) : Int) else (0 : Int)) ∧ ((if inS s = true then
    (↑(segO s.toNat) : Int) else (0 : Int)) = if inS s = true then (↑(segO s.toNat) : Int) else (0 : Int)) ∧ inS s = inS s ∧ (inS s && inF field) = (inS s && inF field) ∧ inC g node =
    inC g node ∧ ((if inL g node = true then node - (1 : Int) else (0 : Int)) = if inL g node = true then node - (1 : Int) else (0 : Int)) ∧ inL g node = inL g node ∧ (0 : Nat) = (0 :
    Nat) ∧ segG s.toNat + (1 : Nat) = segG s.toNat + (1 : Nat) ∧ cap = cap ∧ inS s = inS s ∧ inG g = inG g ∧ seg = seg ∧ s = s ∧ ((if (inS s && inF field) = true then seg else (0 :
    Int)) = if (inS s && inF field) = true then seg else (0 : Int)) ∧ ((if (inS s && inF field) = true then (5 : Int) * (↑(segO s.toNat) : Int) + field else (0 : Int)) = if (inS s &&
    inF field) = true then (5 : Int) * (↑(segO s.toNat) : Int) + field else (0 : Int)) ∧ ((if inC g node = true then seg else (0 : Int)) = if inC g node = true then seg else (0 : Int))
    ∧ ((if inC g node = true then (5 : Int) * (↑((2 : Nat) ^ g.toNat) : Int) + node else (0 : Int)) = if inC g node = true then (5 : Int) * (↑((2 : Nat) ^ g.toNat) : Int) + node else (0
    : Int)) ∧ segG s.toNat + (1 : Nat) = segG s.toNat + (1 : Nat) ∧ cap = cap ∧ pathF' s.toNat = pathF' s.toNat ∧ True)) ∧ (inC g node = false → ((false == (inL g node == false)) = true
    → false = true) ∧ ((false == (inL g node == false)) = false → ∃ (y : Unit), seg = seg ∧ s = s ∧ field = field ∧ g = g ∧ node = node ∧ field = field ∧ g = g ∧ node = node ∧ ((if inS
    s = true then (↑(segG s.toNat) : Int) else (0 : Int)) = if inS s = true then (↑(segG s.toNat) : Int) else (0 : Int)) ∧ ((if inS s = true then (↑(segO s.toNat) : Int) else (0 : Int))
    = if inS s = true then (↑(segO s.toNat) : Int) else (0 : Int)) ∧ inS s = inS s ∧ (inS s && inF field) = (inS s && inF field) ∧ inC g node = inC g node ∧ ((if inL g node = true then
    node - (1 : Int) else (0 : Int)) = if inL g node = true then node - (1 : Int) else (0 : Int)) ∧ inL g node = inL g node ∧ (0 : Nat) = (0 : Nat) ∧ segG s.toNat + (1 : Nat) = segG
    s.toNat + (1 : Nat) ∧ cap = cap ∧ inS s = inS s ∧ inG g = inG g ∧ seg = seg ∧ s = s ∧ ((if (inS s && inF field) = true then seg else (0 : Int)) = if (inS s && inF field) = true then
    seg else (0 : Int)) ∧ ((if (inS s && inF field) = true then (5 : Int) * (↑(segO s.toNat) : Int) + field else (0 : Int)) = if (inS s && inF field) = true then (5 : Int) * (↑(segO
    s.toNat) : Int) + field else (0 : Int)) ∧ ((if inC g node = true then seg else (0 : Int)) = if inC g node = true then seg else (0 : Int)) ∧ ((if inC g node = true then (5 : Int) *
    (↑((2 : Nat) ^ g.toNat) : Int) + node else (0 : Int)) = if inC g node = true then (5 : Int) * (↑((2 : Nat) ^ g.toNat) : Int) + node else (0 : Int)) ∧ segG s.toNat + (1 : Nat) = segG
    s.toNat + (1 : Nat) ∧ cap = cap ∧ pathF' s.toNat = pathF' s.toNat ∧ True)))) ∧ (decide (node ≥ (1 : Int)) = false → ((false == (inC g node == false)) = true → false = true) ∧
    ((false == (inC g node == false)) = false → (inC g node = true → ((0 : Int) ≤ g ∧ g ≤ (8 : Int)) ∧ ((false == (inL g node == decide (node ≥ (↑((2 : Nat) ^ g.toNat) : Int)))) = true
    → false = true) ∧ ((false == (inL g node == decide (node ≥ (↑((2 : Nat) ^ g.toNat) : Int)))) = false → ∃ (y : Unit), seg = seg ∧ s = s ∧ field = field ∧ g = g ∧ node = node ∧ field
    = field ∧ g = g ∧ node = node ∧ ((if inS s = true then (↑(segG s.toNat) : Int) else (0 : Int)) = if inS s = true then (↑(segG s.toNat) : Int) else (0 : Int)) ∧ ((if inS s = true
    then (↑(segO s.toNat) : Int) else (0 : Int)) = if inS s = true then (↑(segO s.toNat) : Int) else (0 : Int)) ∧ inS s = inS s ∧ (inS s && inF field) = (inS s && inF field) ∧ inC g
    node = inC g node ∧ ((if inL g node = true then node - (1 : Int) else (0 : Int)) = if inL g node = true then node - (1 : Int) else (0 : Int)) ∧ inL g node = inL g node ∧ (0 : Nat) =
    (0 : Nat) ∧ segG s.toNat + (1 : Nat) = segG s.toNat + (1 : Nat) ∧ cap = cap ∧ inS s = inS s ∧ inG g = inG g ∧ seg = seg ∧ s = s ∧ ((if (inS s && inF field) = true then seg else (0 :
    Int)) = if (inS s && inF field) = true then seg else (0 : Int)) ∧ ((if (inS s && inF field) = true then (5 : Int) * (↑(segO s.toNat) : Int) + field else (0 : Int)) = if (inS s &&
    inF field) = true then (5 : Int) * (↑(segO s.toNat) : Int) + field else (0 : Int)) ∧ ((if inC g node = true then seg else (0 : Int)) = if inC g node = true then seg else (0 : Int))
    ∧ ((if inC g node = true then (5 : Int) * (↑((2 : Nat) ^ g.toNat) : Int) + node else (0 : Int)) = if inC g node = true then (5 : Int) * (↑((2 : Nat) ^ g.toNat) : Int) + node else (0
    : Int)) ∧ segG s.toNat + (1 : Nat) = segG s.toNat + (1 : Nat) ∧ cap = cap ∧ pathF' s.toNat = pathF' s.toNat ∧ True)) ∧ (inC g node = false → ((false == (inL g node == false)) = true
    → false = true) ∧ ((false == (inL g node == false)) = false → ∃ (y : Unit), seg = seg ∧ s = s ∧ field = field ∧ g = g ∧ node = node ∧ field = field ∧ g = g ∧ node = node ∧ ((if inS
    s = true then (↑(segG s.toNat) : Int) else (0 : Int)) = if inS s = true then (↑(segG s.toNat) : Int) else (0 : Int)) ∧ ((if inS s = true then (↑(segO s.toNat) : Int) else (0 : Int))
    = if inS s = true then (↑(segO s.toNat) : Int) else (0 : Int)) ∧ inS s = inS s ∧ (inS s && inF field) = (inS s && inF field) ∧ inC g node = inC g node ∧ ((if inL g node = true then
    node - (1 : Int) else (0 : Int)) = if inL g node = true then node - (1 : Int) else (0 : Int)) ∧ inL g node = inL g node ∧ (0 : Nat) = (0 : Nat) ∧ segG s.toNat + (1 : Nat) = segG
    s.toNat + (1 : Nat) ∧ cap = cap ∧ inS s = inS s ∧ inG g = inG g ∧ seg = seg ∧ s = s ∧ ((if (inS s && inF field) = true then seg else (0 : Int)) = if (inS s && inF field) = true then
    seg else (0 : Int)) ∧ ((if (inS s && inF field) = true then (5 : Int) * (↑(segO s.toNat) : Int) + field else (0 : Int)) = if (inS s && inF field) = true then (5 : Int) * (↑(segO
    s.toNat) : Int) + field else (0 : Int)) ∧ ((if inC g node = true then seg else (0 : Int)) = if inC g node = true then seg else (0 : Int)) ∧ ((if inC g node = true then (5 : Int) *
    (↑((2 : Nat) ^ g.toNat) : Int) + node else (0 : Int)) = if inC g node = true then (5 : Int) * (↑((2 : Nat) ^ g.toNat) : Int) + node else (0 : Int)) ∧ segG s.toNat + (1 : Nat) = segG
    s.toNat + (1 : Nat) ∧ cap = cap ∧ pathF' s.toNat = pathF' s.toNat ∧ True))))) ∧ (inG g = false → ((false == (inC g node == false)) = true → false = true) ∧ ((false == (inC g node ==
    false)) = false → (inC g node = true → ((0 : Int) ≤ g ∧ g ≤ (8 : Int)) ∧ ((false == (inL g node == decide (node ≥ (↑((2 : Nat) ^ g.toNat) : Int)))) = true → false = true) ∧ ((false
    == (inL g node == decide (node ≥ (↑((2 : Nat) ^ g.toNat) : Int)))) = false → ∃ (y : Unit), seg = seg ∧ s = s ∧ field = field ∧ g = g ∧ node = node ∧ field = field ∧ g = g ∧ node =
    node ∧ ((if inS s = true then (↑(segG s.toNat) : Int) else (0 : Int)) = if inS s = true then (↑(segG s.toNat) : Int) else (0 : Int)) ∧ ((if inS s = true then (↑(segO s.toNat) : Int)
    else (0 : Int)) = if inS s = true then (↑(segO s.toNat) : Int) else (0 : Int)) ∧ inS s = inS s ∧ (inS s && inF field) = (inS s && inF field) ∧ inC g node = inC g node ∧ ((if inL g
    node = true then node - (1 : Int) else (0 : Int)) = if inL g node = true then node - (1 : Int) else (0 : Int)) ∧ inL g node = inL g node ∧ (0 : Nat) = (0 : Nat) ∧ segG s.toNat + (1
    : Nat) = segG s.toNat + (1 : Nat) ∧ cap = cap ∧ inS s = inS s ∧ inG g = inG g ∧ seg = seg ∧ s = s ∧ ((if (inS s && inF field) = true then seg else (0 : Int)) = if (inS s && inF
    field) = true then seg else (0 : Int)) ∧ ((if (inS s && inF field) = true then (5 : Int) * (↑(segO s.toNat) : Int) + field else (0 : Int)) = if (inS s && inF field) = true then (5 :
    Int) * (↑(segO s.toNat) : Int) + field else (0 : Int)) ∧ ((if inC g node = true then seg else (0 : Int)) = if inC g node = true then seg else (0 : Int)) ∧ ((if inC g node = true
    then (5 : Int) * (↑((2 : Nat) ^ g.toNat) : Int) + node else (0 : Int)) = if inC g node = true then (5 : Int) * (↑((2 : Nat) ^ g.toNat) : Int) + node else (0 : Int)) ∧ segG s.toNat +
    (1 : Nat) = segG s.toNat + (1 : Nat) ∧ cap = cap ∧ pathF' s.toNat = pathF' s.toNat ∧ True)) ∧ (inC g node = false → ((false == (inL g node == false)) = true → false = true) ∧
    ((false == (inL g node == false)) = false → ∃ (y : Unit), seg = seg ∧ s = s ∧ field = field ∧ g = g ∧ node = node ∧ field = field ∧ g = g ∧ node = node ∧ ((if inS s = true then
    (↑(segG s.toNat) : Int) else (0 : Int)) = if inS s = true then (↑(segG s.toNat) : Int) else (0 : Int)) ∧ ((if inS s = true then (↑(segO s.toNat) : Int) else (0 : Int)) = if inS s =
    true then (↑(segO s.toNat) : Int) else (0 : Int)) ∧ inS s = inS s ∧ (inS s && inF field) = (inS s && inF field) ∧ inC g node = inC g node ∧ ((if inL g node = true then node - (1 :
    Int) else (0 : Int)) = if inL g node = true then node - (1 : Int) else (0 : Int)) ∧ inL g node = inL g node ∧ (0 : Nat) = (0 : Nat) ∧ segG s.toNat + (1 : Nat) = segG s.toNat + (1 :
    Nat) ∧ cap = cap ∧ inS s = inS s ∧ inG g = inG g ∧ seg = seg ∧ s = s ∧ ((if (inS s && inF field) = true then seg else (0 : Int)) = if (inS s && inF field) = true then seg else (0 :
    Int)) ∧ ((if (inS s && inF field) = true then (5 : Int) * (↑(segO s.toNat) : Int) + field else (0 : Int)) = if (inS s && inF field) = true then (5 : Int) * (↑(segO s.toNat) : Int) +
    field else (0 : Int)) ∧ ((if inC g node = true then seg else (0 : Int)) = if inC g node = true then seg else (0 : Int)) ∧ ((if inC g node = true then (5 : Int) * (↑((2 : Nat) ^
    g.toNat) : Int) + node else (0 : Int)) = if inC g node = true then (5 : Int) * (↑((2 : Nat) ^ g.toNat) : Int) + node else (0 : Int)) ∧ segG s.toNat + (1 : Nat) = segG s.toNat + (1 :
    Nat) ∧ cap = cap ∧ pathF' s.toNat = pathF' s.toNat ∧ True))))) ∧ ∀ (y : Unit) (ρ : Nat → Value), ((inC g node = true → (inL g node = true → (((0 : Int) ≤ g ∧ g ≤ (8 : Int)) ∧
    ((-9223372036854775808 : Int) ≤ (5 : Int) * (↑((2 : Nat) ^ g.toNat) : Int) ∧ (5 : Int) * (↑((2 : Nat) ^ g.toNat) : Int) ≤ (9223372036854775807 : Int)) ∧ ((-9223372036854775808 :
    Int) ≤ (5 : Int) * (↑((2 : Nat) ^ g.toNat) : Int) + node ∧ (5 : Int) * (↑((2 : Nat) ^ g.toNat) : Int) + node ≤ (9223372036854775807 : Int)) ∧ seg = seg ∧ s = s ∧ ((if (inS s && inF
    field) = true then seg else (0 : Int)) = if (inS s && inF field) = true then seg else (0 : Int)) ∧ ((if (inS s && inF field) = true then (5 : Int) * (↑(segO s.toNat) : Int) + field
    else (0 : Int)) = if (inS s && inF field) = true then (5 : Int) * (↑(segO s.toNat) : Int) + field else (0 : Int)) ∧ ((if inC g node = true then seg else (0 : Int)) = if inC g node =
    true then seg else (0 : Int)) ∧ ((if inC g node = true then (5 : Int) * (↑((2 : Nat) ^ g.toNat) : Int) + node else (0 : Int)) = if inC g node = true then (5 : Int) * (↑((2 : Nat) ^
    g.toNat) : Int) + node else (0 : Int)) ∧ segG s.toNat + (1 : Nat) = segG s.toNat + (1 : Nat) ∧ cap = cap ∧ pathF' s.toNat = pathF' s.toNat ∧ (false == ((if inC g node = true then
    seg else (0 : Int)) == seg && ((if inC g node = true then (5 : Int) * (↑((2 : Nat) ^ g.toNat) : Int) + node else (0 : Int)) == (5 : Int) * (↑((2 : Nat) ^ g.toNat) : Int) + node &&
    true))) = false ∧ (((0 : Int) ≤ g ∧ g ≤ (8 : Int)) ∧ seg = seg ∧ s = s ∧ ((if (inS s && inF field) = true then seg else (0 : Int)) = if (inS s && inF field) = true then seg else (0
    : Int)) ∧ ((if (inS s && inF field) = true then (5 : Int) * (↑(segO s.toNat) : Int) + field else (0 : Int)) = if (inS s && inF field) = true then (5 : Int) * (↑(segO s.toNat) : Int)
    + field else (0 : Int)) ∧ ((if inC g node = true then seg else (0 : Int)) = if inC g node = true then seg else (0 : Int)) ∧ ((if inC g node = true then (5 : Int) * (↑((2 : Nat) ^
    g.toNat) : Int) + node else (0 : Int)) = if inC g node = true then (5 : Int) * (↑((2 : Nat) ^ g.toNat) : Int) + node else (0 : Int)) ∧ segG s.toNat + (1 : Nat) = segG s.toNat + (1 :
    Nat) ∧ cap = cap ∧ pathF' s.toNat = pathF' s.toNat ∧ ((-9223372036854775808 : Int) ≤ (↑((2 : Nat) ^ g.toNat) : Int) - (1 : Int) ∧ (↑((2 : Nat) ^ g.toNat) : Int) - (1 : Int) ≤
    (9223372036854775807 : Int)) ∧ ((-9223372036854775808 : Int) ≤ (↑((2 : Nat) ^ g.toNat) : Int) - (1 : Int) + node ∧ (↑((2 : Nat) ^ g.toNat) : Int) - (1 : Int) + node ≤
    (9223372036854775807 : Int)) ∧ (((0 : Int) ≤ g ∧ g ≤ (8 : Int)) ∧ seg = seg ∧ s = s ∧ ((if (inS s && inF field) = true then seg else (0 : Int)) = if (inS s && inF field) = true then
    seg else (0 : Int)) ∧ ((if (inS s && inF field) = true then (5 : Int) * (↑(segO s.toNat) : Int) + field else (0 : Int)) = if (inS s && inF field) = true then (5 : Int) * (↑(segO
    s.toNat) : Int) + field else (0 : Int)) ∧ ((if inC g node = true then seg else (0 : Int)) = if inC g node = true then seg else (0 : Int)) ∧ ((if inC g node = true then (5 : Int) *
    (↑((2 : Nat) ^ g.toNat) : Int) + node else (0 : Int)) = if inC g node = true then (5 : Int) * (↑((2 : Nat) ^ g.toNat) : Int) + node else (0 : Int)) ∧ segG s.toNat + (1 : Nat) = segG
    s.toNat + (1 : Nat) ∧ cap = cap ∧ pathF' s.toNat = pathF' s.toNat ∧ ((-9223372036854775808 : Int) ≤ (↑((2 : Nat) ^ g.toNat) : Int) - (1 : Int) + node - (↑((2 : Nat) ^ g.toNat) :
    Int) ∧ (↑((2 : Nat) ^ g.toNat) : Int) - (1 : Int) + node - (↑((2 : Nat) ^ g.toNat) : Int) ≤ (9223372036854775807 : Int)) ∧ ((if inL g node = true then node - (1 : Int) else (0 :
    Int)) != (↑((2 : Nat) ^ g.toNat) : Int) - (1 : Int) + node - (↑((2 : Nat) ^ g.toNat) : Int)) = false ∧ ∃ (y : Unit), seg = seg ∧ s = s ∧ field = field ∧ g = g ∧ node = node ∧ field
    = field ∧ g = g ∧ node = node ∧ ((if inS s = true then (↑(segG s.toNat) : Int) else (0 : Int)) = if inS s = true then (↑(segG s.toNat) : Int) else (0 : Int)) ∧ ((if inS s = true
    then (↑(segO s.toNat) : Int) else (0 : Int)) = if inS s = true then (↑(segO s.toNat) : Int) else (0 : Int)) ∧ inS s = inS s ∧ (inS s && inF field) = (inS s && inF field) ∧ true =
    inC g node ∧ ((if inL g node = true then node - (1 : Int) else (0 : Int)) = if inL g node = true then node - (1 : Int) else (0 : Int)) ∧ true = inL g node ∧ (0 : Nat) = (0 : Nat) ∧
    segG s.toNat + (1 : Nat) = segG s.toNat + (1 : Nat) ∧ cap = cap ∧ inS s = inS s ∧ inG g = inG g ∧ seg = seg ∧ s = s ∧ ((if (inS s && inF field) = true then seg else (0 : Int)) = if
    (inS s && inF field) = true then seg else (0 : Int)) ∧ ((if (inS s && inF field) = true then (5 : Int) * (↑(segO s.toNat) : Int) + field else (0 : Int)) = if (inS s && inF field) =
    true then (5 : Int) * (↑(segO s.toNat) : Int) + field else (0 : Int)) ∧ ((if inC g node = true then seg else (0 : Int)) = if inC g node = true then seg else (0 : Int)) ∧ ((if inC g
    node = true then (5 : Int) * (↑((2 : Nat) ^ g.toNat) : Int) + node else (0 : Int)) = if inC g node = true then (5 : Int) * (↑((2 : Nat) ^ g.toNat) : Int) + node else (0 : Int)) ∧
    segG s.toNat + (1 : Nat) = segG s.toNat + (1 : Nat) ∧ cap = cap ∧ pathF' s.toNat = pathF' s.toNat ∧ True) ∧ True) ∧ True) ∧ True) ∧ (inL g node = false → (((0 : Int) ≤ g ∧ g ≤ (8 :
    Int)) ∧ ((-9223372036854775808 : Int) ≤ (5 : Int) * (↑((2 : Nat) ^ g.toNat) : Int) ∧ (5 : Int) * (↑((2 : Nat) ^ g.toNat) : Int) ≤ (9223372036854775807 : Int)) ∧
    ((-9223372036854775808 : Int) ≤ (5 : Int) * (↑((2 : Nat) ^ g.toNat) : Int) + node ∧ (5 : Int) * (↑((2 : Nat) ^ g.toNat) : Int) + node ≤ (9223372036854775807 : Int)) ∧ seg = seg ∧ s
    = s ∧ ((if (inS s && inF field) = true then seg else (0 : Int)) = if (inS s && inF field) = true then seg else (0 : Int)) ∧ ((if (inS s && inF field) = true then (5 : Int) * (↑(segO
    s.toNat) : Int) + field else (0 : Int)) = if (inS s && inF field) = true then (5 : Int) * (↑(segO s.toNat) : Int) + field else (0 : Int)) ∧ ((if inC g node = true then seg else (0 :
    Int)) = if inC g node = true then seg else (0 : Int)) ∧ ((if inC g node = true then (5 : Int) * (↑((2 : Nat) ^ g.toNat) : Int) + node else (0 : Int)) = if inC g node = true then (5
    : Int) * (↑((2 : Nat) ^ g.toNat) : Int) + node else (0 : Int)) ∧ segG s.toNat + (1 : Nat) = segG s.toNat + (1 : Nat) ∧ cap = cap ∧ pathF' s.toNat = pathF' s.toNat ∧ (false == ((if
    inC g node = true then seg else (0 : Int)) == seg && ((if inC g node = true then (5 : Int) * (↑((2 : Nat) ^ g.toNat) : Int) + node else (0 : Int)) == (5 : Int) * (↑((2 : Nat) ^
    g.toNat) : Int) + node && true))) = false ∧ ((if inL g node = true then node - (1 : Int) else (0 : Int)) != (0 : Int)) = false ∧ ∃ (y : Unit), seg = seg ∧ s = s ∧ field = field ∧ g
    = g ∧ node = node ∧ field = field ∧ g = g ∧ node = node ∧ ((if inS s = true then (↑(segG s.toNat) : Int) else (0 : Int)) = if inS s = true then (↑(segG s.toNat) : Int) else (0 :
    Int)) ∧ ((if inS s = true then (↑(segO s.toNat) : Int) else (0 : Int)) = if inS s = true then (↑(segO s.toNat) : Int) else (0 : Int)) ∧ inS s = inS s ∧ (inS s && inF field) = (inS s
    && inF field) ∧ true = inC g node ∧ ((if inL g node = true then node - (1 : Int) else (0 : Int)) = if inL g node = true then node - (1 : Int) else (0 : Int)) ∧ false = inL g node ∧
    (0 : Nat) = (0 : Nat) ∧ segG s.toNat + (1 : Nat) = segG s.toNat + (1 : Nat) ∧ cap = cap ∧ inS s = inS s ∧ inG g = inG g ∧ seg = seg ∧ s = s ∧ ((if (inS s && inF field) = true then
    seg else (0 : Int)) = if (inS s && inF field) = true then seg else (0 : Int)) ∧ ((if (inS s && inF field) = true then (5 : Int) * (↑(segO s.toNat) : Int) + field else (0 : Int)) =
    if (inS s && inF field) = true then (5 : Int) * (↑(segO s.toNat) : Int) + field else (0 : Int)) ∧ ((if inC g node = true then seg else (0 : Int)) = if inC g node = true then seg
    else (0 : Int)) ∧ ((if inC g node = true then (5 : Int) * (↑((2 : Nat) ^ g.toNat) : Int) + node else (0 : Int)) = if inC g node = true then (5 : Int) * (↑((2 : Nat) ^ g.toNat) :
    Int) + node else (0 : Int)) ∧ segG s.toNat + (1 : Nat) = segG s.toNat + (1 : Nat) ∧ cap = cap ∧ pathF' s.toNat = pathF' s.toNat ∧ True) ∧ True)) ∧ (inC g node = false → (inL g node
    = true → (false == ((if inC g node = true then seg else (0 : Int)) == (0 : Int) && ((if inC g node = true then (5 : Int) * (↑((2 : Nat) ^ g.toNat) : Int) + node else (0 : Int)) ==
    (0 : Int) && true))) = false ∧ (((0 : Int) ≤ g ∧ g ≤ (8 : Int)) ∧ seg = seg ∧ s = s ∧ ((if (inS s && inF field) = true then seg else (0 : Int)) = if (inS s && inF field) = true then
    seg else (0 : Int)) ∧ ((if (inS s && inF field) = true then (5 : Int) * (↑(segO s.toNat) : Int) + field else (0 : Int)) = if (inS s && inF field) = true then (5 : Int) * (↑(segO
    s.toNat) : Int) + field else (0 : Int)) ∧ ((if inC g node = true then seg else (0 : Int)) = if inC g node = true then seg else (0 : Int)) ∧ ((if inC g node = true then (5 : Int) *
    (↑((2 : Nat) ^ g.toNat) : Int) + node else (0 : Int)) = if inC g node = true then (5 : Int) * (↑((2 : Nat) ^ g.toNat) : Int) + node else (0 : Int)) ∧ segG s.toNat + (1 : Nat) = segG
    s.toNat + (1 : Nat) ∧ cap = cap ∧ pathF' s.toNat = pathF' s.toNat ∧ ((-9223372036854775808 : Int) ≤ (↑((2 : Nat) ^ g.toNat) : Int) - (1 : Int) ∧ (↑((2 : Nat) ^ g.toNat) : Int) - (1
    : Int) ≤ (9223372036854775807 : Int)) ∧ ((-9223372036854775808 : Int) ≤ (↑((2 : Nat) ^ g.toNat) : Int) - (1 : Int) + node ∧ (↑((2 : Nat) ^ g.toNat) : Int) - (1 : Int) + node ≤
    (9223372036854775807 : Int)) ∧ (((0 : Int) ≤ g ∧ g ≤ (8 : Int)) ∧ seg = seg ∧ s = s ∧ ((if (inS s && inF field) = true then seg else (0 : Int)) = if (inS s && inF field) = true then
    seg else (0 : Int)) ∧ ((if (inS s && inF field) = true then (5 : Int) * (↑(segO s.toNat) : Int) + field else (0 : Int)) = if (inS s && inF field) = true then (5 : Int) * (↑(segO
    s.toNat) : Int) + field else (0 : Int)) ∧ ((if inC g node = true then seg else (0 : Int)) = if inC g node = true then seg else (0 : Int)) ∧ ((if inC g node = true then (5 : Int) *
    (↑((2 : Nat) ^ g.toNat) : Int) + node else (0 : Int)) = if inC g node = true then (5 : Int) * (↑((2 : Nat) ^ g.toNat) : Int) + node else (0 : Int)) ∧ segG s.toNat + (1 : Nat) = segG
    s.toNat + (1 : Nat) ∧ cap = cap ∧ pathF' s.toNat = pathF' s.toNat ∧ ((-9223372036854775808 : Int) ≤ (↑((2 : Nat) ^ g.toNat) : Int) - (1 : Int) + node - (↑((2 : Nat) ^ g.toNat) :
    Int) ∧ (↑((2 : Nat) ^ g.toNat) : Int) - (1 : Int) + node - (↑((2 : Nat) ^ g.toNat) : Int) ≤ (9223372036854775807 : Int)) ∧ ((if inL g node = true then node - (1 : Int) else (0 :
    Int)) != (↑((2 : Nat) ^ g.toNat) : Int) - (1 : Int) + node - (↑((2 : Nat) ^ g.toNat) : Int)) = false ∧ ∃ (y : Unit), seg = seg ∧ s = s ∧ field = field ∧ g = g ∧ node = node ∧ field
    = field ∧ g = g ∧ node = node ∧ ((if inS s = true then (↑(segG s.toNat) : Int) else (0 : Int)) = if inS s = true then (↑(segG s.toNat) : Int) else (0 : Int)) ∧ ((if inS s = true
    then (↑(segO s.toNat) : Int) else (0 : Int)) = if inS s = true then (↑(segO s.toNat) : Int) else (0 : Int)) ∧ inS s = inS s ∧ (inS s && inF field) = (inS s && inF field) ∧ false =
    inC g node ∧ ((if inL g node = true then node - (1 : Int) else (0 : Int)) = if inL g node = true then node - (1 : Int) else (0 : Int)) ∧ true = inL g node ∧ (0 : Nat) = (0 : Nat) ∧
    segG s.toNat + (1 : Nat) = segG s.toNat + (1 : Nat) ∧ cap = cap ∧ inS s = inS s ∧ inG g = inG g ∧ seg = seg ∧ s = s ∧ ((if (inS s && inF field) = true then seg else (0 : Int)) = if
    (inS s && inF field) = true then seg else (0 : Int)) ∧ ((if (inS s && inF field) = true then (5 : Int) * (↑(segO s.toNat) : Int) + field else (0 : Int)) = if (inS s && inF field) =
    true then (5 : Int) * (↑(segO s.toNat) : Int) + field else (0 : Int)) ∧ ((if inC g node = true then seg else (0 : Int)) = if inC g node = true then seg else (0 : Int)) ∧ ((if inC g
    node = true then (5 : Int) * (↑((2 : Nat) ^ g.toNat) : Int) + node else (0 : Int)) = if inC g node = true then (5 : Int) * (↑((2 : Nat) ^ g.toNat) : Int) + node else (0 : Int)) ∧
    segG s.toNat + (1 : Nat) = segG s.toNat + (1 : Nat) ∧ cap = cap ∧ pathF' s.toNat = pathF' s.toNat ∧ True) ∧ True) ∧ True) ∧ (inL g node = false → (false == ((if inC g node = true
    then seg else (0 : Int)) == (0 : Int) && ((if inC g node = true then (5 : Int) * (↑((2 : Nat) ^ g.toNat) : Int) + node else (0 : Int)) == (0 : Int) && true))) = false ∧ ((if inL g
    node = true then node - (1 : Int) else (0 : Int)) != (0 : Int)) = false ∧ ∃ (y : Unit), seg = seg ∧ s = s ∧ field = field ∧ g = g ∧ node = node ∧ field = field ∧ g = g ∧ node = node
    ∧ ((if inS s = true then (↑(segG s.toNat) : Int) else (0 : Int)) = if inS s = true then (↑(segG s.toNat) : Int) else (0 : Int)) ∧ ((if inS s = true then (↑(segO s.toNat) : Int) else
    (0 : Int)) = if inS s = true then (↑(segO s.toNat) : Int) else (0 : Int)) ∧ inS s = inS s ∧ (inS s && inF field) = (inS s && inF field) ∧ false = inC g node ∧ ((if inL g node = true
    then node - (1 : Int) else (0 : Int)) = if inL g node = true then node - (1 : Int) else (0 : Int)) ∧ false = inL g node ∧ (0 : Nat) = (0 : Nat) ∧ segG s.toNat + (1 : Nat) = segG
    s.toNat + (1 : Nat) ∧ cap = cap ∧ inS s = inS s ∧ inG g = inG g ∧ seg = seg ∧ s = s ∧ ((if (inS s && inF field) = true then seg else (0 : Int)) = if (inS s && inF field) = true then
    seg else (0 : Int)) ∧ ((if (inS s && inF field) = true then (5 : Int) * (↑(segO s.toNat) : Int) + field else (0 : Int)) = if (inS s && inF field) = true then (5 : Int) * (↑(segO
    s.toNat) : Int) + field else (0 : Int)) ∧ ((if inC g node = true then seg else (0 : Int)) = if inC g node = true then seg else (0 : Int)) ∧ ((if inC g node = true then (5 : Int) *
    (↑((2 : Nat) ^ g.toNat) : Int) + node else (0 : Int)) = if inC g node = true then (5 : Int) * (↑((2 : Nat) ^ g.toNat) : Int) + node else (0 : Int)) ∧ segG s.toNat + (1 : Nat) = segG
    s.toNat + (1 : Nat) ∧ cap = cap ∧ pathF' s.toNat = pathF' s.toNat ∧ True))) ∧ ∀ (y : Unit) (ρ : Nat → Value), ((!inS s) = true → ((-9223372036854775808 : Int) ≤ ((if inS s = true
    then (↑(segG s.toNat) : Int) else (0 : Int)) + if inS s = true then (↑(segO s.toNat) : Int) else (0 : Int)) + (↑(segG s.toNat + (1 : Nat)) : Int) ∧ ((if inS s = true then (↑(segG
    s.toNat) : Int) else (0 : Int)) + if inS s = true then (↑(segO s.toNat) : Int) else (0 : Int)) + (↑(segG s.toNat + (1 : Nat)) : Int) ≤ (9223372036854775807 : Int)) ∧ ((((if inS s =
    true then (↑(segG s.toNat) : Int) else (0 : Int)) + if inS s = true then (↑(segO s.toNat) : Int) else (0 : Int)) + (↑(segG s.toNat + (1 : Nat)) : Int) == (0 : Int)) = true → (true
    == ((if (inS s && inF field) = true then seg else (0 : Int)) == (0 : Int) && ((if (inS s && inF field) = true then (5 : Int) * (↑(segO s.toNat) : Int) + field else (0 : Int)) == (0
    : Int) && true))) = true) ∧ ((((if inS s = true then (↑(segG s.toNat) : Int) else (0 : Int)) + if inS s = true then (↑(segO s.toNat) : Int) else (0 : Int)) + (↑(segG s.toNat + (1 :
    Nat)) : Int) == (0 : Int)) = false → false = true)) ∧ ((!inS s) = false → ((0 : Int) ≤ s ∧ s ≤ (254 : Int)) ∧ (((inS s && inF field) = true → ((if inS s = true then (↑(segG s.toNat)
    : Int) else (0 : Int)) != (↑(segG s.toNat) : Int)) = false ∧ ((if inS s = true then (↑(segO s.toNat) : Int) else (0 : Int)) != (↑(segO s.toNat) : Int)) = false ∧ (((0 : Int) ≤ s ∧ s
    ≤ (254 : Int)) ∧ ((-9223372036854775808 : Int) ≤ (5 : Int) * (↑(segO s.toNat) : Int) ∧ (5 : Int) * (↑(segO s.toNat) : Int) ≤ (9223372036854775807 : Int)) ∧ ((-9223372036854775808 :
    Int) ≤ (5 : Int) * (↑(segO s.toNat) : Int) + field ∧ (5 : Int) * (↑(segO s.toNat) : Int) + field ≤ (9223372036854775807 : Int)) ∧ seg = seg ∧ s = s ∧ ((if (inS s && inF field) =
    true then seg else (0 : Int)) = if (inS s && inF field) = true then seg else (0 : Int)) ∧ ((if (inS s && inF field) = true then (5 : Int) * (↑(segO s.toNat) : Int) + field else (0 :
    Int)) = if (inS s && inF field) = true then (5 : Int) * (↑(segO s.toNat) : Int) + field else (0 : Int)) ∧ ((if inC g node = true then seg else (0 : Int)) = if inC g node = true then
    seg else (0 : Int)) ∧ ((if inC g node = true then (5 : Int) * (↑((2 : Nat) ^ g.toNat) : Int) + node else (0 : Int)) = if inC g node = true then (5 : Int) * (↑((2 : Nat) ^ g.toNat) :
    Int) + node else (0 : Int)) ∧ segG s.toNat + (1 : Nat) = segG s.toNat + (1 : Nat) ∧ cap = cap ∧ pathF' s.toNat = pathF' s.toNat ∧ (false == ((if (inS s && inF field) = true then seg
    else (0 : Int)) == seg && ((if (inS s && inF field) = true then (5 : Int) * (↑(segO s.toNat) : Int) + field else (0 : Int)) == (5 : Int) * (↑(segO s.toNat) : Int) + field && true)))
    = false ∧ ∃ (y : Unit), seg = seg ∧ s = s ∧ field = field ∧ g = g ∧ node = node ∧ field = field ∧ g = g ∧ node = node ∧ ((if inS s = true then (↑(segG s.toNat) : Int) else (0 :
    Int)) = if inS s = true then (↑(segG s.toNat) : Int) else (0 : Int)) ∧ ((if inS s = true then (↑(segO s.toNat) : Int) else (0 : Int)) = if inS s = true then (↑(segO s.toNat) : Int)
    else (0 : Int)) ∧ inS s = inS s ∧ true = (inS s && inF field) ∧ inC g node = inC g node ∧ ((if inL g node = true then node - (1 : Int) else (0 : Int)) = if inL g node = true then
    node - (1 : Int) else (0 : Int)) ∧ inL g node = inL g node ∧ (0 : Nat) = (0 : Nat) ∧ segG s.toNat + (1 : Nat) = segG s.toNat + (1 : Nat) ∧ cap = cap ∧ inS s = inS s ∧ inG g = inG g
    ∧ (↑(segG s.toNat) : Int) = (↑(segG s.toNat) : Int) ∧ (↑(segO s.toNat) : Int) = (↑(segO s.toNat) : Int) ∧ seg = seg ∧ s = s ∧ ((if (inS s && inF field) = true then seg else (0 :
    Int)) = if (inS s && inF field) = true then seg else (0 : Int)) ∧ ((if (inS s && inF field) = true then (5 : Int) * (↑(segO s.toNat) : Int) + field else (0 : Int)) = if (inS s &&
    inF field) = true then (5 : Int) * (↑(segO s.toNat) : Int) + field else (0 : Int)) ∧ ((if inC g node = true then seg else (0 : Int)) = if inC g node = true then seg else (0 : Int))
    ∧ ((if inC g node = true then (5 : Int) * (↑((2 : Nat) ^ g.toNat) : Int) + node else (0 : Int)) = if inC g node = true then (5 : Int) * (↑((2 : Nat) ^ g.toNat) : Int) + node else (0
    : Int)) ∧ segG s.toNat + (1 : Nat) = segG s.toNat + (1 : Nat) ∧ cap = cap ∧ pathF' s.toNat = pathF' s.toNat ∧ True) ∧ True) ∧ ((inS s && inF field) = false → ((if inS s = true then
    (↑(segG s.toNat) : Int) else (0 : Int)) != (↑(segG s.toNat) : Int)) = false ∧ ((if inS s = true then (↑(segO s.toNat) : Int) else (0 : Int)) != (↑(segO s.toNat) : Int)) = false ∧
    (false == ((if (inS s && inF field) = true then seg else (0 : Int)) == (0 : Int) && ((if (inS s && inF field) = true then (5 : Int) * (↑(segO s.toNat) : Int) + field else (0 : Int))
    == (0 : Int) && true))) = false ∧ ∃ (y : Unit), seg = seg ∧ s = s ∧ field = field ∧ g = g ∧ node = node ∧ field = field ∧ g = g ∧ node = node ∧ ((if inS s = true then (↑(segG
    s.toNat) : Int) else (0 : Int)) = if inS s = true then (↑(segG s.toNat) : Int) else (0 : Int)) ∧ ((if inS s = true then (↑(segO s.toNat) : Int) else (0 : Int)) = if inS s = true
    then (↑(segO s.toNat) : Int) else (0 : Int)) ∧ inS s = inS s ∧ false = (inS s && inF field) ∧ inC g node = inC g node ∧ ((if inL g node = true then node - (1 : Int) else (0 : Int))
    = if inL g node = true then node - (1 : Int) else (0 : Int)) ∧ inL g node = inL g node ∧ (0 : Nat) = (0 : Nat) ∧ segG s.toNat + (1 : Nat) = segG s.toNat + (1 : Nat) ∧ cap = cap ∧
    inS s = inS s ∧ inG g = inG g ∧ (↑(segG s.toNat) : Int) = (↑(segG s.toNat) : Int) ∧ (↑(segO s.toNat) : Int) = (↑(segO s.toNat) : Int) ∧ seg = seg ∧ s = s ∧ ((if (inS s && inF field)
    = true then seg else (0 : Int)) = if (inS s && inF field) = true then seg else (0 : Int)) ∧ ((if (inS s && inF field) = true then (5 : Int) * (↑(segO s.toNat) : Int) + field else (0
    : Int)) = if (inS s && inF field) = true then (5 : Int) * (↑(segO s.toNat) : Int) + field else (0 : Int)) ∧ ((if inC g node = true then seg else (0 : Int)) = if inC g node = true
    then seg else (0 : Int)) ∧ ((if inC g node = true then (5 : Int) * (↑((2 : Nat) ^ g.toNat) : Int) + node else (0 : Int)) = if inC g node = true then (5 : Int) * (↑((2 : Nat) ^
    g.toNat) : Int) + node else (0 : Int)) ∧ segG s.toNat + (1 : Nat) = segG s.toNat + (1 : Nat) ∧ cap = cap ∧ pathF' s.toNat = pathF' s.toNat ∧ True)) ∧ ∀ (y : Unit) (ρ : Nat → Value),
    ((0 : Int) ≤ s ∧ s ≤ (254 : Int)) ∧ (0 : Nat) < segG s.toNat + (1 : Nat) ∧ ∀ (cap_1 : Nat), segG s.toNat + (1 : Nat) ≤ cap_1 → ((↑(segG s.toNat + (1 : Nat)) : Int) != (↑(segG
    s.toNat + (1 : Nat)) : Int)) = false ∧ (∃ (y : { i : Nat // i ≤ segG s.toNat + (1 : Nat) }), seg = seg ∧ s = s ∧ field = field ∧ g = g ∧ node = node ∧ field = field ∧ g = g ∧ node =
    node ∧ ((if inS s = true then (↑(segG s.toNat) : Int) else (0 : Int)) = if inS s = true then (↑(segG s.toNat) : Int) else (0 : Int)) ∧ ((if inS s = true then (↑(segO s.toNat) : Int)
    else (0 : Int)) = if inS s = true then (↑(segO s.toNat) : Int) else (0 : Int)) ∧ inS s = inS s ∧ (inS s && inF field) = (inS s && inF field) ∧ inC g node = inC g node ∧ ((if inL g
    node = true then node - (1 : Int) else (0 : Int)) = if inL g node = true then node - (1 : Int) else (0 : Int)) ∧ inL g node = inL g node ∧ (0 : Nat) = (0 : Nat) ∧ segG s.toNat + (1
    : Nat) = segG s.toNat + (1 : Nat) ∧ cap = cap ∧ inS s = inS s ∧ inG g = inG g ∧ (↑(segG s.toNat) : Int) = (↑(segG s.toNat) : Int) ∧ (↑(segO s.toNat) : Int) = (↑(segO s.toNat) : Int)
    ∧ (0 : Nat) = (0 : Nat) ∧ segG s.toNat + (1 : Nat) = segG s.toNat + (1 : Nat) ∧ cap_1 = cap_1 ∧ (↑(segG s.toNat + (1 : Nat)) : Int) = (↑(segG s.toNat + (1 : Nat)) : Int) ∧ seg = seg
    ∧ s = s ∧ ((if (inS s && inF field) = true then seg else (0 : Int)) = if (inS s && inF field) = true then seg else (0 : Int)) ∧ ((if (inS s && inF field) = true then (5 : Int) *
    (↑(segO s.toNat) : Int) + field else (0 : Int)) = if (inS s && inF field) = true then (5 : Int) * (↑(segO s.toNat) : Int) + field else (0 : Int)) ∧ ((if inC g node = true then seg
    else (0 : Int)) = if inC g node = true then seg else (0 : Int)) ∧ ((if inC g node = true then (5 : Int) * (↑((2 : Nat) ^ g.toNat) : Int) + node else (0 : Int)) = if inC g node =
    true then (5 : Int) * (↑((2 : Nat) ^ g.toNat) : Int) + node else (0 : Int)) ∧ segG s.toNat + (1 : Nat) = segG s.toNat + (1 : Nat) ∧ cap = cap ∧ pathF' s.toNat = pathF' s.toNat ∧
    segG s.toNat + (1 : Nat) = segG s.toNat + (1 : Nat) ∧ cap_1 = cap_1 ∧ pathF' s.toNat = pathF' s.toNat ∧ (↑y.val : Int) = (0 : Int) ∧ True) ∧ ∀ (y : { i : Nat // i ≤ segG s.toNat +
    (1 : Nat) }) (ρ : Nat → Value), (decide ((↑y.val : Int) < (↑(segG s.toNat + (1 : Nat)) : Int)) = true → ((0 : Int) ≤ (↑y.val : Int) ∧ (↑y.val : Int) < (↑(segG s.toNat + (1 : Nat)) :
    Int)) ∧ addO true (0 : Nat) (↑y.val : Int).toNat < segG s.toNat + (1 : Nat) ∧ ((0 : Int) ≤ (↑y.val : Int) ∧ (↑y.val : Int) < (↑(segG s.toNat + (1 : Nat)) : Int)) ∧ addO true (0 :
    Nat) (↑y.val : Int).toNat < segG s.toNat + (1 : Nat) ∧ ((pathF' s.toNat (addO true (0 : Nat) (↑y.val : Int).toNat) != pathF' s.toNat (addO true (0 : Nat) (↑y.val : Int).toNat)) =
    true → false = true) ∧ ((pathF' s.toNat (addO true (0 : Nat) (↑y.val : Int).toNat) != pathF' s.toNat (addO true (0 : Nat) (↑y.val : Int).toNat)) = false → ((-9223372036854775808 :
    Int) ≤ (↑y.val : Int) + (1 : Int) ∧ (↑y.val : Int) + (1 : Int) ≤ (9223372036854775807 : Int)) ∧ ∃ (y' : { i : Nat // i ≤ segG s.toNat + (1 : Nat) }), segG s.toNat + (1 : Nat) -
    y'.val < segG s.toNat + (1 : Nat) - y.val ∧ seg = seg ∧ s = s ∧ field = field ∧ g = g ∧ node = node ∧ field = field ∧ g = g ∧ node = node ∧ ((if inS s = true then (↑(segG s.toNat) :
    Int) else (0 : Int)) = if inS s = true then (↑(segG s.toNat) : Int) else (0 : Int)) ∧ ((if inS s = true then (↑(segO s.toNat) : Int) else (0 : Int)) = if inS s = true then (↑(segO
    s.toNat) : Int) else (0 : Int)) ∧ inS s = inS s ∧ (inS s && inF field) = (inS s && inF field) ∧ inC g node = inC g node ∧ ((if inL g node = true then node - (1 : Int) else (0 :
    Int)) = if inL g node = true then node - (1 : Int) else (0 : Int)) ∧ inL g node = inL g node ∧ (0 : Nat) = (0 : Nat) ∧ segG s.toNat + (1 : Nat) = segG s.toNat + (1 : Nat) ∧ cap =
    cap ∧ inS s = inS s ∧ inG g = inG g ∧ (↑(segG s.toNat) : Int) = (↑(segG s.toNat) : Int) ∧ (↑(segO s.toNat) : Int) = (↑(segO s.toNat) : Int) ∧ (0 : Nat) = (0 : Nat) ∧ segG s.toNat +
    (1 : Nat) = segG s.toNat + (1 : Nat) ∧ cap_1 = cap_1 ∧ (↑(segG s.toNat + (1 : Nat)) : Int) = (↑(segG s.toNat + (1 : Nat)) : Int) ∧ seg = seg ∧ s = s ∧ ((if (inS s && inF field) =
    true then seg else (0 : Int)) = if (inS s && inF field) = true then seg else (0 : Int)) ∧ ((if (inS s && inF field) = true then (5 : Int) * (↑(segO s.toNat) : Int) + field else (0 :
    Int)) = if (inS s && inF field) = true then (5 : Int) * (↑(segO s.toNat) : Int) + field else (0 : Int)) ∧ ((if inC g node = true then seg else (0 : Int)) = if inC g node = true then
    seg else (0 : Int)) ∧ ((if inC g node = true then (5 : Int) * (↑((2 : Nat) ^ g.toNat) : Int) + node else (0 : Int)) = if inC g node = true then (5 : Int) * (↑((2 : Nat) ^ g.toNat) :
    Int) + node else (0 : Int)) ∧ segG s.toNat + (1 : Nat) = segG s.toNat + (1 : Nat) ∧ cap = cap ∧ pathF' s.toNat = pathF' s.toNat ∧ segG s.toNat + (1 : Nat) = segG s.toNat + (1 : Nat)
    ∧ cap_1 = cap_1 ∧ pathF' s.toNat = pathF' s.toNat ∧ (↑y'.val : Int) = (↑y.val : Int) + (1 : Int) ∧ True)) ∧ (decide ((↑y.val : Int) < (↑(segG s.toNat + (1 : Nat)) : Int)) = false →
    true = true))) ∧ (inS s = false → ((decide (s ≥ (0 : Int)) = true → ∃ (y : Unit), seg = seg ∧ s = s ∧ field = field ∧ g = g ∧ node = node ∧ field = field ∧ g = g ∧ node = node ∧
    ((if inS s = true then (↑(segG s.toNat) : Int) else (0 : Int)) = if inS s = true then (↑(segG s.toNat) : Int) else (0 : Int)) ∧ ((if inS s = true then (↑(segO s.toNat) : Int) else
    (0 : Int)) = if inS s = true then (↑(segO s.toNat) : Int) else (0 : Int)) ∧ inS s = inS s ∧ (inS s && inF field) = (inS s && inF field) ∧ inC g node = inC g node ∧ ((if inL g node =
    true then node - (1 : Int) else (0 : Int)) = if inL g node = true then node - (1 : Int) else (0 : Int)) ∧ inL g node = inL g node ∧ seg = seg ∧ s = s ∧ ((if (inS s && inF field) =
    true then seg else (0 : Int)) = if (inS s && inF field) = true then seg else (0 : Int)) ∧ ((if (inS s && inF field) = true then (5 : Int) * (↑(segO s.toNat) : Int) + field else (0 :
    Int)) = if (inS s && inF field) = true then (5 : Int) * (↑(segO s.toNat) : Int) + field else (0 : Int)) ∧ ((if inC g node = true then seg else (0 : Int)) = if inC g node = true then
    seg else (0 : Int)) ∧ ((if inC g node = true then (5 : Int) * (↑((2 : Nat) ^ g.toNat) : Int) + node else (0 : Int)) = if inC g node = true then (5 : Int) * (↑((2 : Nat) ^ g.toNat) :
    Int) + node else (0 : Int)) ∧ inS s = decide (s ≤ (254 : Int)) ∧ True) ∧ (decide (s ≥ (0 : Int)) = false → ∃ (y : Unit), seg = seg ∧ s = s ∧ field = field ∧ g = g ∧ node = node ∧
    field = field ∧ g = g ∧ node = node ∧ ((if inS s = true then (↑(segG s.toNat) : Int) else (0 : Int)) = if inS s = true then (↑(segG s.toNat) : Int) else (0 : Int)) ∧ ((if inS s =
    true then (↑(segO s.toNat) : Int) else (0 : Int)) = if inS s = true then (↑(segO s.toNat) : Int) else (0 : Int)) ∧ inS s = inS s ∧ (inS s && inF field) = (inS s && inF field) ∧ inC
    g node = inC g node ∧ ((if inL g node = true then node - (1 : Int) else (0 : Int)) = if inL g node = true then node - (1 : Int) else (0 : Int)) ∧ inL g node = inL g node ∧ seg = seg
    ∧ s = s ∧ ((if (inS s && inF field) = true then seg else (0 : Int)) = if (inS s && inF field) = true then seg else (0 : Int)) ∧ ((if (inS s && inF field) = true then (5 : Int) *
    (↑(segO s.toNat) : Int) + field else (0 : Int)) = if (inS s && inF field) = true then (5 : Int) * (↑(segO s.toNat) : Int) + field else (0 : Int)) ∧ ((if inC g node = true then seg
    else (0 : Int)) = if inC g node = true then seg else (0 : Int)) ∧ ((if inC g node = true then (5 : Int) * (↑((2 : Nat) ^ g.toNat) : Int) + node else (0 : Int)) = if inC g node =
    true then (5 : Int) * (↑((2 : Nat) ^ g.toNat) : Int) + node else (0 : Int)) ∧ inS s = false ∧ True)) ∧ ∀ (y : Unit) (ρ : Nat → Value), ((decide (g ≥ (0 : Int)) = true → ∃ (y :
    Unit), seg = seg ∧ s = s ∧ field = field ∧ g = g ∧ node = node ∧ field = field ∧ g = g ∧ node = node ∧ ((if inS s = true then (↑(segG s.toNat) : Int) else (0 : Int)) = if inS s =
    true then (↑(segG s.toNat) : Int) else (0 : Int)) ∧ ((if inS s = true then (↑(segO s.toNat) : Int) else (0 : Int)) = if inS s = true then (↑(segO s.toNat) : Int) else (0 : Int)) ∧
    inS s = inS s ∧ (inS s && inF field) = (inS s && inF field) ∧ inC g node = inC g node ∧ ((if inL g node = true then node - (1 : Int) else (0 : Int)) = if inL g node = true then node
    - (1 : Int) else (0 : Int)) ∧ inL g node = inL g node ∧ inS s = inS s ∧ seg = seg ∧ s = s ∧ ((if (inS s && inF field) = true then seg else (0 : Int)) = if (inS s && inF field) =
    true then seg else (0 : Int)) ∧ ((if (inS s && inF field) = true then (5 : Int) * (↑(segO s.toNat) : Int) + field else (0 : Int)) = if (inS s && inF field) = true then (5 : Int) *
    (↑(segO s.toNat) : Int) + field else (0 : Int)) ∧ ((if inC g node = true then seg else (0 : Int)) = if inC g node = true then seg else (0 : Int)) ∧ ((if inC g node = true then (5 :
    Int) * (↑((2 : Nat) ^ g.toNat) : Int) + node else (0 : Int)) = if inC g node = true then (5 : Int) * (↑((2 : Nat) ^ g.toNat) : Int) + node else (0 : Int)) ∧ inG g = decide (g ≤ (7 :
    Int)) ∧ True) ∧ (decide (g ≥ (0 : Int)) = false → ∃ (y : Unit), seg = seg ∧ s = s ∧ field = field ∧ g = g ∧ node = node ∧ field = field ∧ g = g ∧ node = node ∧ ((if inS s = true
    then (↑(segG s.toNat) : Int) else (0 : Int)) = if inS s = true then (↑(segG s.toNat) : Int) else (0 : Int)) ∧ ((if inS s = true then (↑(segO s.toNat) : Int) else (0 : Int)) = if inS
    s = true then (↑(segO s.toNat) : Int) else (0 : Int)) ∧ inS s = inS s ∧ (inS s && inF field) = (inS s && inF field) ∧ inC g node = inC g node ∧ ((if inL g node = true then node - (1
    : Int) else (0 : Int)) = if inL g node = true then node - (1 : Int) else (0 : Int)) ∧ inL g node = inL g node ∧ inS s = inS s ∧ seg = seg ∧ s = s ∧ ((if (inS s && inF field) = true
    then seg else (0 : Int)) = if (inS s && inF field) = true then seg else (0 : Int)) ∧ ((if (inS s && inF field) = true then (5 : Int) * (↑(segO s.toNat) : Int) + field else (0 :
    Int)) = if (inS s && inF field) = true then (5 : Int) * (↑(segO s.toNat) : Int) + field else (0 : Int)) ∧ ((if inC g node = true then seg else (0 : Int)) = if inC g node = true then
    seg else (0 : Int)) ∧ ((if inC g node = true then (5 : Int) * (↑((2 : Nat) ^ g.toNat) : Int) + node else (0 : Int)) = if inC g node = true then (5 : Int) * (↑((2 : Nat) ^ g.toNat) :
    Int) + node else (0 : Int)) ∧ inG g = false ∧ True)) ∧ ∀ (y : Unit) (ρ : Nat → Value), (((false == (inS s == inS s)) = true → false = true) ∧ ((false == (inS s == inS s)) = false →
    (inS s = true → (decide (field ≥ (0 : Int)) = true → ((false == ((inS s && inF field) == decide (field ≤ (4 : Int)))) = true → false = true) ∧ ((false == ((inS s && inF field) ==
    decide (field ≤ (4 : Int)))) = false → ((false == ((0 : Int) == (0 : Int) && ((1 : Int) + max (0 : Int) (min g (7 : Int)) == (1 : Int) + max (0 : Int) (min g (7 : Int)) && true))) =
    true → false = true) ∧ ((false == ((0 : Int) == (0 : Int) && ((1 : Int) + max (0 : Int) (min g (7 : Int)) == (1 : Int) + max (0 : Int) (min g (7 : Int)) && true))) = false → ((!inG
    g) = true → (((if inG g = true then (↑((7 : Nat) * (2 : Nat) ^ g.toNat) : Int) else (0 : Int)) != (0 : Int)) = true → false = true) ∧ (((if inG g = true then (↑((7 : Nat) * (2 :
    Nat) ^ g.toNat) : Int) else (0 : Int)) != (0 : Int)) = false → (inG g = true → ((0 : Int) ≤ g ∧ g ≤ (8 : Int)) ∧ ((-9223372036854775808 : Int) ≤ (7 : Int) * (↑((2 : Nat) ^ g.toNat)
    : Int) ∧ (7 : Int) * (↑((2 : Nat) ^ g.toNat) : Int) ≤ (9223372036854775807 : Int)) ∧ (((if inG g = true then (↑((7 : Nat) * (2 : Nat) ^ g.toNat) : Int) else (0 : Int)) != (7 : Int)
    * (↑((2 : Nat) ^ g.toNat) : Int)) = true → false = true) ∧ (((if inG g = true then (↑((7 : Nat) * (2 : Nat) ^ g.toNat) : Int) else (0 : Int)) != (7 : Int) * (↑((2 : Nat) ^ g.toNat)
    : Int)) = false → ∃ (y : Unit), seg = seg ∧ s = s ∧ field = field ∧ g = g ∧ node = node ∧ field = field ∧ g = g ∧ node = node ∧ ((if inS s = true then (↑(segG s.toNat) : Int) else
    (0 : Int)) = if inS s = true then (↑(segG s.toNat) : Int) else (0 : Int)) ∧ ((if inS s = true then (↑(segO s.toNat) : Int) else (0 : Int)) = if inS s = true then (↑(segO s.toNat) :
    Int) else (0 : Int)) ∧ inS s = inS s ∧ (inS s && inF field) = (inS s && inF field) ∧ inC g node = inC g node ∧ ((if inL g node = true then node - (1 : Int) else (0 : Int)) = if inL
    g node = true then node - (1 : Int) else (0 : Int)) ∧ inL g node = inL g node ∧ inS s = inS s ∧ inG g = inG g ∧ seg = seg ∧ s = s ∧ ((if (inS s && inF field) = true then seg else (0
    : Int)) = if (inS s && inF field) = true then seg else (0 : Int)) ∧ ((if (inS s && inF field) = true then (5 : Int) * (↑(segO s.toNat) : Int) + field else (0 : Int)) = if (inS s &&
    inF field) = true then (5 : Int) * (↑(segO s.toNat) : Int) + field else (0 : Int)) ∧ ((if inC g node = true then seg else (0 : Int)) = if inC g node = true then seg else (0 : Int))
    ∧ ((if inC g node = true then (5 : Int) * (↑((2 : Nat) ^ g.toNat) : Int) + node else (0 : Int)) = if inC g node = true then (5 : Int) * (↑((2 : Nat) ^ g.toNat) : Int) + node else (0
    : Int)) ∧ True)) ∧ (inG g = false → ∃ (y : Unit), seg = seg ∧ s = s ∧ field = field ∧ g = g ∧ node = node ∧ field = field ∧ g = g ∧ node = node ∧ ((if inS s = true then (↑(segG
    s.toNat) : Int) else (0 : Int)) = if inS s = true then (↑(segG s.toNat) : Int) else (0 : Int)) ∧ ((if inS s = true then (↑(segO s.toNat) : Int) else (0 : Int)) = if inS s = true
    then (↑(segO s.toNat) : Int) else (0 : Int)) ∧ inS s = inS s ∧ (inS s && inF field) = (inS s && inF field) ∧ inC g node = inC g node ∧ ((if inL g node = true then node - (1 : Int)
    else (0 : Int)) = if inL g node = true then node - (1 : Int) else (0 : Int)) ∧ inL g node = inL g node ∧ inS s = inS s ∧ inG g = inG g ∧ seg = seg ∧ s = s ∧ ((if (inS s && inF
    field) = true then seg else (0 : Int)) = if (inS s && inF field) = true then seg else (0 : Int)) ∧ ((if (inS s && inF field) = true then (5 : Int) * (↑(segO s.toNat) : Int) + field
    else (0 : Int)) = if (inS s && inF field) = true then (5 : Int) * (↑(segO s.toNat) : Int) + field else (0 : Int)) ∧ ((if inC g node = true then seg else (0 : Int)) = if inC g node =
    true then seg else (0 : Int)) ∧ ((if inC g node = true then (5 : Int) * (↑((2 : Nat) ^ g.toNat) : Int) + node else (0 : Int)) = if inC g node = true then (5 : Int) * (↑((2 : Nat) ^
    g.toNat) : Int) + node else (0 : Int)) ∧ True))) ∧ ((!inG g) = false → (inG g = true → ((0 : Int) ≤ g ∧ g ≤ (8 : Int)) ∧ ((-9223372036854775808 : Int) ≤ (7 : Int) * (↑((2 : Nat) ^
    g.toNat) : Int) ∧ (7 : Int) * (↑((2 : Nat) ^ g.toNat) : Int) ≤ (9223372036854775807 : Int)) ∧ (((if inG g = true then (↑((7 : Nat) * (2 : Nat) ^ g.toNat) : Int) else (0 : Int)) !=
    (7 : Int) * (↑((2 : Nat) ^ g.toNat) : Int)) = true → false = true) ∧ (((if inG g = true then (↑((7 : Nat) * (2 : Nat) ^ g.toNat) : Int) else (0 : Int)) != (7 : Int) * (↑((2 : Nat) ^
    g.toNat) : Int)) = false → ∃ (y : Unit), seg = seg ∧ s = s ∧ field = field ∧ g = g ∧ node = node ∧ field = field ∧ g = g ∧ node = node ∧ ((if inS s = true then (↑(segG s.toNat) :
    Int) else (0 : Int)) = if inS s = true then (↑(segG s.toNat) : Int) else (0 : Int)) ∧ ((if inS s = true then (↑(segO s.toNat) : Int) else (0 : Int)) = if inS s = true then (↑(segO
    s.toNat) : Int) else (0 : Int)) ∧ inS s = inS s ∧ (inS s && inF field) = (inS s && inF field) ∧ inC g node = inC g node ∧ ((if inL g node = true then node - (1 : Int) else (0 :
    Int)) = if inL g node = true then node - (1 : Int) else (0 : Int)) ∧ inL g node = inL g node ∧ inS s = inS s ∧ inG g = inG g ∧ seg = seg ∧ s = s ∧ ((if (inS s && inF field) = true
    then seg else (0 : Int)) = if (inS s && inF field) = true then seg else (0 : Int)) ∧ ((if (inS s && inF field) = true then (5 : Int) * (↑(segO s.toNat) : Int) + field else (0 :
    Int)) = if (inS s && inF field) = true then (5 : Int) * (↑(segO s.toNat) : Int) + field else (0 : Int)) ∧ ((if inC g node = true then seg else (0 : Int)) = if inC g node = true then
    seg else (0 : Int)) ∧ ((if inC g node = true then (5 : Int) * (↑((2 : Nat) ^ g.toNat) : Int) + node else (0 : Int)) = if inC g node = true then (5 : Int) * (↑((2 : Nat) ^ g.toNat) :
    Int) + node else (0 : Int)) ∧ True)) ∧ (inG g = false → ∃ (y : Unit), seg = seg ∧ s = s ∧ field = field ∧ g = g ∧ node = node ∧ field = field ∧ g = g ∧ node = node ∧ ((if inS s =
    true then (↑(segG s.toNat) : Int) else (0 : Int)) = if inS s = true then (↑(segG s.toNat) : Int) else (0 : Int)) ∧ ((if inS s = true then (↑(segO s.toNat) : Int) else (0 : Int)) =
    if inS s = true then (↑(segO s.toNat) : Int) else (0 : Int)) ∧ inS s = inS s ∧ (inS s && inF field) = (inS s && inF field) ∧ inC g node = inC g node ∧ ((if inL g node = true then
    node - (1 : Int) else (0 : Int)) = if inL g node = true then node - (1 : Int) else (0 : Int)) ∧ inL g node = inL g node ∧ inS s = inS s ∧ inG g = inG g ∧ seg = seg ∧ s = s ∧ ((if
    (inS s && inF field) = true then seg else (0 : Int)) = if (inS s && inF field) = true then seg else (0 : Int)) ∧ ((if (inS s && inF field) = true then (5 : Int) * (↑(segO s.toNat) :
    Int) + field else (0 : Int)) = if (inS s && inF field) = true then (5 : Int) * (↑(segO s.toNat) : Int) + field else (0 : Int)) ∧ ((if inC g node = true then seg else (0 : Int)) = if
    inC g node = true then seg else (0 : Int)) ∧ ((if inC g node = true then (5 : Int) * (↑((2 : Nat) ^ g.toNat) : Int) + node else (0 : Int)) = if inC g node = true then (5 : Int) *
    (↑((2 : Nat) ^ g.toNat) : Int) + node else (0 : Int)) ∧ True))))) ∧ (decide (field ≥ (0 : Int)) = false → ((false == ((inS s && inF field) == false)) = true → false = true) ∧
    ((false == ((inS s && inF field) == false)) = false → ((false == ((0 : Int) == (0 : Int) && ((1 : Int) + max (0 : Int) (min g (7 : Int)) == (1 : Int) + max (0 : Int) (min g (7 :
    Int)) && true))) = true → false = true) ∧ ((false == ((0 : Int) == (0 : Int) && ((1 : Int) + max (0 : Int) (min g (7 : Int)) == (1 : Int) + max (0 : Int) (min g (7 : Int)) &&
    true))) = false → ((!inG g) = true → (((if inG g = true then (↑((7 : Nat) * (2 : Nat) ^ g.toNat) : Int) else (0 : Int)) != (0 : Int)) = true → false = true) ∧ (((if inG g = true
    then (↑((7 : Nat) * (2 : Nat) ^ g.toNat) : Int) else (0 : Int)) != (0 : Int)) = false → (inG g = true → ((0 : Int) ≤ g ∧ g ≤ (8 : Int)) ∧ ((-9223372036854775808 : Int) ≤ (7 : Int) *
    (↑((2 : Nat) ^ g.toNat) : Int) ∧ (7 : Int) * (↑((2 : Nat) ^ g.toNat) : Int) ≤ (9223372036854775807 : Int)) ∧ (((if inG g = true then (↑((7 : Nat) * (2 : Nat) ^ g.toNat) : Int) else
    (0 : Int)) != (7 : Int) * (↑((2 : Nat) ^ g.toNat) : Int)) = true → false = true) ∧ (((if inG g = true then (↑((7 : Nat) * (2 : Nat) ^ g.toNat) : Int) else (0 : Int)) != (7 : Int) *
    (↑((2 : Nat) ^ g.toNat) : Int)) = false → ∃ (y : Unit), seg = seg ∧ s = s ∧ field = field ∧ g = g ∧ node = node ∧ field = field ∧ g = g ∧ node = node ∧ ((if inS s = true then
    (↑(segG s.toNat) : Int) else (0 : Int)) = if inS s = true then (↑(segG s.toNat) : Int) else (0 : Int)) ∧ ((if inS s = true then (↑(segO s.toNat) : Int) else (0 : Int)) = if inS s =
    true then (↑(segO s.toNat) : Int) else (0 : Int)) ∧ inS s = inS s ∧ (inS s && inF field) = (inS s && inF field) ∧ inC g node = inC g node ∧ ((if inL g node = true then node - (1 :
    Int) else (0 : Int)) = if inL g node = true then node - (1 : Int) else (0 : Int)) ∧ inL g node = inL g node ∧ inS s = inS s ∧ inG g = inG g ∧ seg = seg ∧ s = s ∧ ((if (inS s && inF
    field) = true then seg else (0 : Int)) = if (inS s && inF field) = true then seg else (0 : Int)) ∧ ((if (inS s && inF field) = true then (5 : Int) * (↑(segO s.toNat) : Int) + field
    else (0 : Int)) = if (inS s && inF field) = true then (5 : Int) * (↑(segO s.toNat) : Int) + field else (0 : Int)) ∧ ((if inC g node = true then seg else (0 : Int)) = if inC g node =
    true then seg else (0 : Int)) ∧ ((if inC g node = true then (5 : Int) * (↑((2 : Nat) ^ g.toNat) : Int) + node else (0 : Int)) = if inC g node = true then (5 : Int) * (↑((2 : Nat) ^
    g.toNat) : Int) + node else (0 : Int)) ∧ True)) ∧ (inG g = false → ∃ (y : Unit), seg = seg ∧ s = s ∧ field = field ∧ g = g ∧ node = node ∧ field = field ∧ g = g ∧ node = node ∧ ((if
    inS s = true then (↑(segG s.toNat) : Int) else (0 : Int)) = if inS s = true then (↑(segG s.toNat) : Int) else (0 : Int)) ∧ ((if inS s = true then (↑(segO s.toNat) : Int) else (0 :
    Int)) = if inS s = true then (↑(segO s.toNat) : Int) else (0 : Int)) ∧ inS s = inS s ∧ (inS s && inF field) = (inS s && inF field) ∧ inC g node = inC g node ∧ ((if inL g node = true
    then node - (1 : Int) else (0 : Int)) = if inL g node = true then node - (1 : Int) else (0 : Int)) ∧ inL g node = inL g node ∧ inS s = inS s ∧ inG g = inG g ∧ seg = seg ∧ s = s ∧
    ((if (inS s && inF field) = true then seg else (0 : Int)) = if (inS s && inF field) = true then seg else (0 : Int)) ∧ ((if (inS s && inF field) = true then (5 : Int) * (↑(segO
    s.toNat) : Int) + field else (0 : Int)) = if (inS s && inF field) = true then (5 : Int) * (↑(segO s.toNat) : Int) + field else (0 : Int)) ∧ ((if inC g node = true then seg else (0 :
    Int)) = if inC g node = true then seg else (0 : Int)) ∧ ((if inC g node = true then (5 : Int) * (↑((2 : Nat) ^ g.toNat) : Int) + node else (0 : Int)) = if inC g node = true then (5
    : Int) * (↑((2 : Nat) ^ g.toNat) : Int) + node else (0 : Int)) ∧ True))) ∧ ((!inG g) = false → (inG g = true → ((0 : Int) ≤ g ∧ g ≤ (8 : Int)) ∧ ((-9223372036854775808 : Int) ≤ (7 :
    Int) * (↑((2 : Nat) ^ g.toNat) : Int) ∧ (7 : Int) * (↑((2 : Nat) ^ g.toNat) : Int) ≤ (9223372036854775807 : Int)) ∧ (((if inG g = true then (↑((7 : Nat) * (2 : Nat) ^ g.toNat) :
    Int) else (0 : Int)) != (7 : Int) * (↑((2 : Nat) ^ g.toNat) : Int)) = true → false = true) ∧ (((if inG g = true then (↑((7 : Nat) * (2 : Nat) ^ g.toNat) : Int) else (0 : Int)) != (7
    : Int) * (↑((2 : Nat) ^ g.toNat) : Int)) = false → ∃ (y : Unit), seg = seg ∧ s = s ∧ field = field ∧ g = g ∧ node = node ∧ field = field ∧ g = g ∧ node = node ∧ ((if inS s = true
    then (↑(segG s.toNat) : Int) else (0 : Int)) = if inS s = true then (↑(segG s.toNat) : Int) else (0 : Int)) ∧ ((if inS s = true then (↑(segO s.toNat) : Int) else (0 : Int)) = if inS
    s = true then (↑(segO s.toNat) : Int) else (0 : Int)) ∧ inS s = inS s ∧ (inS s && inF field) = (inS s && inF field) ∧ inC g node = inC g node ∧ ((if inL g node = true then node - (1
    : Int) else (0 : Int)) = if inL g node = true then node - (1 : Int) else (0 : Int)) ∧ inL g node = inL g node ∧ inS s = inS s ∧ inG g = inG g ∧ seg = seg ∧ s = s ∧ ((if (inS s &&
    inF field) = true then seg else (0 : Int)) = if (inS s && inF field) = true then seg else (0 : Int)) ∧ ((if (inS s && inF field) = true then (5 : Int) * (↑(segO s.toNat) : Int) +
    field else (0 : Int)) = if (inS s && inF field) = true then (5 : Int) * (↑(segO s.toNat) : Int) + field else (0 : Int)) ∧ ((if inC g node = true then seg else (0 : Int)) = if inC g
    node = true then seg else (0 : Int)) ∧ ((if inC g node = true then (5 : Int) * (↑((2 : Nat) ^ g.toNat) : Int) + node else (0 : Int)) = if inC g node = true then (5 : Int) * (↑((2 :
    Nat) ^ g.toNat) : Int) + node else (0 : Int)) ∧ True)) ∧ (inG g = false → ∃ (y : Unit), seg = seg ∧ s = s ∧ field = field ∧ g = g ∧ node = node ∧ field = field ∧ g = g ∧ node = node
    ∧ ((if inS s = true then (↑(segG s.toNat) : Int) else (0 : Int)) = if inS s = true then (↑(segG s.toNat) : Int) else (0 : Int)) ∧ ((if inS s = true then (↑(segO s.toNat) : Int) else
    (0 : Int)) = if inS s = true then (↑(segO s.toNat) : Int) else (0 : Int)) ∧ inS s = inS s ∧ (inS s && inF field) = (inS s && inF field) ∧ inC g node = inC g node ∧ ((if inL g node =
    true then node - (1 : Int) else (0 : Int)) = if inL g node = true then node - (1 : Int) else (0 : Int)) ∧ inL g node = inL g node ∧ inS s = inS s ∧ inG g = inG g ∧ seg = seg ∧ s = s
    ∧ ((if (inS s && inF field) = true then seg else (0 : Int)) = if (inS s && inF field) = true then seg else (0 : Int)) ∧ ((if (inS s && inF field) = true then (5 : Int) * (↑(segO
    s.toNat) : Int) + field else (0 : Int)) = if (inS s && inF field) = true then (5 : Int) * (↑(segO s.toNat) : Int) + field else (0 : Int)) ∧ ((if inC g node = true then seg else (0 :
    Int)) = if inC g node = true then seg else (0 : Int)) ∧ ((if inC g node = true then (5 : Int) * (↑((2 : Nat) ^ g.toNat) : Int) + node else (0 : Int)) = if inC g node = true then (5
    : Int) * (↑((2 : Nat) ^ g.toNat) : Int) + node else (0 : Int)) ∧ True)))))) ∧ (inS s = false → ((false == ((inS s && inF field) == false)) = true → false = true) ∧ ((false == ((inS
    s && inF field) == false)) = false → ((false == ((0 : Int) == (0 : Int) && ((1 : Int) + max (0 : Int) (min g (7 : Int)) == (1 : Int) + max (0 : Int) (min g (7 : Int)) && true))) =
    true → false = true) ∧ ((false == ((0 : Int) == (0 : Int) && ((1 : Int) + max (0 : Int) (min g (7 : Int)) == (1 : Int) + max (0 : Int) (min g (7 : Int)) && true))) = false → ((!inG
    g) = true → (((if inG g = true then (↑((7 : Nat) * (2 : Nat) ^ g.toNat) : Int) else (0 : Int)) != (0 : Int)) = true → false = true) ∧ (((if inG g = true then (↑((7 : Nat) * (2 :
    Nat) ^ g.toNat) : Int) else (0 : Int)) != (0 : Int)) = false → (inG g = true → ((0 : Int) ≤ g ∧ g ≤ (8 : Int)) ∧ ((-9223372036854775808 : Int) ≤ (7 : Int) * (↑((2 : Nat) ^ g.toNat)
    : Int) ∧ (7 : Int) * (↑((2 : Nat) ^ g.toNat) : Int) ≤ (9223372036854775807 : Int)) ∧ (((if inG g = true then (↑((7 : Nat) * (2 : Nat) ^ g.toNat) : Int) else (0 : Int)) != (7 : Int)
    * (↑((2 : Nat) ^ g.toNat) : Int)) = true → false = true) ∧ (((if inG g = true then (↑((7 : Nat) * (2 : Nat) ^ g.toNat) : Int) else (0 : Int)) != (7 : Int) * (↑((2 : Nat) ^ g.toNat)
    : Int)) = false → ∃ (y : Unit), seg = seg ∧ s = s ∧ field = field ∧ g = g ∧ node = node ∧ field = field ∧ g = g ∧ node = node ∧ ((if inS s = true then (↑(segG s.toNat) : Int) else
    (0 : Int)) = if inS s = true then (↑(segG s.toNat) : Int) else (0 : Int)) ∧ ((if inS s = true then (↑(segO s.toNat) : Int) else (0 : Int)) = if inS s = true then (↑(segO s.toNat) :
    Int) else (0 : Int)) ∧ inS s = inS s ∧ (inS s && inF field) = (inS s && inF field) ∧ inC g node = inC g node ∧ ((if inL g node = true then node - (1 : Int) else (0 : Int)) = if inL
    g node = true then node - (1 : Int) else (0 : Int)) ∧ inL g node = inL g node ∧ inS s = inS s ∧ inG g = inG g ∧ seg = seg ∧ s = s ∧ ((if (inS s && inF field) = true then seg else (0
    : Int)) = if (inS s && inF field) = true then seg else (0 : Int)) ∧ ((if (inS s && inF field) = true then (5 : Int) * (↑(segO s.toNat) : Int) + field else (0 : Int)) = if (inS s &&
    inF field) = true then (5 : Int) * (↑(segO s.toNat) : Int) + field else (0 : Int)) ∧ ((if inC g node = true then seg else (0 : Int)) = if inC g node = true then seg else (0 : Int))
    ∧ ((if inC g node = true then (5 : Int) * (↑((2 : Nat) ^ g.toNat) : Int) + node else (0 : Int)) = if inC g node = true then (5 : Int) * (↑((2 : Nat) ^ g.toNat) : Int) + node else (0
    : Int)) ∧ True)) ∧ (inG g = false → ∃ (y : Unit), seg = seg ∧ s = s ∧ field = field ∧ g = g ∧ node = node ∧ field = field ∧ g = g ∧ node = node ∧ ((if inS s = true then (↑(segG
    s.toNat) : Int) else (0 : Int)) = if inS s = true then (↑(segG s.toNat) : Int) else (0 : Int)) ∧ ((if inS s = true then (↑(segO s.toNat) : Int) else (0 : Int)) = if inS s = true
    then (↑(segO s.toNat) : Int) else (0 : Int)) ∧ inS s = inS s ∧ (inS s && inF field) = (inS s && inF field) ∧ inC g node = inC g node ∧ ((if inL g node = true then node - (1 : Int)
    else (0 : Int)) = if inL g node = true then node - (1 : Int) else (0 : Int)) ∧ inL g node = inL g node ∧ inS s = inS s ∧ inG g = inG g ∧ seg = seg ∧ s = s ∧ ((if (inS s && inF
    field) = true then seg else (0 : Int)) = if (inS s && inF field) = true then seg else (0 : Int)) ∧ ((if (inS s && inF field) = true then (5 : Int) * (↑(segO s.toNat) : Int) + field
    else (0 : Int)) = if (inS s && inF field) = true then (5 : Int) * (↑(segO s.toNat) : Int) + field else (0 : Int)) ∧ ((if inC g node = true then seg else (0 : Int)) = if inC g node =
    true then seg else (0 : Int)) ∧ ((if inC g node = true then (5 : Int) * (↑((2 : Nat) ^ g.toNat) : Int) + node else (0 : Int)) = if inC g node = true then (5 : Int) * (↑((2 : Nat) ^
    g.toNat) : Int) + node else (0 : Int)) ∧ True))) ∧ ((!inG g) = false → (inG g = true → ((0 : Int) ≤ g ∧ g ≤ (8 : Int)) ∧ ((-9223372036854775808 : Int) ≤ (7 : Int) * (↑((2 : Nat) ^
    g.toNat) : Int) ∧ (7 : Int) * (↑((2 : Nat) ^ g.toNat) : Int) ≤ (9223372036854775807 : Int)) ∧ (((if inG g = true then (↑((7 : Nat) * (2 : Nat) ^ g.toNat) : Int) else (0 : Int)) !=
    (7 : Int) * (↑((2 : Nat) ^ g.toNat) : Int)) = true → false = true) ∧ (((if inG g = true then (↑((7 : Nat) * (2 : Nat) ^ g.toNat) : Int) else (0 : Int)) != (7 : Int) * (↑((2 : Nat) ^
    g.toNat) : Int)) = false → ∃ (y : Unit), seg = seg ∧ s = s ∧ field = field ∧ g = g ∧ node = node ∧ field = field ∧ g = g ∧ node = node ∧ ((if inS s = true then (↑(segG s.toNat) :
    Int) else (0 : Int)) = if inS s = true then (↑(segG s.toNat) : Int) else (0 : Int)) ∧ ((if inS s = true then (↑(segO s.toNat) : Int) else (0 : Int)) = if inS s = true then (↑(segO
    s.toNat) : Int) else (0 : Int)) ∧ inS s = inS s ∧ (inS s && inF field) = (inS s && inF field) ∧ inC g node = inC g node ∧ ((if inL g node = true then node - (1 : Int) else (0 :
    Int)) = if inL g node = true then node - (1 : Int) else (0 : Int)) ∧ inL g node = inL g node ∧ inS s = inS s ∧ inG g = inG g ∧ seg = seg ∧ s = s ∧ ((if (inS s && inF field) = true
    then seg else (0 : Int)) = if (inS s && inF field) = true then seg else (0 : Int)) ∧ ((if (inS s && inF field) = true then (5 : Int) * (↑(segO s.toNat) : Int) + field else (0 :
    Int)) = if (inS s && inF field) = true then (5 : Int) * (↑(segO s.toNat) : Int) + field else (0 : Int)) ∧ ((if inC g node = true then seg else (0 : Int)) = if inC g node = true then
    seg else (0 : Int)) ∧ ((if inC g node = true then (5 : Int) * (↑((2 : Nat) ^ g.toNat) : Int) + node else (0 : Int)) = if inC g node = true then (5 : Int) * (↑((2 : Nat) ^ g.toNat) :
    Int) + node else (0 : Int)) ∧ True)) ∧ (inG g = false → ∃ (y : Unit), seg = seg ∧ s = s ∧ field = field ∧ g = g ∧ node = node ∧ field = field ∧ g = g ∧ node = node ∧ ((if inS s =
    true then (↑(segG s.toNat) : Int) else (0 : Int)) = if inS s = true then (↑(segG s.toNat) : Int) else (0 : Int)) ∧ ((if inS s = true then (↑(segO s.toNat) : Int) else (0 : Int)) =
    if inS s = true then (↑(segO s.toNat) : Int) else (0 : Int)) ∧ inS s = inS s ∧ (inS s && inF field) = (inS s && inF field) ∧ inC g node = inC g node ∧ ((if inL g node = true then
    node - (1 : Int) else (0 : Int)) = if inL g node = true then node - (1 : Int) else (0 : Int)) ∧ inL g node = inL g node ∧ inS s = inS s ∧ inG g = inG g ∧ seg = seg ∧ s = s ∧ ((if
    (inS s && inF field) = true then seg else (0 : Int)) = if (inS s && inF field) = true then seg else (0 : Int)) ∧ ((if (inS s && inF field) = true then (5 : Int) * (↑(segO s.toNat) :
    Int) + field else (0 : Int)) = if (inS s && inF field) = true then (5 : Int) * (↑(segO s.toNat) : Int) + field else (0 : Int)) ∧ ((if inC g node = true then seg else (0 : Int)) = if
    inC g node = true then seg else (0 : Int)) ∧ ((if inC g node = true then (5 : Int) * (↑((2 : Nat) ^ g.toNat) : Int) + node else (0 : Int)) = if inC g node = true then (5 : Int) *
    (↑((2 : Nat) ^ g.toNat) : Int) + node else (0 : Int)) ∧ True))))))) ∧ ∀ (y : Unit) (ρ : Nat → Value), ((inG g = true → (decide (node ≥ (1 : Int)) = true → ((false == (inC g node ==
    decide (node < (2 : Int) * (↑((2 : Nat) ^ (max (0 : Int) (min g (7 : Int))).toNat) : Int)))) = true → false = true) ∧ ((false == (inC g node == decide (node < (2 : Int) * (↑((2 :
    Nat) ^ (max (0 : Int) (min g (7 : Int))).toNat) : Int)))) = false → (inC g node = true → ((0 : Int) ≤ g ∧ g ≤ (8 : Int)) ∧ ((false == (inL g node == decide (node ≥ (↑((2 : Nat) ^
    g.toNat) : Int)))) = true → false = true) ∧ ((false == (inL g node == decide (node ≥ (↑((2 : Nat) ^ g.toNat) : Int)))) = false → ∃ (y : Unit), seg = seg ∧ s = s ∧ field = field ∧ g
    = g ∧ node = node ∧ field = field ∧ g = g ∧ node = node ∧ ((if inS s = true then (↑(segG s.toNat) : Int) else (0 : Int)) = if inS s = true then (↑(segG s.toNat) : Int) else (0 :
    Int)) ∧ ((if inS s = true then (↑(segO s.toNat) : Int) else (0 : Int)) = if inS s = true then (↑(segO s.toNat) : Int) else (0 : Int)) ∧ inS s = inS s ∧ (inS s && inF field) = (inS s
    && inF field) ∧ inC g node = inC g node ∧ ((if inL g node = true then node - (1 : Int) else (0 : Int)) = if inL g node = true then node - (1 : Int) else (0 : Int)) ∧ inL g node =
    inL g node ∧ inS s = inS s ∧ inG g = inG g ∧ seg = seg ∧ s = s ∧ ((if (inS s && inF field) = true then seg else (0 : Int)) = if (inS s && inF field) = true then seg else (0 : Int))
    ∧ ((if (inS s && inF field) = true then (5 : Int) * (↑(segO s.toNat) : Int) + field else (0 : Int)) = if (inS s && inF field) = true then (5 : Int) * (↑(segO s.toNat) : Int) + field
    else (0 : Int)) ∧ ((if inC g node = true then seg else (0 : Int)) = if inC g node = true then seg else (0 : Int)) ∧ ((if inC g node = true then (5 : Int) * (↑((2 : Nat) ^ g.toNat) :
    Int) + node else (0 : Int)) = if inC g node = true then (5 : Int) * (↑((2 : Nat) ^ g.toNat) : Int) + node else (0 : Int)) ∧ True)) ∧ (inC g node = false → ((false == (inL g node ==
    false)) = true → false = true) ∧ ((false == (inL g node == false)) = false → ∃ (y : Unit), seg = seg ∧ s = s ∧ field = field ∧ g = g ∧ node = node ∧ field = field ∧ g = g ∧ node =
    node ∧ ((if inS s = true then (↑(segG s.toNat) : Int) else (0 : Int)) = if inS s = true then (↑(segG s.toNat) : Int) else (0 : Int)) ∧ ((if inS s = true then (↑(segO s.toNat) : Int)
    else (0 : Int)) = if inS s = true then (↑(segO s.toNat) : Int) else (0 : Int)) ∧ inS s = inS s ∧ (inS s && inF field) = (inS s && inF field) ∧ inC g node = inC g node ∧ ((if inL g
    node = true then node - (1 : Int) else (0 : Int)) = if inL g node = true then node - (1 : Int) else (0 : Int)) ∧ inL g node = inL g node ∧ inS s = inS s ∧ inG g = inG g ∧ seg = seg
    ∧ s = s ∧ ((if (inS s && inF field) = true then seg else (0 : Int)) = if (inS s && inF field) = true then seg else (0 : Int)) ∧ ((if (inS s && inF field) = true then (5 : Int) *
    (↑(segO s.toNat) : Int) + field else (0 : Int)) = if (inS s && inF field) = true then (5 : Int) * (↑(segO s.toNat) : Int) + field else (0 : Int)) ∧ ((if inC g node = true then seg
    else (0 : Int)) = if inC g node = true then seg else (0 : Int)) ∧ ((if inC g node = true then (5 : Int) * (↑((2 : Nat) ^ g.toNat) : Int) + node else (0 : Int)) = if inC g node =
    true then (5 : Int) * (↑((2 : Nat) ^ g.toNat) : Int) + node else (0 : Int)) ∧ True)))) ∧ (decide (node ≥ (1 : Int)) = false → ((false == (inC g node == false)) = true → false =
    true) ∧ ((false == (inC g node == false)) = false → (inC g node = true → ((0 : Int) ≤ g ∧ g ≤ (8 : Int)) ∧ ((false == (inL g node == decide (node ≥ (↑((2 : Nat) ^ g.toNat) : Int))))
    = true → false = true) ∧ ((false == (inL g node == decide (node ≥ (↑((2 : Nat) ^ g.toNat) : Int)))) = false → ∃ (y : Unit), seg = seg ∧ s = s ∧ field = field ∧ g = g ∧ node = node ∧
    field = field ∧ g = g ∧ node = node ∧ ((if inS s = true then (↑(segG s.toNat) : Int) else (0 : Int)) = if inS s = true then (↑(segG s.toNat) : Int) else (0 : Int)) ∧ ((if inS s =
    true then (↑(segO s.toNat) : Int) else (0 : Int)) = if inS s = true then (↑(segO s.toNat) : Int) else (0 : Int)) ∧ inS s = inS s ∧ (inS s && inF field) = (inS s && inF field) ∧ inC
    g node = inC g node ∧ ((if inL g node = true then node - (1 : Int) else (0 : Int)) = if inL g node = true then node - (1 : Int) else (0 : Int)) ∧ inL g node = inL g node ∧ inS s =
    inS s ∧ inG g = inG g ∧ seg = seg ∧ s = s ∧ ((if (inS s && inF field) = true then seg else (0 : Int)) = if (inS s && inF field) = true then seg else (0 : Int)) ∧ ((if (inS s && inF
    field) = true then (5 : Int) * (↑(segO s.toNat) : Int) + field else (0 : Int)) = if (inS s && inF field) = true then (5 : Int) * (↑(segO s.toNat) : Int) + field else (0 : Int)) ∧
    ((if inC g node = true then seg else (0 : Int)) = if inC g node = true then seg else (0 : Int)) ∧ ((if inC g node = true then (5 : Int) * (↑((2 : Nat) ^ g.toNat) : Int) + node else
    (0 : Int)) = if inC g node = true then (5 : Int) * (↑((2 : Nat) ^ g.toNat) : Int) + node else (0 : Int)) ∧ True)) ∧ (inC g node = false → ((false == (inL g node == false)) = true →
    false = true) ∧ ((false == (inL g node == false)) = false → ∃ (y : Unit), seg = seg ∧ s = s ∧ field = field ∧ g = g ∧ node = node ∧ field = field ∧ g = g ∧ node = node ∧ ((if inS s
    = true then (↑(segG s.toNat) : Int) else (0 : Int)) = if inS s = true then (↑(segG s.toNat) : Int) else (0 : Int)) ∧ ((if inS s = true then (↑(segO s.toNat) : Int) else (0 : Int)) =
    if inS s = true then (↑(segO s.toNat) : Int) else (0 : Int)) ∧ inS s = inS s ∧ (inS s && inF field) = (inS s && inF field) ∧ inC g node = inC g node ∧ ((if inL g node = true then
    node - (1 : Int) else (0 : Int)) = if inL g node = true then node - (1 : Int) else (0 : Int)) ∧ inL g node = inL g node ∧ inS s = inS s ∧ inG g = inG g ∧ seg = seg ∧ s = s ∧ ((if
    (inS s && inF field) = true then seg else (0 : Int)) = if (inS s && inF field) = true then seg else (0 : Int)) ∧ ((if (inS s && inF field) = true then (5 : Int) * (↑(segO s.toNat) :
    Int) + field else (0 : Int)) = if (inS s && inF field) = true then (5 : Int) * (↑(segO s.toNat) : Int) + field else (0 : Int)) ∧ ((if inC g node = true then seg else (0 : Int)) = if
    inC g node = true then seg else (0 : Int)) ∧ ((if inC g node = true then (5 : Int) * (↑((2 : Nat) ^ g.toNat) : Int) + node else (0 : Int)) = if inC g node = true then (5 : Int) *
    (↑((2 : Nat) ^ g.toNat) : Int) + node else (0 : Int)) ∧ True))))) ∧ (inG g = false → ((false == (inC g node == false)) = true → false = true) ∧ ((false == (inC g node == false)) =
    false → (inC g node = true → ((0 : Int) ≤ g ∧ g ≤ (8 : Int)) ∧ ((false == (inL g node == decide (node ≥ (↑((2 : Nat) ^ g.toNat) : Int)))) = true → false = true) ∧ ((false == (inL g
    node == decide (node ≥ (↑((2 : Nat) ^ g.toNat) : Int)))) = false → ∃ (y : Unit), seg = seg ∧ s = s ∧ field = field ∧ g = g ∧ node = node ∧ field = field ∧ g = g ∧ node = node ∧ ((if
    inS s = true then (↑(segG s.toNat) : Int) else (0 : Int)) = if inS s = true then (↑(segG s.toNat) : Int) else (0 : Int)) ∧ ((if inS s = true then (↑(segO s.toNat) : Int) else (0 :
    Int)) = if inS s = true then (↑(segO s.toNat) : Int) else (0 : Int)) ∧ inS s = inS s ∧ (inS s && inF field) = (inS s && inF field) ∧ inC g node = inC g node ∧ ((if inL g node = true
    then node - (1 : Int) else (0 : Int)) = if inL g node = true then node - (1 : Int) else (0 : Int)) ∧ inL g node = inL g node ∧ inS s = inS s ∧ inG g = inG g ∧ seg = seg ∧ s = s ∧
    ((if (inS s && inF field) = true then seg else (0 : Int)) = if (inS s && inF field) = true then seg else (0 : Int)) ∧ ((if (inS s && inF field) = true then (5 : Int) * (↑(segO
    s.toNat) : Int) + field else (0 : Int)) = if (inS s && inF field) = true then (5 : Int) * (↑(segO s.toNat) : Int) + field else (0 : Int)) ∧ ((if inC g node = true then seg else (0 :
    Int)) = if inC g node = true then seg else (0 : Int)) ∧ ((if inC g node = true then (5 : Int) * (↑((2 : Nat) ^ g.toNat) : Int) + node else (0 : Int)) = if inC g node = true then (5
    : Int) * (↑((2 : Nat) ^ g.toNat) : Int) + node else (0 : Int)) ∧ True)) ∧ (inC g node = false → ((false == (inL g node == false)) = true → false = true) ∧ ((false == (inL g node ==
    false)) = false → ∃ (y : Unit), seg = seg ∧ s = s ∧ field = field ∧ g = g ∧ node = node ∧ field = field ∧ g = g ∧ node = node ∧ ((if inS s = true then (↑(segG s.toNat) : Int) else
    (0 : Int)) = if inS s = true then (↑(segG s.toNat) : Int) else (0 : Int)) ∧ ((if inS s = true then (↑(segO s.toNat) : Int) else (0 : Int)) = if inS s = true then (↑(segO s.toNat) :
    Int) else (0 : Int)) ∧ inS s = inS s ∧ (inS s && inF field) = (inS s && inF field) ∧ inC g node = inC g node ∧ ((if inL g node = true then node - (1 : Int) else (0 : Int)) = if inL
    g node = true then node - (1 : Int) else (0 : Int)) ∧ inL g node = inL g node ∧ inS s = inS s ∧ inG g = inG g ∧ seg = seg ∧ s = s ∧ ((if (inS s && inF field) = true then seg else (0
    : Int)) = if (inS s && inF field) = true then seg else (0 : Int)) ∧ ((if (inS s && inF field) = true then (5 : Int) * (↑(segO s.toNat) : Int) + field else (0 : Int)) = if (inS s &&
    inF field) = true then (5 : Int) * (↑(segO s.toNat) : Int) + field else (0 : Int)) ∧ ((if inC g node = true then seg else (0 : Int)) = if inC g node = true then seg else (0 : Int))
    ∧ ((if inC g node = true then (5 : Int) * (↑((2 : Nat) ^ g.toNat) : Int) + node else (0 : Int)) = if inC g node = true then (5 : Int) * (↑((2 : Nat) ^ g.toNat) : Int) + node else (0
    : Int)) ∧ True))))) ∧ ∀ (y : Unit) (ρ : Nat → Value), ((inC g node = true → (inL g node = true → (((0 : Int) ≤ g ∧ g ≤ (8 : Int)) ∧ ((-9223372036854775808 : Int) ≤ (5 : Int) * (↑((2
    : Nat) ^ g.toNat) : Int) ∧ (5 : Int) * (↑((2 : Nat) ^ g.toNat) : Int) ≤ (9223372036854775807 : Int)) ∧ ((-9223372036854775808 : Int) ≤ (5 : Int) * (↑((2 : Nat) ^ g.toNat) : Int) +
    node ∧ (5 : Int) * (↑((2 : Nat) ^ g.toNat) : Int) + node ≤ (9223372036854775807 : Int)) ∧ seg = seg ∧ s = s ∧ ((if (inS s && inF field) = true then seg else (0 : Int)) = if (inS s
    && inF field) = true then seg else (0 : Int)) ∧ ((if (inS s && inF field) = true then (5 : Int) * (↑(segO s.toNat) : Int) + field else (0 : Int)) = if (inS s && inF field) = true
    then (5 : Int) * (↑(segO s.toNat) : Int) + field else (0 : Int)) ∧ ((if inC g node = true then seg else (0 : Int)) = if inC g node = true then seg else (0 : Int)) ∧ ((if inC g node
    = true then (5 : Int) * (↑((2 : Nat) ^ g.toNat) : Int) + node else (0 : Int)) = if inC g node = true then (5 : Int) * (↑((2 : Nat) ^ g.toNat) : Int) + node else (0 : Int)) ∧ (false
    == ((if inC g node = true then seg else (0 : Int)) == seg && ((if inC g node = true then (5 : Int) * (↑((2 : Nat) ^ g.toNat) : Int) + node else (0 : Int)) == (5 : Int) * (↑((2 :
    Nat) ^ g.toNat) : Int) + node && true))) = false ∧ (((0 : Int) ≤ g ∧ g ≤ (8 : Int)) ∧ seg = seg ∧ s = s ∧ ((if (inS s && inF field) = true then seg else (0 : Int)) = if (inS s &&
    inF field) = true then seg else (0 : Int)) ∧ ((if (inS s && inF field) = true then (5 : Int) * (↑(segO s.toNat) : Int) + field else (0 : Int)) = if (inS s && inF field) = true then
    (5 : Int) * (↑(segO s.toNat) : Int) + field else (0 : Int)) ∧ ((if inC g node = true then seg else (0 : Int)) = if inC g node = true then seg else (0 : Int)) ∧ ((if inC g node =
    true then (5 : Int) * (↑((2 : Nat) ^ g.toNat) : Int) + node else (0 : Int)) = if inC g node = true then (5 : Int) * (↑((2 : Nat) ^ g.toNat) : Int) + node else (0 : Int)) ∧
    ((-9223372036854775808 : Int) ≤ (↑((2 : Nat) ^ g.toNat) : Int) - (1 : Int) ∧ (↑((2 : Nat) ^ g.toNat) : Int) - (1 : Int) ≤ (9223372036854775807 : Int)) ∧ ((-9223372036854775808 :
    Int) ≤ (↑((2 : Nat) ^ g.toNat) : Int) - (1 : Int) + node ∧ (↑((2 : Nat) ^ g.toNat) : Int) - (1 : Int) + node ≤ (9223372036854775807 : Int)) ∧ (((0 : Int) ≤ g ∧ g ≤ (8 : Int)) ∧ seg
    = seg ∧ s = s ∧ ((if (inS s && inF field) = true then seg else (0 : Int)) = if (inS s && inF field) = true then seg else (0 : Int)) ∧ ((if (inS s && inF field) = true then (5 : Int)
    * (↑(segO s.toNat) : Int) + field else (0 : Int)) = if (inS s && inF field) = true then (5 : Int) * (↑(segO s.toNat) : Int) + field else (0 : Int)) ∧ ((if inC g node = true then seg
    else (0 : Int)) = if inC g node = true then seg else (0 : Int)) ∧ ((if inC g node = true then (5 : Int) * (↑((2 : Nat) ^ g.toNat) : Int) + node else (0 : Int)) = if inC g node =
    true then (5 : Int) * (↑((2 : Nat) ^ g.toNat) : Int) + node else (0 : Int)) ∧ ((-9223372036854775808 : Int) ≤ (↑((2 : Nat) ^ g.toNat) : Int) - (1 : Int) + node - (↑((2 : Nat) ^
    g.toNat) : Int) ∧ (↑((2 : Nat) ^ g.toNat) : Int) - (1 : Int) + node - (↑((2 : Nat) ^ g.toNat) : Int) ≤ (9223372036854775807 : Int)) ∧ ((if inL g node = true then node - (1 : Int)
    else (0 : Int)) != (↑((2 : Nat) ^ g.toNat) : Int) - (1 : Int) + node - (↑((2 : Nat) ^ g.toNat) : Int)) = false ∧ ∃ (y : Unit), seg = seg ∧ s = s ∧ field = field ∧ g = g ∧ node =
    node ∧ field = field ∧ g = g ∧ node = node ∧ ((if inS s = true then (↑(segG s.toNat) : Int) else (0 : Int)) = if inS s = true then (↑(segG s.toNat) : Int) else (0 : Int)) ∧ ((if inS
    s = true then (↑(segO s.toNat) : Int) else (0 : Int)) = if inS s = true then (↑(segO s.toNat) : Int) else (0 : Int)) ∧ inS s = inS s ∧ (inS s && inF field) = (inS s && inF field) ∧
    true = inC g node ∧ ((if inL g node = true then node - (1 : Int) else (0 : Int)) = if inL g node = true then node - (1 : Int) else (0 : Int)) ∧ true = inL g node ∧ inS s = inS s ∧
    inG g = inG g ∧ seg = seg ∧ s = s ∧ ((if (inS s && inF field) = true then seg else (0 : Int)) = if (inS s && inF field) = true then seg else (0 : Int)) ∧ ((if (inS s && inF field) =
    true then (5 : Int) * (↑(segO s.toNat) : Int) + field else (0 : Int)) = if (inS s && inF field) = true then (5 : Int) * (↑(segO s.toNat) : Int) + field else (0 : Int)) ∧ ((if inC g
    node = true then seg else (0 : Int)) = if inC g node = true then seg else (0 : Int)) ∧ ((if inC g node = true then (5 : Int) * (↑((2 : Nat) ^ g.toNat) : Int) + node else (0 : Int))
    = if inC g node = true then (5 : Int) * (↑((2 : Nat) ^ g.toNat) : Int) + node else (0 : Int)) ∧ True) ∧ True) ∧ True) ∧ True) ∧ (inL g node = false → (((0 : Int) ≤ g ∧ g ≤ (8 :
    Int)) ∧ ((-9223372036854775808 : Int) ≤ (5 : Int) * (↑((2 : Nat) ^ g.toNat) : Int) ∧ (5 : Int) * (↑((2 : Nat) ^ g.toNat) : Int) ≤ (9223372036854775807 : Int)) ∧
    ((-9223372036854775808 : Int) ≤ (5 : Int) * (↑((2 : Nat) ^ g.toNat) : Int) + node ∧ (5 : Int) * (↑((2 : Nat) ^ g.toNat) : Int) + node ≤ (9223372036854775807 : Int)) ∧ seg = seg ∧ s
    = s ∧ ((if (inS s && inF field) = true then seg else (0 : Int)) = if (inS s && inF field) = true then seg else (0 : Int)) ∧ ((if (inS s && inF field) = true then (5 : Int) * (↑(segO
    s.toNat) : Int) + field else (0 : Int)) = if (inS s && inF field) = true then (5 : Int) * (↑(segO s.toNat) : Int) + field else (0 : Int)) ∧ ((if inC g node = true then seg else (0 :
    Int)) = if inC g node = true then seg else (0 : Int)) ∧ ((if inC g node = true then (5 : Int) * (↑((2 : Nat) ^ g.toNat) : Int) + node else (0 : Int)) = if inC g node = true then (5
    : Int) * (↑((2 : Nat) ^ g.toNat) : Int) + node else (0 : Int)) ∧ (false == ((if inC g node = true then seg else (0 : Int)) == seg && ((if inC g node = true then (5 : Int) * (↑((2 :
    Nat) ^ g.toNat) : Int) + node else (0 : Int)) == (5 : Int) * (↑((2 : Nat) ^ g.toNat) : Int) + node && true))) = false ∧ ((if inL g node = true then node - (1 : Int) else (0 : Int))
    != (0 : Int)) = false ∧ ∃ (y : Unit), seg = seg ∧ s = s ∧ field = field ∧ g = g ∧ node = node ∧ field = field ∧ g = g ∧ node = node ∧ ((if inS s = true then (↑(segG s.toNat) : Int)
    else (0 : Int)) = if inS s = true then (↑(segG s.toNat) : Int) else (0 : Int)) ∧ ((if inS s = true then (↑(segO s.toNat) : Int) else (0 : Int)) = if inS s = true then (↑(segO
    s.toNat) : Int) else (0 : Int)) ∧ inS s = inS s ∧ (inS s && inF field) = (inS s && inF field) ∧ true = inC g node ∧ ((if inL g node = true then node - (1 : Int) else (0 : Int)) = if
    inL g node = true then node - (1 : Int) else (0 : Int)) ∧ false = inL g node ∧ inS s = inS s ∧ inG g = inG g ∧ seg = seg ∧ s = s ∧ ((if (inS s && inF field) = true then seg else (0
    : Int)) = if (inS s && inF field) = true then seg else (0 : Int)) ∧ ((if (inS s && inF field) = true then (5 : Int) * (↑(segO s.toNat) : Int) + field else (0 : Int)) = if (inS s &&
    inF field) = true then (5 : Int) * (↑(segO s.toNat) : Int) + field else (0 : Int)) ∧ ((if inC g node = true then seg else (0 : Int)) = if inC g node = true then seg else (0 : Int))
    ∧ ((if inC g node = true then (5 : Int) * (↑((2 : Nat) ^ g.toNat) : Int) + node else (0 : Int)) = if inC g node = true then (5 : Int) * (↑((2 : Nat) ^ g.toNat) : Int) + node else (0
    : Int)) ∧ True) ∧ True)) ∧ (inC g node = false → (inL g node = true → (false == ((if inC g node = true then seg else (0 : Int)) == (0 : Int) && ((if inC g node = true then (5 : Int)
    * (↑((2 : Nat) ^ g.toNat) : Int) + node else (0 : Int)) == (0 : Int) && true))) = false ∧ (((0 : Int) ≤ g ∧ g ≤ (8 : Int)) ∧ seg = seg ∧ s = s ∧ ((if (inS s && inF field) = true
    then seg else (0 : Int)) = if (inS s && inF field) = true then seg else (0 : Int)) ∧ ((if (inS s && inF field) = true then (5 : Int) * (↑(segO s.toNat) : Int) + field else (0 :
    Int)) = if (inS s && inF field) = true then (5 : Int) * (↑(segO s.toNat) : Int) + field else (0 : Int)) ∧ ((if inC g node = true then seg else (0 : Int)) = if inC g node = true then
    seg else (0 : Int)) ∧ ((if inC g node = true then (5 : Int) * (↑((2 : Nat) ^ g.toNat) : Int) + node else (0 : Int)) = if inC g node = true then (5 : Int) * (↑((2 : Nat) ^ g.toNat) :
    Int) + node else (0 : Int)) ∧ ((-9223372036854775808 : Int) ≤ (↑((2 : Nat) ^ g.toNat) : Int) - (1 : Int) ∧ (↑((2 : Nat) ^ g.toNat) : Int) - (1 : Int) ≤ (9223372036854775807 : Int))
    ∧ ((-9223372036854775808 : Int) ≤ (↑((2 : Nat) ^ g.toNat) : Int) - (1 : Int) + node ∧ (↑((2 : Nat) ^ g.toNat) : Int) - (1 : Int) + node ≤ (9223372036854775807 : Int)) ∧ (((0 : Int)
    ≤ g ∧ g ≤ (8 : Int)) ∧ seg = seg ∧ s = s ∧ ((if (inS s && inF field) = true then seg else (0 : Int)) = if (inS s && inF field) = true then seg else (0 : Int)) ∧ ((if (inS s && inF
    field) = true then (5 : Int) * (↑(segO s.toNat) : Int) + field else (0 : Int)) = if (inS s && inF field) = true then (5 : Int) * (↑(segO s.toNat) : Int) + field else (0 : Int)) ∧
    ((if inC g node = true then seg else (0 : Int)) = if inC g node = true then seg else (0 : Int)) ∧ ((if inC g node = true then (5 : Int) * (↑((2 : Nat) ^ g.toNat) : Int) + node else
    (0 : Int)) = if inC g node = true then (5 : Int) * (↑((2 : Nat) ^ g.toNat) : Int) + node else (0 : Int)) ∧ ((-9223372036854775808 : Int) ≤ (↑((2 : Nat) ^ g.toNat) : Int) - (1 : Int)
    + node - (↑((2 : Nat) ^ g.toNat) : Int) ∧ (↑((2 : Nat) ^ g.toNat) : Int) - (1 : Int) + node - (↑((2 : Nat) ^ g.toNat) : Int) ≤ (9223372036854775807 : Int)) ∧ ((if inL g node = true
    then node - (1 : Int) else (0 : Int)) != (↑((2 : Nat) ^ g.toNat) : Int) - (1 : Int) + node - (↑((2 : Nat) ^ g.toNat) : Int)) = false ∧ ∃ (y : Unit), seg = seg ∧ s = s ∧ field =
    field ∧ g = g ∧ node = node ∧ field = field ∧ g = g ∧ node = node ∧ ((if inS s = true then (↑(segG s.toNat) : Int) else (0 : Int)) = if inS s = true then (↑(segG s.toNat) : Int)
    else (0 : Int)) ∧ ((if inS s = true then (↑(segO s.toNat) : Int) else (0 : Int)) = if inS s = true then (↑(segO s.toNat) : Int) else (0 : Int)) ∧ inS s = inS s ∧ (inS s && inF
    field) = (inS s && inF field) ∧ false = inC g node ∧ ((if inL g node = true then node - (1 : Int) else (0 : Int)) = if inL g node = true then node - (1 : Int) else (0 : Int)) ∧ true
    = inL g node ∧ inS s = inS s ∧ inG g = inG g ∧ seg = seg ∧ s = s ∧ ((if (inS s && inF field) = true then seg else (0 : Int)) = if (inS s && inF field) = true then seg else (0 :
    Int)) ∧ ((if (inS s && inF field) = true then (5 : Int) * (↑(segO s.toNat) : Int) + field else (0 : Int)) = if (inS s && inF field) = true then (5 : Int) * (↑(segO s.toNat) : Int) +
    field else (0 : Int)) ∧ ((if inC g node = true then seg else (0 : Int)) = if inC g node = true then seg else (0 : Int)) ∧ ((if inC g node = true then (5 : Int) * (↑((2 : Nat) ^
    g.toNat) : Int) + node else (0 : Int)) = if inC g node = true then (5 : Int) * (↑((2 : Nat) ^ g.toNat) : Int) + node else (0 : Int)) ∧ True) ∧ True) ∧ True) ∧ (inL g node = false →
    (false == ((if inC g node = true then seg else (0 : Int)) == (0 : Int) && ((if inC g node = true then (5 : Int) * (↑((2 : Nat) ^ g.toNat) : Int) + node else (0 : Int)) == (0 : Int)
    && true))) = false ∧ ((if inL g node = true then node - (1 : Int) else (0 : Int)) != (0 : Int)) = false ∧ ∃ (y : Unit), seg = seg ∧ s = s ∧ field = field ∧ g = g ∧ node = node ∧
    field = field ∧ g = g ∧ node = node ∧ ((if inS s = true then (↑(segG s.toNat) : Int) else (0 : Int)) = if inS s = true then (↑(segG s.toNat) : Int) else (0 : Int)) ∧ ((if inS s =
    true then (↑(segO s.toNat) : Int) else (0 : Int)) = if inS s = true then (↑(segO s.toNat) : Int) else (0 : Int)) ∧ inS s = inS s ∧ (inS s && inF field) = (inS s && inF field) ∧
    false = inC g node ∧ ((if inL g node = true then node - (1 : Int) else (0 : Int)) = if inL g node = true then node - (1 : Int) else (0 : Int)) ∧ false = inL g node ∧ inS s = inS s ∧
    inG g = inG g ∧ seg = seg ∧ s = s ∧ ((if (inS s && inF field) = true then seg else (0 : Int)) = if (inS s && inF field) = true then seg else (0 : Int)) ∧ ((if (inS s && inF field) =
    true then (5 : Int) * (↑(segO s.toNat) : Int) + field else (0 : Int)) = if (inS s && inF field) = true then (5 : Int) * (↑(segO s.toNat) : Int) + field else (0 : Int)) ∧ ((if inC g
    node = true then seg else (0 : Int)) = if inC g node = true then seg else (0 : Int)) ∧ ((if inC g node = true then (5 : Int) * (↑((2 : Nat) ^ g.toNat) : Int) + node else (0 : Int))
    = if inC g node = true then (5 : Int) * (↑((2 : Nat) ^ g.toNat) : Int) + node else (0 : Int)) ∧ True))) ∧ ∀ (y : Unit) (ρ : Nat → Value), ((!inS s) = true → ((((if inS s = true then
    (↑(segG s.toNat) : Int) else (0 : Int)) + if inS s = true then (↑(segO s.toNat) : Int) else (0 : Int)) + (0 : Int) == (0 : Int)) = true → (true == ((if (inS s && inF field) = true
    then seg else (0 : Int)) == (0 : Int) && ((if (inS s && inF field) = true then (5 : Int) * (↑(segO s.toNat) : Int) + field else (0 : Int)) == (0 : Int) && true))) = true) ∧ ((((if
    inS s = true then (↑(segG s.toNat) : Int) else (0 : Int)) + if inS s = true then (↑(segO s.toNat) : Int) else (0 : Int)) + (0 : Int) == (0 : Int)) = false → false = true)) ∧ ((!inS
    s) = false → ((0 : Int) ≤ s ∧ s ≤ (254 : Int)) ∧ (((inS s && inF field) = true → ((if inS s = true then (↑(segG s.toNat) : Int) else (0 : Int)) != (↑(segG s.toNat) : Int)) = false ∧
    ((if inS s = true then (↑(segO s.toNat) : Int) else (0 : Int)) != (↑(segO s.toNat) : Int)) = false ∧ (((0 : Int) ≤ s ∧ s ≤ (254 : Int)) ∧ ((-9223372036854775808 : Int) ≤ (5 : Int) *
    (↑(segO s.toNat) : Int) ∧ (5 : Int) * (↑(segO s.toNat) : Int) ≤ (9223372036854775807 : Int)) ∧ ((-9223372036854775808 : Int) ≤ (5 : Int) * (↑(segO s.toNat) : Int) + field ∧ (5 :
    Int) * (↑(segO s.toNat) : Int) + field ≤ (9223372036854775807 : Int)) ∧ seg = seg ∧ s = s ∧ ((if (inS s && inF field) = true then seg else (0 : Int)) = if (inS s && inF field) =
    true then seg else (0 : Int)) ∧ ((if (inS s && inF field) = true then (5 : Int) * (↑(segO s.toNat) : Int) + field else (0 : Int)) = if (inS s && inF field) = true then (5 : Int) *
    (↑(segO s.toNat) : Int) + field else (0 : Int)) ∧ ((if inC g node = true then seg else (0 : Int)) = if inC g node = true then seg else (0 : Int)) ∧ ((if inC g node = true then (5 :
    Int) * (↑((2 : Nat) ^ g.toNat) : Int) + node else (0 : Int)) = if inC g node = true then (5 : Int) * (↑((2 : Nat) ^ g.toNat) : Int) + node else (0 : Int)) ∧ (false == ((if (inS s &&
    inF field) = true then seg else (0 : Int)) == seg && ((if (inS s && inF field) = true then (5 : Int) * (↑(segO s.toNat) : Int) + field else (0 : Int)) == (5 : Int) * (↑(segO
    s.toNat) : Int) + field && true))) = false ∧ ∃ (y : Unit), seg = seg ∧ s = s ∧ field = field ∧ g = g ∧ node = node ∧ field = field ∧ g = g ∧ node = node ∧ ((if inS s = true then
    (↑(segG s.toNat) : Int) else (0 : Int)) = if inS s = true then (↑(segG s.toNat) : Int) else (0 : Int)) ∧ ((if inS s = true then (↑(segO s.toNat) : Int) else (0 : Int)) = if inS s =
    true then (↑(segO s.toNat) : Int) else (0 : Int)) ∧ inS s = inS s ∧ true = (inS s && inF field) ∧ inC g node = inC g node ∧ ((if inL g node = true then node - (1 : Int) else (0 :
    Int)) = if inL g node = true then node - (1 : Int) else (0 : Int)) ∧ inL g node = inL g node ∧ inS s = inS s ∧ inG g = inG g ∧ (↑(segG s.toNat) : Int) = (↑(segG s.toNat) : Int) ∧
    (↑(segO s.toNat) : Int) = (↑(segO s.toNat) : Int) ∧ seg = seg ∧ s = s ∧ ((if (inS s && inF field) = true then seg else (0 : Int)) = if (inS s && inF field) = true then seg else (0 :
    Int)) ∧ ((if (inS s && inF field) = true then (5 : Int) * (↑(segO s.toNat) : Int) + field else (0 : Int)) = if (inS s && inF field) = true then (5 : Int) * (↑(segO s.toNat) : Int) +
    field else (0 : Int)) ∧ ((if inC g node = true then seg else (0 : Int)) = if inC g node = true then seg else (0 : Int)) ∧ ((if inC g node = true then (5 : Int) * (↑((2 : Nat) ^
    g.toNat) : Int) + node else (0 : Int)) = if inC g node = true then (5 : Int) * (↑((2 : Nat) ^ g.toNat) : Int) + node else (0 : Int)) ∧ True) ∧ True) ∧ ((inS s && inF field) = false
    → ((if inS s = true then (↑(segG s.toNat) : Int) else (0 : Int)) != (↑(segG s.toNat) : Int)) = false ∧ ((if inS s = true then (↑(segO s.toNat) : Int) else (0 : Int)) != (↑(segO
    s.toNat) : Int)) = false ∧ (false == ((if (inS s && inF field) = true then seg else (0 : Int)) == (0 : Int) && ((if (inS s && inF field) = true then (5 : Int) * (↑(segO s.toNat) :
    Int) + field else (0 : Int)) == (0 : Int) && true))) = false ∧ ∃ (y : Unit), seg = seg ∧ s = s ∧ field = field ∧ g = g ∧ node = node ∧ field = field ∧ g = g ∧ node = node ∧ ((if inS
    s = true then (↑(segG s.toNat) : Int) else (0 : Int)) = if inS s = true then (↑(segG s.toNat) : Int) else (0 : Int)) ∧ ((if inS s = true then (↑(segO s.toNat) : Int) else (0 : Int))
    = if inS s = true then (↑(segO s.toNat) : Int) else (0 : Int)) ∧ inS s = inS s ∧ false = (inS s && inF field) ∧ inC g node = inC g node ∧ ((if inL g node = true then node - (1 :
    Int) else (0 : Int)) = if inL g node = true then node - (1 : Int) else (0 : Int)) ∧ inL g node = inL g node ∧ inS s = inS s ∧ inG g = inG g ∧ (↑(segG s.toNat) : Int) = (↑(segG
    s.toNat) : Int) ∧ (↑(segO s.toNat) : Int) = (↑(segO s.toNat) : Int) ∧ seg = seg ∧ s = s ∧ ((if (inS s && inF field) = true then seg else (0 : Int)) = if (inS s && inF field) = true
    then seg else (0 : Int)) ∧ ((if (inS s && inF field) = true then (5 : Int) * (↑(segO s.toNat) : Int) + field else (0 : Int)) = if (inS s && inF field) = true then (5 : Int) *
    (↑(segO s.toNat) : Int) + field else (0 : Int)) ∧ ((if inC g node = true then seg else (0 : Int)) = if inC g node = true then seg else (0 : Int)) ∧ ((if inC g node = true then (5 :
    Int) * (↑((2 : Nat) ^ g.toNat) : Int) + node else (0 : Int)) = if inC g node = true then (5 : Int) * (↑((2 : Nat) ^ g.toNat) : Int) + node else (0 : Int)) ∧ True)) ∧ ∀ (y : Unit) (ρ
    : Nat → Value), ((0 : Int) ≤ s ∧ s ≤ (254 : Int)) ∧ (0 : Nat) < segG s.toNat + (1 : Nat) ∧ ∀ (cap : Nat), segG s.toNat + (1 : Nat) ≤ cap → ((0 : Int) != (↑(segG s.toNat + (1 : Nat))
    : Int)) = false ∧ (∃ (y : { i : Nat // i ≤ segG s.toNat + (1 : Nat) }), seg = seg ∧ s = s ∧ field = field ∧ g = g ∧ node = node ∧ field = field ∧ g = g ∧ node = node ∧ ((if inS s =
    true then (↑(segG s.toNat) : Int) else (0 : Int)) = if inS s = true then (↑(segG s.toNat) : Int) else (0 : Int)) ∧ ((if inS s = true then (↑(segO s.toNat) : Int) else (0 : Int)) =
    if inS s = true then (↑(segO s.toNat) : Int) else (0 : Int)) ∧ inS s = inS s ∧ (inS s && inF field) = (inS s && inF field) ∧ inC g node = inC g node ∧ ((if inL g node = true then
    node - (1 : Int) else (0 : Int)) = if inL g node = true then node - (1 : Int) else (0 : Int)) ∧ inL g node = inL g node ∧ inS s = inS s ∧ inG g = inG g ∧ (↑(segG s.toNat) : Int) =
    (↑(segG s.toNat) : Int) ∧ (↑(segO s.toNat) : Int) = (↑(segO s.toNat) : Int) ∧ (0 : Nat) = (0 : Nat) ∧ segG s.toNat + (1 : Nat) = segG s.toNat + (1 : Nat) ∧ cap = cap ∧ seg = seg ∧ s
    = s ∧ ((if (inS s && inF field) = true then seg else (0 : Int)) = if (inS s && inF field) = true then seg else (0 : Int)) ∧ ((if (inS s && inF field) = true then (5 : Int) * (↑(segO
    s.toNat) : Int) + field else (0 : Int)) = if (inS s && inF field) = true then (5 : Int) * (↑(segO s.toNat) : Int) + field else (0 : Int)) ∧ ((if inC g node = true then seg else (0 :
    Int)) = if inC g node = true then seg else (0 : Int)) ∧ ((if inC g node = true then (5 : Int) * (↑((2 : Nat) ^ g.toNat) : Int) + node else (0 : Int)) = if inC g node = true then (5
    : Int) * (↑((2 : Nat) ^ g.toNat) : Int) + node else (0 : Int)) ∧ segG s.toNat + (1 : Nat) = segG s.toNat + (1 : Nat) ∧ cap = cap ∧ pathF' s.toNat = pathF' s.toNat ∧ (↑y.val : Int) =
    (0 : Int) ∧ True) ∧ ∀ (y : { i : Nat // i ≤ segG s.toNat + (1 : Nat) }) (ρ : Nat → Value), (decide ((↑y.val : Int) < (0 : Int)) = true → ((0 : Int) ≤ (↑y.val : Int) ∧ (↑y.val : Int)
    < (↑(segG s.toNat + (1 : Nat)) : Int)) ∧ addO true (0 : Nat) (↑y.val : Int).toNat < segG s.toNat + (1 : Nat) ∧ False ∧ True) ∧ (decide ((↑y.val : Int) < (0 : Int)) = false → true =
    true)))) ∧ True) ∧ True) := by
  kernel_rfl
theorem all (seg s field g node : Int) (h0 : _) (h1 : _) (h2 : _) (h3 : _) (h4 : _) : callN Try.prog tbl (fun _ _ => false) 100 20 7 [.agg [u64B seg h0, i64B s h1, i64B field h2, i64B g h3, i64B node h4]] ⟨[], 0⟩ (script s g) (fun v _ _ => retTrue v) := by
  rw [vc]
  have hS : inS s = true → 0 ≤ s ∧ s ≤ 254 ∧ segG s.toNat ≤ 7 ∧ segO s.toNat ≤ 254 := fun a => by
    have := inS_yes a
    have h2 := seg_facts (s := s.toNat) (by omega)
    refine ⟨this.1, this.2, h2.1, ?_⟩
    unfold segO
    omega
  have hG : inG g = true → 0 ≤ g ∧ g ≤ 7 ∧ 2 ^ g.toNat ≤ 128 ∧ 1 ≤ 2 ^ g.toNat ∧ max 0 (min g 7) = g := fun a => by
    have := inG_yes a
    have h2 := pow_le (k := g.toNat) (by omega)
    exact ⟨this.1, this.2, h2.1, h2.2, by omega⟩
  have hF : inF field = true → 0 ≤ field ∧ field ≤ 4 := inF_yes
  have hC : inC g node = true → inG g = true ∧ 1 ≤ node ∧ node < 2 * ((2 ^ g.toNat : Nat) : Int) := inC_yes
  have hL : inL g node = true → inC g node = true ∧ ((2 ^ g.toNat : Nat) : Int) ≤ node := fun a => by
    obtain ⟨h1, h2, h3⟩ := inL_yes a
    refine ⟨?_, h2⟩
    have := (hG h1).2.2.2.1
    simp only [inC, h1, Bool.true_and, Bool.and_eq_true, decide_eq_true_eq]
    omega
  repeat' first
    | with_reducible apply And.intro
    | with_reducible exact trivial
    | intro _
    | with_reducible exact Eq.refl _
    | with_reducible apply Exists.intro ()
    | with_reducible refine Exists.intro ⟨Subtype.val ‹{i : Nat // i ≤ segG s.toNat + 1}› + 1, ?_⟩ ?_
    | with_reducible apply Exists.intro ⟨0, Nat.zero_le _⟩
  all_goals first
    | contradiction
    | omega
    | (simp_all; done)
    | (have h1 := hG ‹inG g = true›; omega)
    | (have h1 := hC ‹inC g node = true›; have h2 := hG h1.1; omega)
    | (have h1 := hS ‹inS s = true›; omega)
    | (have h3 := ‹(inS s && inF field) = true›; rw [Bool.and_eq_true] at h3; have h1 := hS h3.1; have h2 := hF h3.2; omega)
    | (have h1 := hL ‹inL g node = true›; simp_all; done)
    | (have hm := (hG ‹inG g = true›).2.2.2.2; simp only [hm] at *; simp_all [inC]; done)
    | (simp_all [inC, inL]; done)
    | (simp only [addO_eq]; have := of_decide_eq_true ‹decide (_ < _) = true›; omega)
    | (show segG s.toNat + 1 - (_ + 1) < _; have := of_decide_eq_true ‹decide (_ < _) = true›; omega)
    | (simp_all [inS, inG, inF, inC, inL]; done)
    | (simp_all [inS, inG, inF, inC, inL]; omega)

end Go.Proofs.Ytohijcgbfcahhaa.dirTellsW
namespace Go.Proofs.Ytohijcgbfcahhaa
open Go Go.RowKit
theorem dirTells_all (seg s field g node : Int) (h0 : 0 ≤ seg ∧ seg ≤ 18446744073709551615) (h1 : -9223372036854775808 ≤ s ∧ s ≤ 9223372036854775807) (h2 : -9223372036854775808 ≤ field ∧ field ≤ 9223372036854775807) (h3 : -9223372036854775808 ≤ g ∧ g ≤ 9223372036854775807) (h4 : -9223372036854775808 ≤ node ∧ node ≤ 9223372036854775807) (W : World) :
    Calls Try.prog 7 #[.agg #[.int .u64 seg, .int .i64 s, .int .i64 field, .int .i64 g, .int .i64 node]] W fun e w' => e = .returned (.bool true) ∧ Below W.heap.size W w' :=
  law_true (dirTellsW.all seg s field g node h0 h1 h2 h3 h4) W
end Go.Proofs.Ytohijcgbfcahhaa
