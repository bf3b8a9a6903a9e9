/- A claim as plain data: what it holds, what a step makes of it and of the arena. -/
import Derived.Test.YtgiakcepgbpchaaParQ
import Derived.Test.YtgiakcepgbpchaaSumDir
import Derived.Test.YtgiakcepgbpchaaBaseC
set_option linter.all false
namespace Go.Proofs.Ytgiakcepgbpchaa
open Go Go.RowKit
set_option maxRecDepth 100000

/-- What comes next (0 look, 1 lay, 2 install, 3 drop, 4 take, else nothing); the rest as in the program. -/
structure Clm where
  ph : Nat
  tok : Nat
  seg : Nat
  slot : Nat
  g : Nat
  priv : Nat
  got : Bool
  e : Nat
def clmGear : Nat → SC
  | 0 => .fn (.func 147) [.ptr 0 0] []
  | 1 => .fn (.func 166) [.ptr 0 0] []
  | 2 => .fn (.func 177) [.ptr 0 0] []
  | 3 => .fn (.func 182) [.ptr 0 0] []
  | 4 => .fn (.func 148) [.ptr 0 0] []
  | _ => .raw .nilFunc
def clmHeap (x : Clm) (_ : Un) : SH XP := [(0, .cells [clmGear x.ph, .ptr 1 0, .int false .u64 (x.tok : Int), .int false .u64 (x.seg : Int), .int false .i64 (x.slot : Int), .int false .i64 (x.g : Int), .int false .u64 (x.priv : Int), .boo false x.got, .int false .i64 (x.e : Int)] 179)]
def clmH : Hid XP := ⟨Clm, Un, clmHeap⟩
abbrev XM : EXT := XP.hid clmH
def clmOn (x : Clm) : Clm := if 254 < x.slot then { x with e := 12, ph := 5 } else if segO x.slot = 0 then { x with g := segG x.slot, ph := 0 } else { x with ph := 4 }
def zerosG (g : Nat) : List Nat := natsOf (7 * 2 ^ g) fun _ => 0
def clmStep (x : Clm) (A : PA) : Clm := match x.ph with
  | 0 => { x with seg := A.rd 0 ((x.g : Int) + 1), ph := if A.rd 0 ((x.g : Int) + 1) = 0 then 1 else 4 }
  | 1 => { x with priv := A.hdl, ph := 2 }
  | 2 => if A.rd 0 ((x.g : Int) + 1) = 0 then { x with seg := x.priv, priv := 0, ph := 4 } else { x with ph := 3 }
  | 4 => if A.rd (x.seg : Nat) (5 * (segO x.slot : Nat) : Int) = 0 then { x with got := true, ph := 5 } else clmOn { x with slot := x.slot + 1 }
  | _ => x
def clmA (x : Clm) (A : PA) : PA := match x.ph with
  | 0 => A.read
  | 1 => A.lay (zerosG x.g)
  | 2 => A.swapQ 0 ((x.g : Int) + 1) 0 (x.priv : Nat)
  | 4 => A.swapQ (x.seg : Nat) (5 * (segO x.slot : Nat) : Int) 0 (x.tok : Nat)
  | _ => A
def clmOk (x : Clm) (A : PA) : Prop := match x.ph with
  | 0 => x.g < 8 ∧ A.Has 0 ((x.g : Int) + 1)
  | 1 => x.g < 8 ∧ A.used + 7 * 2 ^ x.g ≤ A.cap ∧ A.bk = [] ∧ A.births < 268435455
  | 2 => x.g < 8 ∧ A.Has 0 ((x.g : Int) + 1) ∧ x.priv < 18446744073709551616
  | 3 => False
  | 4 => x.slot ≤ 254 ∧ A.Has (x.seg : Nat) (5 * (segO x.slot : Nat) : Int) ∧ x.tok < 18446744073709551616
  | _ => True
/-- The shape that a claim in memory has. -/
def selClm (h : SH XP) : Nat := match h.get 0 with
  | some (.cells (.fn (.func n) _ _ :: _) _) => bif Nat.beq n 147 then 0 else bif Nat.beq n 166 then 1 else bif Nat.beq n 177 then 2 else bif Nat.beq n 182 then 3 else 4
  | _ => 5
def clmAny (P : Clm → Prop) (n : Nat) : Prop := ∃ (tok seg slot g priv : Nat) (got : Bool) (e : Nat), P ⟨n, tok, seg, slot, g, priv, got, e⟩
def clmPost (x : Clm) (A : PA) (v : SV) (m : MP) : Prop := forceN (selClm m.hp) (clmAny fun y => Is y x ∧ outM (.tup []) (clmHeap y .mk ++ [(1, parO A)]) v m)
theorem clmPost_of {x : Clm} {A : PA} {v : SV} {m : MP} (h : clmPost x A v m) : outM (.tup []) (clmHeap x .mk ++ [(1, parO A)]) v m := by
  unfold clmPost at h
  rw [forceN_eq] at h
  obtain ⟨tok, seg, slot, g, priv, got, e, hi, h⟩ := h
  cases hi
  exact h
end Go.Proofs.Ytgiakcepgbpchaa
