/- HoldWins: the states of its loop, for fetches. -/
import Derived.Test.YtgiakcepgbpchaaHoldW
namespace Go.Proofs.Ytgiakcepgbpchaa
open Go Go.RowKit

structure FS where
  k : Nat
  A : Ar
  held : Bool
  cap : Nat
structure FtOk (l : Nat) (s : FS) : Prop where
  k : s.k ≤ l
  inv : HInv s.A
inductive FY (l : Nat) where
  | hd (z : {s : FS // FtOk l s})
  | lk (z : {s : FS // FtOk l s ∧ (s.A.rd 65537 4 : Int) = 131074})
  | r0 (z : {s : FS // FtOk l s ∧ s.held = true})
  | r1 (z : {s : FS // FtOk l s ∧ s.held = true ∧ 1 ≤ s.cap})
  | nw (z : {s : FS // FtOk l s ∧ s.held = true ∧ 2 ≤ s.cap})
  | nc (z : {s : FS // FtOk l s})
def FY.s {l : Nat} : FY l → FS
  | .hd z => z.1
  | .lk z => z.1
  | .r0 z => z.1
  | .r1 z => z.1
  | .nw z => z.1
  | .nc z => z.1
def embsF (l : Nat) : List (Emb (FY l)) := [⟨_, FY.hd⟩, ⟨_, FY.lk⟩, ⟨_, FY.r0⟩, ⟨_, FY.r1⟩, ⟨_, FY.nw⟩, ⟨_, FY.nc⟩]
theorem embsF_cover {l : Nat} (y : FY l) : coverE y (embsF l) := by
  cases y with
  | hd z => exact .inl ⟨z, rfl⟩
  | lk z => exact .inr (.inl ⟨z, rfl⟩)
  | r0 z => exact .inr (.inr (.inl ⟨z, rfl⟩))
  | r1 z => exact .inr (.inr (.inr (.inl ⟨z, rfl⟩)))
  | nw z => exact .inr (.inr (.inr (.inr (.inl ⟨z, rfl⟩))))
  | nc z => exact .inr (.inr (.inr (.inr (.inr (.inl ⟨z, rfl⟩)))))
def fetchSC (f : SC) (r : Int) (words : SC) (out : Int) : List SC := [f, .ptr 26 0, .int true .u64 65537, .int true .i64 0, .int false .u64 r, .int true .u64 131074, .int true .i64 2, words, .int true .i64 out]
def headF14 (r : Int) (s : FS) (f words : SC) (out : Int) (more : List (Nat × SO XE)) : List (Nat × SV) × List (Nat × SO XE) :=
  ([(15, .c (.boo false s.held)), (72, .c (.int false .i64 (s.k : Int)))], (26, arO s.A) :: (97, .cells (fetchSC f r words out) 165) :: more)
def invF (l : Nat) (r : Int) (n : Nat) : FY l → List (Nat × SV) × List (Nat × SO XE)
  | .hd z => headF14 r z.1 (.fn (.func 103) [.ptr 97 0] []) .nls 0 []
  | .lk z => headF14 r z.1 (.fn (.func 140) [.ptr 97 0] []) .nls 0 []
  | .r0 z => headF14 r z.1 (.fn (.func 174) [.ptr 97 0] []) .nls 0 []
  | .r1 z => headF14 r z.1 (.fn (.func 174) [.ptr 97 0] []) (.sli n 1 true 0 true 1 z.1.cap) 0 [(n, .row 25 1 1 z.1.cap [.int true .u64 1])]
  | .nw z => headF14 r z.1 (.raw .nilFunc) (.sli n 1 true 0 true 2 z.1.cap) 1 [(n, .row 25 1 2 z.1.cap [.int true .u64 1, .int true .u64 2])]
  | .nc z => headF14 r z.1 (.raw .nilFunc) .nls 2 []
def selF (_ : SF) (h : SH XE) : Nat := match h.get 97 with
  | some (.cells (.fn (.func n) _ _ :: _ :: _ :: _ :: _ :: _ :: _ :: .nls :: _) _) => bif Nat.beq n 103 then 0 else bif Nat.beq n 140 then 1 else 2
  | some (.cells (.fn (.func _) _ _ :: _) _) => 3
  | some (.cells (_ :: _ :: _ :: _ :: _ :: _ :: _ :: .nls :: _) _) => 5
  | _ => 4
def loopF (l : Nat) (r : Int) : Scr XE := .invs (liveN [0, 2, 7, 10, 11, 13, 14, 70, 71]) [22, 26, 27, 35, 60, 66, 68, 69, 88, 97, 99, 100] (FY l) (embsF l) selF (invF l r) (fun y => l - y.s.k) (fun _ => bothN 12)
theorem FtOk.next {l : Nat} {s : FS} (h : FtOk l s) (hlt : (s.k : Int) < (l : Int)) {A : Ar} {held : Bool} {cap : Nat} (hA : HInv A) : FtOk l ⟨s.k + 1, A, held, cap⟩ :=
  ⟨by have : s.k < l := by omega
      exact this, hA⟩
theorem FtOk.zero {l : Nat} {A : Ar} {held : Bool} {cap : Nat} (hA : HInv A) : FtOk l ⟨0, A, held, cap⟩ := ⟨Nat.zero_le _, hA⟩
theorem rd4_rootR {A : Ar} {y : Int} (h : (A.rd 65537 4 : Int) = 131074) : ((A.write 0 0 y).read.read.read.rd 65537 4 : Int) = 131074 := by
  show ((A.write 0 0 y).rd 65537 4 : Int) = 131074
  rw [rd_write y (has_fixed0 A), if_neg (fun e => absurd e.1 (by decide))]; exact h
theorem rd4_holdR {A : Ar} (h : HInv A) : ((A.write 65537 4 131074).read.read.read.rd 65537 4 : Int) = 131074 := by
  show ((A.write 65537 4 131074).rd 65537 4 : Int) = 131074
  rw [rd_write _ h.h4, if_pos ⟨rfl, rfl⟩]
  rfl
end Go.Proofs.Ytgiakcepgbpchaa
