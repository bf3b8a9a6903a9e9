/- HoldWins: the states of its loop, plainly. No program in sight but in the shapes. -/
import Derived.Test.YtgiakcepgbpchaaFirst14
import Derived.Test.YtgiakcepgbpchaaWords
namespace Go.Proofs.Ytgiakcepgbpchaa
open Go Go.RowKit

def first14X : Smry Try.prog XE := firstS 25 (fun W => by have h := law_trueR first14 W; exact h)
def tblG : List (Smry Try.prog XE) := [first14X, segsY, wordS, fixedS, segS, newX, layX true, readX, writeX, stepX, doneX, enterX, exitX, faultsX, tallyX, leftX]
def bothN : Nat → Scr XE
  | 0 => .nil
  | n + 1 => .both (bothN n) (bothN n)

theorem has_fixed (A : Ar) {i : Nat} (h : i < 9) : A.Has 0 (i : Int) := ⟨Int.le_refl 0, by decide, Int.natCast_nonneg i, by
  unfold Ar.word
  rw [Int.toNat_natCast, if_pos (by rfl), if_pos h]
  rfl⟩
theorem rd_write {A : Ar} {h i : Int} (y : Int) (hs : A.Has h i) (k j : Int) : (A.write h i y).rd k j = if k.toNat = h.toNat ∧ j.toNat = i.toNat then y.toNat else A.rd k j := by
  unfold Ar.rd
  rw [Ar.word_write A y hs]
  split <;> rfl
theorem has_write {A : Ar} {h i : Int} (y : Int) (hs : A.Has h i) {k j : Int} (hk : A.Has k j) : (A.write h i y).Has k j := ⟨hk.1, hk.2.1, hk.2.2.1, by
  rw [Ar.word_write A y hs]
  split
  · rfl
  · exact hk.2.2.2⟩

/-- What holds of the arena all the time: the slot's holds, the block's words, the root is a word. -/
structure HInv (A : Ar) : Prop where
  h3 : A.Has 65537 3
  h4 : A.Has 65537 4
  b0 : A.Has 131074 0
  b1 : A.Has 131074 1
  v0 : A.rd 131074 0 = 1
  v1 : A.rd 131074 1 = 2
  tw : (A.rd 0 0 : Int) < 18446744073709551616
theorem HInv.root {A : Ar} (h : HInv A) {y : Int} (h0 : 0 ≤ y) (h1 : y < 18446744073709551616) : HInv (A.write 0 0 y) := by
  have hf : A.Has 0 0 := has_fixed A (i := 0) (by omega)
  exact ⟨has_write y hf h.h3, has_write y hf h.h4, has_write y hf h.b0, has_write y hf h.b1, by rw [rd_write y hf, if_neg (by decide)]; exact h.v0, by rw [rd_write y hf, if_neg (by decide)]; exact h.v1,
    by rw [rd_write y hf, if_pos (by decide)]; omega⟩
theorem HInv.hold {A : Ar} (h : HInv A) {i : Int} (hi : A.Has 65537 i) (y : Int) : HInv (A.write 65537 i y) :=
  ⟨has_write y hi h.h3, has_write y hi h.h4, has_write y hi h.b0, has_write y hi h.b1, by rw [rd_write y hi, if_neg (fun e => absurd e.1 (by decide))]; exact h.v0, by rw [rd_write y hi, if_neg (fun e => absurd e.1 (by decide))]; exact h.v1,
    by rw [rd_write y hi, if_neg (fun e => absurd e.1 (by decide))]; exact h.tw⟩
theorem HInv.rd {A : Ar} (h : HInv A) : HInv A.read := ⟨h.h3, h.h4, h.b0, h.b1, h.v0, h.v1, h.tw⟩
theorem HInv.start (v u : Value) {y : Int} (h0 : 0 ≤ y) (h1 : y < 18446744073709551616) : HInv (((segA [v]).lay [1, 2] u).write 0 0 y) := by
  refine HInv.root ⟨?_, ?_, ?_, ?_, ?_, ?_, ?_⟩ h0 h1
  · exact ⟨of_decide_eq_true (by kernel_rfl), of_decide_eq_true (by kernel_rfl), of_decide_eq_true (by kernel_rfl), by kernel_rfl⟩
  · exact ⟨of_decide_eq_true (by kernel_rfl), of_decide_eq_true (by kernel_rfl), of_decide_eq_true (by kernel_rfl), by kernel_rfl⟩
  · exact ⟨of_decide_eq_true (by kernel_rfl), of_decide_eq_true (by kernel_rfl), of_decide_eq_true (by kernel_rfl), by kernel_rfl⟩
  · exact ⟨of_decide_eq_true (by kernel_rfl), of_decide_eq_true (by kernel_rfl), of_decide_eq_true (by kernel_rfl), by kernel_rfl⟩
  · kernel_rfl
  · kernel_rfl
  · exact of_decide_eq_true (by kernel_rfl)

/-- The state of the loop: how many picks are done; the arena; the root that was read; how it ended; was it held? -/
structure GS where
  k : Nat
  A : Ar
  r : Nat
  out : Int
  held : Bool
structure GOk (l : Nat) (s : GS) : Prop where
  k : s.k ≤ l
  inv : HInv s.A
  r : (s.r : Int) < 18446744073709551616
inductive GY (l : Nat) where
  | rd (z : {s : GS // GOk l s})
  | hd (z : {s : GS // GOk l s})
  | lk (z : {s : GS // GOk l s ∧ (s.A.rd 65537 3 : Int) = (s.r : Int) / 1048576})
  | nn (z : {s : GS // GOk l s ∧ (s.out = 1 → s.held = true ∨ (s.r : Int) / 1048576 = 0)})
def GY.s {l : Nat} : GY l → GS
  | .rd z => z.1
  | .hd z => z.1
  | .lk z => z.1
  | .nn z => z.1
def embsG (l : Nat) : List (Emb (GY l)) := [⟨_, GY.rd⟩, ⟨_, GY.hd⟩, ⟨_, GY.lk⟩, ⟨_, GY.nn⟩]
theorem embsG_cover {l : Nat} (y : GY l) : coverE y (embsG l) := by
  cases y with
  | rd z => exact .inl ⟨z, rfl⟩
  | hd z => exact .inr (.inl ⟨z, rfl⟩)
  | lk z => exact .inr (.inr (.inl ⟨z, rfl⟩))
  | nn z => exact .inr (.inr (.inr (.inl ⟨z, rfl⟩)))
def gripSC (p g : Nat) (f r out : SC) : List SC := [f, .ptr p 0, .int true .u64 65537, .int true .i64 0, r, out]
def headG (s : GS) (f r out : SC) : List (Nat × SV) × List (Nat × SO XE) :=
  ([(15, .c (.boo false s.held)), (72, .c (.int false .i64 (s.k : Int)))], [(26, arO s.A), (66, .cells (gripSC 26 66 f r out) 162)])
def invG (l : Nat) (_ : Nat) : GY l → List (Nat × SV) × List (Nat × SO XE)
  | .rd z => headG z.1 (.fn (.func 102) [.ptr 66 0] []) (.int true .u64 0) (.int true .i64 0)
  | .hd z => headG z.1 (.fn (.func 138) [.ptr 66 0] []) (.int false .u64 (z.1.r : Int)) (.int true .i64 0)
  | .lk z => headG z.1 (.fn (.func 159) [.ptr 66 0] []) (.int false .u64 (z.1.r : Int)) (.int true .i64 0)
  | .nn z => headG z.1 (.raw .nilFunc) (.int false .u64 (z.1.r : Int)) (.int false .i64 z.1.out)
/-- The slots that live on. -/
def liveN (l : List Nat) (t : Nat) : Bool := !(l.any fun k => Nat.beq k t)
def selG (_ : SF) (h : SH XE) : Nat := match h.get 66 with
  | some (.cells (.fn (.func n) _ _ :: _) _) => bif Nat.beq n 102 then 0 else bif Nat.beq n 138 then 1 else 2
  | _ => 3
def loopG (l : Nat) : Scr XE := .invs (liveN [0, 2, 7, 10, 11, 13, 14, 70, 71]) [22, 26, 27, 35, 60, 66, 68, 69, 88, 97, 99, 100] (GY l) (embsG l) selG (invG l) (fun y => l - y.s.k) (fun _ => bothN 12)

theorem has_fixed0 (A : Ar) : A.Has 0 0 := has_fixed A (i := 0) (by omega)
theorem seen64_0 (W : World) (a : Option Addr) : 0 ≤ seenInt .u64 W a := (seenInt_bd .u64 W a).1
theorem seen64_1 (W : World) (a : Option Addr) : seenInt .u64 W a < 18446744073709551616 := by
  have h := (seenInt_bd .u64 W a).2
  have e : IntKind.u64.max = 18446744073709551615 := by decide
  omega
theorem GOk.next {l : Nat} {s : GS} (h : GOk l s) (hlt : (s.k : Int) < (l : Int)) {A : Ar} {r : Nat} {out : Int} {held : Bool} (hA : HInv A) (hr : (r : Int) < 18446744073709551616) : GOk l ⟨s.k + 1, A, r, out, held⟩ :=
  ⟨by have : s.k < l := by omega
      exact this, hA, hr⟩
theorem GOk.zero {l : Nat} {A : Ar} {r : Nat} {out : Int} {held : Bool} (hA : HInv A) (hr : (r : Int) < 18446744073709551616) : GOk l ⟨0, A, r, out, held⟩ := ⟨Nat.zero_le _, hA, hr⟩
theorem div20 {r : Nat} (h : (r : Int) < 18446744073709551616) : (r : Int) / 1048576 < 18446744073709551616 := by omega
theorem rd3_root {A : Ar} (y : Int) : (A.write 0 0 y).rd 65537 3 = A.rd 65537 3 := by rw [rd_write y (has_fixed0 A), if_neg (fun e => absurd e.1 (by decide))]
theorem rd3_rootI {A : Ar} {y : Int} {r : Nat} (h : (A.rd 65537 3 : Int) = (r : Int) / 1048576) : ((A.write 0 0 y).rd 65537 3 : Int) = (r : Int) / 1048576 := by rw [rd3_root]; exact h
theorem rd3_rootR {A : Ar} {y : Int} {r : Nat} (h : (A.rd 65537 3 : Int) = (r : Int) / 1048576) : ((A.write 0 0 y).read.read.read.rd 65537 3 : Int) = (r : Int) / 1048576 := rd3_rootI (A := A) (y := y) h
theorem rd3_hold {A : Ar} (h : HInv A) (r : Nat) : ((A.write 65537 3 ((r : Int) / 1048576)).rd 65537 3 : Int) = (r : Int) / 1048576 := by
  rw [rd_write _ h.h3, if_pos ⟨rfl, rfl⟩]
  omega
theorem rd3_holdR {A : Ar} (h : HInv A) (r : Nat) : ((A.write 65537 3 ((r : Int) / 1048576)).read.read.read.rd 65537 3 : Int) = (r : Int) / 1048576 := rd3_hold h r
end Go.Proofs.Ytgiakcepgbpchaa
