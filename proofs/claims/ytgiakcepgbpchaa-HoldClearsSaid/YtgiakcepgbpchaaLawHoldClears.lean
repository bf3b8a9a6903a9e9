/- HoldClears: for all words and every slot the law returns true and turns nothing; condition: the words are read as numbers. -/
import Derived.Test.YtgiakcepgbpchaaSumClo
import Derived.Test.YtgiakcepgbpchaaWords
import Derived.Test.YtgiakcepgbpchaaBaseTop
import Derived.Test.YtgiakcepgbpchaaBaseSeg
import Derived.Test.YtgiakcepgbpchaaSumCnt2
import Derived.Test.YtgiakcepgbpchaaSumDir
import Derived.Test.YtgiakcepgbpchaaFirst14
import Derived.Test.YtgiakcepgbpchaaBaseC
set_option linter.all false
namespace Go.Proofs.Ytgiakcepgbpchaa
open Go Go.RowKit
set_option maxRecDepth 1000000
set_option maxHeartbeats 0
def tblHC : List (Smry Try.prog XE) := [firstS 25 (fun W => by have h := law_trueR first14 W; exact h), segsX, cloneX, readX, writeX, tallyX, wordS, rsegS]
def allN : List Nat := (List.range 1500).map (· + 1)
def hq (q : Nat) : Nat := if q = 0 then 65537 else 131074
def offq (q f : Nat) : Nat := if q = 2 then 5 + f else f
def wrA (A : Ar) (w : Nat → Int) : Nat → Ar
  | 0 => A
  | k + 1 => if k < 15 then (wrA A w k).write (hq (k % 3) : Nat) (offq (k % 3) (k / 3) : Nat) (w k) else wrA A w k
def rdN : Nat → Ar → Ar
  | 0, A => A
  | n + 1, A => (rdN n A).read
theorem selQ (k : Nat) : addO true 0 ((k : Int) % 3).toNat = k % 3 := by
  rw [addO_eq]
  omega
theorem modQ (k : Nat) : k % 3 < 3 := Nat.mod_lt _ (by decide)
theorem sQ (k : Nat) : ([65537, 131074, 131074] : List Int).getD (k % 3) 0 = ((hq (k % 3) : Nat) : Int) := by
  have := modQ k
  generalize k % 3 = q at *
  rcases (by omega : q = 0 ∨ q = 1 ∨ q = 2) with rfl | rfl | rfl <;> rfl
theorem lQ (k : Nat) : ([0, 1, 2] : List Int).getD (k % 3) 0 = ((k % 3 : Nat) : Int) := by
  have := modQ k
  generalize k % 3 = q at *
  rcases (by omega : q = 0 ∨ q = 1 ∨ q = 2) with rfl | rfl | rfl <;> rfl
theorem segO3 (k : Nat) : segO (k % 3) = if k % 3 = 2 then 1 else 0 := by
  have := modQ k
  generalize k % 3 = q at *
  rcases (by omega : q = 0 ∨ q = 1 ∨ q = 2) with rfl | rfl | rfl <;> decide
theorem oR (k : Nat) : 5 * ((segO (k % 3) : Nat) : Int) + (k : Int) / 3 = ((offq (k % 3) (k / 3) : Nat) : Int) := by
  rw [segO3]
  unfold offq
  split <;> omega
theorem oR3 (k : Nat) : 5 * ((segO (k % 3) : Nat) : Int) + 3 = ((offq (k % 3) 3 : Nat) : Int) := by
  rw [segO3]
  unfold offq
  split <;> omega
theorem oR4 (k : Nat) : 5 * ((segO (k % 3) : Nat) : Int) + 4 = ((offq (k % 3) 4 : Nat) : Int) := by
  rw [segO3]
  unfold offq
  split <;> omega
theorem oB (k : Nat) : 0 ≤ 5 * ((segO (k % 3) : Nat) : Int) ∧ 5 * ((segO (k % 3) : Nat) : Int) ≤ 5 := by
  rw [segO3]
  split <;> omega
theorem inSQ (k : Nat) : inS ((k % 3 : Nat) : Int) = true := by
  have := modQ k
  unfold inS
  simp only [Bool.and_eq_true, decide_eq_true_eq]
  omega
theorem inF3 : inF (Int.ofNat (2 + 1)) = true := by decide
theorem inF4 : inF (Int.ofNat (3 + 1)) = true := by decide
theorem eqQ (q p : Nat) : (true == ((((hq q : Nat) : Int) == ((hq p : Nat) : Int)) && ((((q : Nat) : Int) == ((p : Nat) : Int)) && true))) = decide (q = p) := by
  by_cases e : q = p
  · subst e
    rw [beq_self_eq_true, beq_self_eq_true, decide_eq_true rfl]
    rfl
  · rw [decide_eq_false e, show (((q : Nat) : Int) == ((p : Nat) : Int)) = false by rw [beq_eq_false_iff_ne]; omega]
    simp
theorem inj {q p f g : Nat} (hp : q < 3) (hr : p < 3) (hf : f < 5) (hg : g < 5) (h1 : hq q = hq p) (h2 : offq q f = offq p g) : q = p ∧ f = g := by
  unfold hq at h1
  unfold offq at h2
  split at h1 <;> split at h1 <;> split at h2 <;> split at h2 <;> omega
theorem rdN_rd (A : Ar) (h i : Int) : ∀ n, (rdN n A).rd h i = A.rd h i
  | 0 => rfl
  | n + 1 => rdN_rd A h i n
theorem rdN_has (A : Ar) (h i : Int) : ∀ n, (rdN n A).Has h i = A.Has h i
  | 0 => rfl
  | n + 1 => rdN_has A h i n
theorem rdN_w (A : Ar) : ∀ n, (rdN n A).t.writes = A.t.writes
  | 0 => rfl
  | n + 1 => rdN_w A n
theorem set_s (A : Ar) (h i x : Nat) : (A.set h i x).s = A.s := by unfold Ar.set; split <;> rfl
theorem set_t (A : Ar) (h i x : Nat) : (A.set h i x).t = A.t := by unfold Ar.set; split <;> rfl
theorem write_s (A : Ar) (h i y : Int) : (A.write h i y).s = A.s := set_s _ _ _ _
theorem write_w (A : Ar) (h i y : Int) : (A.write h i y).t.writes = A.t.writes + 1 := by
  show (A.set _ _ _).t.writes + 1 = _
  rw [set_t]
structure WOk (A : Ar) (n : Nat) : Prop where
  has : ∀ q f, q < 3 → f < 5 → A.Has ((hq q : Nat) : Int) ((offq q f : Nat) : Int)
  back : A.s.back = []
  writes : A.t.writes ≤ n
theorem WOk.write {A : Ar} {n : Nat} (h : WOk A n) {q f : Nat} (hp : q < 3) (hf : f < 5) (y : Int) : WOk (A.write ((hq q : Nat) : Int) ((offq q f : Nat) : Int) y) (n + 1) := ⟨fun p g h1 h2 => has_write y (h.has q f hp hf) (h.has p g h1 h2), by rw [write_s]; exact h.back, by rw [write_w]; have := h.writes; omega⟩
theorem WOk.seg {A : Ar} (h : SegOk 2 A) : WOk A 2 := by
  refine ⟨fun q f hp hf => ?_, h.back, by rw [h.tally]; exact Nat.le_refl _⟩
  have h0 := seg_word h (g := 0) (i := f) (by decide) (by omega)
  have h1 := seg_word h (g := 1) (i := f) (by decide) (by omega)
  have h2 := seg_word h (g := 1) (i := 5 + f) (by decide) (by omega)
  rcases (by omega : q = 0 ∨ q = 1 ∨ q = 2) with rfl | rfl | rfl
  · exact has_word h0 (by decide)
  · exact has_word h1 (by decide)
  · exact has_word h2 (by decide)
theorem WOk.wrA {A : Ar} (h : SegOk 2 A) (w : Nat → Int) : ∀ k, WOk (wrA A w k) (2 + min k 15)
  | 0 => WOk.seg h
  | k + 1 => by
    have ih := WOk.wrA h w k
    unfold Go.Proofs.Ytgiakcepgbpchaa.wrA
    split
    · have := ih.write (modQ k) (show k / 3 < 5 by omega) (w k)
      rw [show 2 + min k 15 + 1 = 2 + min (k + 1) 15 by omega] at this
      exact this
    · rw [show min (k + 1) 15 = min k 15 by omega]
      exact ih
structure C1 (len : Nat) where
  k : Nat
  A : Ar
  hk : k ≤ len
  h0 : SegOk 2 A
def plc : List SC := [.int true .u64 65537, .int true .i64 0, .int true .u64 131074, .int true .i64 1, .int true .u64 131074, .int true .i64 2]
def wF (W : World) (a : Option Addr) (j : Nat) : Int := seenInt .u64 W (addOpt a j)
def iC1 (W : World) (a : Option Addr) (len n : Nat) (y : C1 len) : List (Nat × SV) × List (Nat × SO XE) := ([(5, .c (.ptr n 0)), (8, .c (.sli (n + 1) 2 true 0 true 3 3)), (42, .c (.int false .i64 (y.k : Int)))], [(n, arO (wrA y.A (wF W a) y.k)), (n + 1, .cells plc 37)])
/-- What the law's last loop compares. -/
structure C3 where
  i : Nat
  A : Ar
  B : Ar
  sl : Nat
  hi : i ≤ 15
  hs : sl < 3
  hA : ∀ q f, q < 3 → f < 5 → A.Has (hq q : Nat) (offq q f : Nat) ∧ B.Has (hq q : Nat) (offq q f : Nat) ∧ A.rd (hq q : Nat) (offq q f : Nat) = if q = sl ∧ 3 ≤ f then 0 else B.rd (hq q : Nat) (offq q f : Nat)
  ht : A.t.writes = B.t.writes + 2
  hw : B.t.writes ≤ 100
def iC3 (n : Nat) (y : C3) : List (Nat × SV) × List (Nat × SO XE) := ([(5, .c (.ptr n 0)), (8, .c (.sli (n + 1) 2 true 0 true 3 3)), (11, .c (.ptr (n + 2) 0)), (12, .c (.ptr (n + 3) 0)), (13, .c (.ptr (n + 4) 0)), (76, .c (.int false .i64 (y.i : Int)))],
  [(n, arO (rdN y.i y.A)), (n + 1, .cells plc 37), (n + 2, arO (rdN y.i y.B)), (n + 3, .cells [.int false .u64 (hq y.sl : Nat), .int false .i64 (y.sl : Int)] 37), (n + 4, .cells [.raw .nilFunc, .ptr n 0, .int false .u64 (hq y.sl : Nat), .int false .i64 (y.sl : Int)] 174)])
def c30 {len : Nat} (y : C1 len) (w : Nat → Int) (B : Ar) (hB : CloneOf (wrA y.A w y.k) B) (p : Nat) (hp : p < 3) : C3 where
  i := 0
  A := ((wrA y.A w y.k).write ((hq p : Nat) : Int) ((offq p 3 : Nat) : Int) 0).write ((hq p : Nat) : Int) ((offq p 4 : Nat) : Int) 0
  B := B
  sl := p
  hi := by decide
  hs := hp
  hA := fun q f h1 h2 => by
    have ok := WOk.wrA y.h0 w y.k
    have o1 := ok.write hp (show 3 < 5 by decide) 0
    have o2 := o1.write hp (show 4 < 5 by decide) 0
    refine ⟨o2.has q f h1 h2, ?_, ?_⟩
    · have := ok.has q f h1 h2
      unfold Ar.Has at this ⊢
      rw [hB.word]
      exact this
    · rw [rd_write 0 (o1.has p 4 hp (by decide)), rd_write 0 (ok.has p 3 hp (by decide))]
      have eB : B.rd ((hq q : Nat) : Int) ((offq q f : Nat) : Int) = (wrA y.A w y.k).rd ((hq q : Nat) : Int) ((offq q f : Nat) : Int) := by unfold Ar.rd; rw [hB.word]
      rw [eB]
      simp only [Int.toNat_natCast]
      by_cases e4 : hq q = hq p ∧ offq q f = offq p 4
      · obtain ⟨e1, e2⟩ := inj h1 hp h2 (by decide) e4.1 e4.2
        rw [if_pos e4, if_pos ⟨e1, by omega⟩]; rfl
      · rw [if_neg e4]
        by_cases e3 : hq q = hq p ∧ offq q f = offq p 3
        · obtain ⟨e1, e2⟩ := inj h1 hp h2 (by decide) e3.1 e3.2
          rw [if_pos e3, if_pos ⟨e1, by omega⟩]; rfl
        · rw [if_neg e3, if_neg]
          rintro ⟨rfl, h⟩
          rcases (by omega : f = 3 ∨ f = 4) with rfl | rfl
          · exact e3 ⟨rfl, rfl⟩
          · exact e4 ⟨rfl, rfl⟩
  ht := by rw [write_w, write_w, hB.t]
  hw := by have := (WOk.wrA y.h0 w y.k).writes; rw [hB.t]; omega
def c3n (y : C3) (h : y.i < 15) : C3 := ⟨y.i + 1, y.A, y.B, y.sl, h, y.hs, y.hA, y.ht, y.hw⟩
theorem wrA_yes {A : Ar} {w : Nat → Int} {k : Nat} (h : k < 15) : wrA A w (k + 1) = (wrA A w k).write (hq (k % 3) : Nat) (offq (k % 3) (k / 3) : Nat) (w k) := by rw [wrA, if_pos h]
theorem wrA_no {A : Ar} {w : Nat → Int} {k : Nat} (h : ¬ k < 15) : wrA A w (k + 1) = wrA A w k := by rw [wrA, if_neg h]
theorem cmpC (y : C3) (h : y.i < 15) : y.A.rd ((hq (y.i % 3) : Nat) : Int) ((offq (y.i % 3) (y.i / 3) : Nat) : Int) = if y.i % 3 = y.sl ∧ 3 ≤ y.i / 3 then 0 else y.B.rd ((hq (y.i % 3) : Nat) : Int) ((offq (y.i % 3) (y.i / 3) : Nat) : Int) := (y.hA _ _ (modQ _) (by omega)).2.2
theorem tlyC (y : C3) : tlyZ (rdN y.i y.A).t 3 = y.B.t.writes + 2 ∧ tlyZ (rdN y.i y.B).t 3 = y.B.t.writes := by
  have := y.hw
  constructor
  · show wr64 _ = _
    rw [rdN_w, y.ht, wr64_small (by omega)]
    rfl
  · show wr64 _ = _
    rw [rdN_w, wr64_small (by omega)]
def scrC (W : World) (a : Option Addr) (len : Nat) : Scr XE := .inv (liveL [0, 1, 5, 8, 40, 41, 42]) allN (C1 len) (iC1 W a len) (fun y => len - y.k) fun _ => .both (.both .nil .nil)
  (.skip <| .inv (liveL [5, 8, 11, 12, 13, 76]) allN C3 iC3 (fun y => 15 - y.i) fun _ => .both (.both (.both (.f .nil) (.f .nil)) (.f .nil)) .nil)
/-- What the executor leaves to be shown of roundelay/roundelaylaw14.HoldClears, written out. -/
theorem holdClears_vc (W : World) (a : Option Addr) (len cap : Nat) (s : Int) : (callN Try.prog (tblHC : List (Smry Try.prog XE)) (fun _ _ => false) 100 20 7 [.c (.sliv a false len cap), .c (.int false .u8 s)] ⟨[(0, .seen W)], 1⟩ (scrC W a len) (fun v m _ => retSeen W v m)) = (
    ∀ (A : Ar) (cap_1 : Nat) (z : Nat → Int) (ad : Option Addr) (ln cp : Nat), SegOk (2 : Nat) A → (2 : Nat) ≤ cap_1 → (0 : Nat) < (2 : Nat) ∧ (1 : Nat) < (2 : Nat) ∧ (1 : Nat) < (2 :
    Nat) ∧ (W = W ∧ (2 : Nat) = (2 : Nat) ∧ cap_1 = cap_1 ∧ hsF = hsF ∧ (∃ (y : C1 len), a = a ∧ len = len ∧ cap = cap ∧ s = s ∧ a = a ∧ len = len ∧ cap = cap ∧ (↑len : Int) = (↑len :
    Int) ∧ W = W ∧ (0 : Nat) = (0 : Nat) ∧ (3 : Nat) = (3 : Nat) ∧ (↑y.k : Int) = (0 : Int) ∧ wrA y.A (wF W a) y.k = A ∧ ((65537 : Int) = (65537 : Int) ∧ (0 : Int) = (0 : Int) ∧ (131074
    : Int) = (131074 : Int) ∧ (1 : Int) = (1 : Int) ∧ (131074 : Int) = (131074 : Int) ∧ (2 : Int) = (2 : Int) ∧ True) ∧ True) ∧ ∀ (y : C1 len) (ρ : Nat → Value), (decide ((↑y.k : Int) <
    (↑len : Int)) = true → ((0 : Int) ≤ (↑y.k : Int) ∧ (↑y.k : Int) < (↑len : Int) ∧ a.isSome = true) ∧ (∃ (x : Addr), addOpt a (↑y.k : Int).toNat = some x ∧ W.cell? x = some (Value.int
    IntKind.u64 (seenInt IntKind.u64 W (addOpt a (↑y.k : Int).toNat)))) ∧ (decide ((↑y.k : Int) < (15 : Int)) = true → ((0 : Int) ≤ (↑y.k : Int) ∧ (0 : Int) < (3 : Int)) ∧ addO true (0
    : Nat) ((↑y.k : Int) % (3 : Int)).toNat < (3 : Nat) ∧ ((0 : Int) ≤ (↑y.k : Int) ∧ (0 : Int) < (3 : Int) ∧ (-9223372036854775808 : Int) ≤ (↑y.k : Int) ∧ (↑y.k : Int) ≤
    (9223372036854775807 : Int)) ∧ ((0 : Int) ≤ [(0 : Int), (1 : Int), (2 : Int)].getD (addO true (0 : Nat) ((↑y.k : Int) % (3 : Int)).toNat) (0 : Int) ∧ [(0 : Int), (1 : Int), (2 :
    Int)].getD (addO true (0 : Nat) ((↑y.k : Int) % (3 : Int)).toNat) (0 : Int) ≤ (254 : Int)) ∧ ((-9223372036854775808 : Int) ≤ (5 : Int) * (↑(segO ([(0 : Int), (1 : Int), (2 :
    Int)].getD (addO true (0 : Nat) ((↑y.k : Int) % (3 : Int)).toNat) (0 : Int)).toNat) : Int) ∧ (5 : Int) * (↑(segO ([(0 : Int), (1 : Int), (2 : Int)].getD (addO true (0 : Nat) ((↑y.k
    : Int) % (3 : Int)).toNat) (0 : Int)).toNat) : Int) ≤ (9223372036854775807 : Int)) ∧ ((-9223372036854775808 : Int) ≤ (5 : Int) * (↑(segO ([(0 : Int), (1 : Int), (2 : Int)].getD
    (addO true (0 : Nat) ((↑y.k : Int) % (3 : Int)).toNat) (0 : Int)).toNat) : Int) + (↑y.k : Int) / (3 : Int) ∧ (5 : Int) * (↑(segO ([(0 : Int), (1 : Int), (2 : Int)].getD (addO true
    (0 : Nat) ((↑y.k : Int) % (3 : Int)).toNat) (0 : Int)).toNat) : Int) + (↑y.k : Int) / (3 : Int) ≤ (9223372036854775807 : Int)) ∧ (wrA y.A (wF W a) y.k).Has ([(65537 : Int), (131074
    : Int), (131074 : Int)].getD (addO true (0 : Nat) ((↑y.k : Int) % (3 : Int)).toNat) (0 : Int)) ((5 : Int) * (↑(segO ([(0 : Int), (1 : Int), (2 : Int)].getD (addO true (0 : Nat)
    ((↑y.k : Int) % (3 : Int)).toNat) (0 : Int)).toNat) : Int) + (↑y.k : Int) / (3 : Int)) ∧ ((0 : Int) ≤ seenInt IntKind.u64 W (addOpt a (↑y.k : Int).toNat) ∧ seenInt IntKind.u64 W
    (addOpt a (↑y.k : Int).toNat) < (18446744073709551616 : Int)) ∧ ((-9223372036854775808 : Int) ≤ (↑y.k : Int) + (1 : Int) ∧ (↑y.k : Int) + (1 : Int) ≤ (9223372036854775807 : Int)) ∧
    ∃ (y' : C1 len), len - y'.k < len - y.k ∧ a = a ∧ len = len ∧ cap = cap ∧ s = s ∧ a = a ∧ len = len ∧ cap = cap ∧ (↑len : Int) = (↑len : Int) ∧ W = W ∧ (0 : Nat) = (0 : Nat) ∧ (3 :
    Nat) = (3 : Nat) ∧ (↑y'.k : Int) = (↑y.k : Int) + (1 : Int) ∧ wrA y'.A (wF W a) y'.k = (wrA y.A (wF W a) y.k).write ([(65537 : Int), (131074 : Int), (131074 : Int)].getD (addO true
    (0 : Nat) ((↑y.k : Int) % (3 : Int)).toNat) (0 : Int)) ((5 : Int) * (↑(segO ([(0 : Int), (1 : Int), (2 : Int)].getD (addO true (0 : Nat) ((↑y.k : Int) % (3 : Int)).toNat) (0 :
    Int)).toNat) : Int) + (↑y.k : Int) / (3 : Int)) (seenInt IntKind.u64 W (addOpt a (↑y.k : Int).toNat)) ∧ ((65537 : Int) = (65537 : Int) ∧ (0 : Int) = (0 : Int) ∧ (131074 : Int) =
    (131074 : Int) ∧ (1 : Int) = (1 : Int) ∧ (131074 : Int) = (131074 : Int) ∧ (2 : Int) = (2 : Int) ∧ True) ∧ True) ∧ (decide ((↑y.k : Int) < (15 : Int)) = false →
    ((-9223372036854775808 : Int) ≤ (↑y.k : Int) + (1 : Int) ∧ (↑y.k : Int) + (1 : Int) ≤ (9223372036854775807 : Int)) ∧ ∃ (y' : C1 len), len - y'.k < len - y.k ∧ a = a ∧ len = len ∧
    cap = cap ∧ s = s ∧ a = a ∧ len = len ∧ cap = cap ∧ (↑len : Int) = (↑len : Int) ∧ W = W ∧ (0 : Nat) = (0 : Nat) ∧ (3 : Nat) = (3 : Nat) ∧ (↑y'.k : Int) = (↑y.k : Int) + (1 : Int) ∧
    wrA y'.A (wF W a) y'.k = wrA y.A (wF W a) y.k ∧ ((65537 : Int) = (65537 : Int) ∧ (0 : Int) = (0 : Int) ∧ (131074 : Int) = (131074 : Int) ∧ (1 : Int) = (1 : Int) ∧ (131074 : Int) =
    (131074 : Int) ∧ (2 : Int) = (2 : Int) ∧ True) ∧ True)) ∧ (decide ((↑y.k : Int) < (↑len : Int)) = false → (wrA y.A (wF W a) y.k).s.back.length ≤ (70000 : Nat) ∧ ∀ (B : Ar), CloneOf
    (wrA y.A (wF W a) y.k) B → ((0 : Int) ≤ s ∧ (0 : Int) < (3 : Int)) ∧ addO true (0 : Nat) (s % (3 : Int)).toNat < (3 : Nat) ∧ (0 : Int) ≤ [(65537 : Int), (131074 : Int), (131074 :
    Int)].getD (addO true (0 : Nat) (s % (3 : Int)).toNat) (0 : Int) ∧ ((wrA y.A (wF W a) y.k).Has (if (inS ([(0 : Int), (1 : Int), (2 : Int)].getD (addO true (0 : Nat) (s % (3 :
    Int)).toNat) (0 : Int)) && inF (Int.ofNat ((2 : Nat) + (1 : Nat)))) = true then [(65537 : Int), (131074 : Int), (131074 : Int)].getD (addO true (0 : Nat) (s % (3 : Int)).toNat) (0 :
    Int) else (0 : Int)) (if (inS ([(0 : Int), (1 : Int), (2 : Int)].getD (addO true (0 : Nat) (s % (3 : Int)).toNat) (0 : Int)) && inF (Int.ofNat ((2 : Nat) + (1 : Nat)))) = true then
    (5 : Int) * (↑(segO ([(0 : Int), (1 : Int), (2 : Int)].getD (addO true (0 : Nat) (s % (3 : Int)).toNat) (0 : Int)).toNat) : Int) + (3 : Int) else (0 : Int)) ∧ ((0 : Int) ≤ (0 : Int)
    ∧ (0 : Int) < (18446744073709551616 : Int)) ∧ (0 : Int) ≤ [(65537 : Int), (131074 : Int), (131074 : Int)].getD (addO true (0 : Nat) (s % (3 : Int)).toNat) (0 : Int) ∧ (((wrA y.A (wF
    W a) y.k).write (if (inS ([(0 : Int), (1 : Int), (2 : Int)].getD (addO true (0 : Nat) (s % (3 : Int)).toNat) (0 : Int)) && inF (Int.ofNat ((2 : Nat) + (1 : Nat)))) = true then
    [(65537 : Int), (131074 : Int), (131074 : Int)].getD (addO true (0 : Nat) (s % (3 : Int)).toNat) (0 : Int) else (0 : Int)) (if (inS ([(0 : Int), (1 : Int), (2 : Int)].getD (addO
    true (0 : Nat) (s % (3 : Int)).toNat) (0 : Int)) && inF (Int.ofNat ((2 : Nat) + (1 : Nat)))) = true then (5 : Int) * (↑(segO ([(0 : Int), (1 : Int), (2 : Int)].getD (addO true (0 :
    Nat) (s % (3 : Int)).toNat) (0 : Int)).toNat) : Int) + (3 : Int) else (0 : Int)) (0 : Int)).Has (if (inS ([(0 : Int), (1 : Int), (2 : Int)].getD (addO true (0 : Nat) (s % (3 :
    Int)).toNat) (0 : Int)) && inF (Int.ofNat ((3 : Nat) + (1 : Nat)))) = true then [(65537 : Int), (131074 : Int), (131074 : Int)].getD (addO true (0 : Nat) (s % (3 : Int)).toNat) (0 :
    Int) else (0 : Int)) (if (inS ([(0 : Int), (1 : Int), (2 : Int)].getD (addO true (0 : Nat) (s % (3 : Int)).toNat) (0 : Int)) && inF (Int.ofNat ((3 : Nat) + (1 : Nat)))) = true then
    (5 : Int) * (↑(segO ([(0 : Int), (1 : Int), (2 : Int)].getD (addO true (0 : Nat) (s % (3 : Int)).toNat) (0 : Int)).toNat) : Int) + (4 : Int) else (0 : Int)) ∧ ((0 : Int) ≤ (0 : Int)
    ∧ (0 : Int) < (18446744073709551616 : Int)) ∧ (∃ (y_1 : C3), W = W ∧ (0 : Nat) = (0 : Nat) ∧ (3 : Nat) = (3 : Nat) ∧ (↑y_1.i : Int) = (0 : Int) ∧ rdN y_1.i y_1.A = ((wrA y.A (wF W
    a) y.k).write (if (inS ([(0 : Int), (1 : Int), (2 : Int)].getD (addO true (0 : Nat) (s % (3 : Int)).toNat) (0 : Int)) && inF (Int.ofNat ((2 : Nat) + (1 : Nat)))) = true then [(65537
    : Int), (131074 : Int), (131074 : Int)].getD (addO true (0 : Nat) (s % (3 : Int)).toNat) (0 : Int) else (0 : Int)) (if (inS ([(0 : Int), (1 : Int), (2 : Int)].getD (addO true (0 :
    Nat) (s % (3 : Int)).toNat) (0 : Int)) && inF (Int.ofNat ((2 : Nat) + (1 : Nat)))) = true then (5 : Int) * (↑(segO ([(0 : Int), (1 : Int), (2 : Int)].getD (addO true (0 : Nat) (s %
    (3 : Int)).toNat) (0 : Int)).toNat) : Int) + (3 : Int) else (0 : Int)) (0 : Int)).write (if (inS ([(0 : Int), (1 : Int), (2 : Int)].getD (addO true (0 : Nat) (s % (3 : Int)).toNat)
    (0 : Int)) && inF (Int.ofNat ((3 : Nat) + (1 : Nat)))) = true then [(65537 : Int), (131074 : Int), (131074 : Int)].getD (addO true (0 : Nat) (s % (3 : Int)).toNat) (0 : Int) else (0
    : Int)) (if (inS ([(0 : Int), (1 : Int), (2 : Int)].getD (addO true (0 : Nat) (s % (3 : Int)).toNat) (0 : Int)) && inF (Int.ofNat ((3 : Nat) + (1 : Nat)))) = true then (5 : Int) *
    (↑(segO ([(0 : Int), (1 : Int), (2 : Int)].getD (addO true (0 : Nat) (s % (3 : Int)).toNat) (0 : Int)).toNat) : Int) + (4 : Int) else (0 : Int)) (0 : Int) ∧ ((65537 : Int) = (65537
    : Int) ∧ (0 : Int) = (0 : Int) ∧ (131074 : Int) = (131074 : Int) ∧ (1 : Int) = (1 : Int) ∧ (131074 : Int) = (131074 : Int) ∧ (2 : Int) = (2 : Int) ∧ True) ∧ rdN y_1.i y_1.B = B ∧
    ((↑(hq y_1.sl) : Int) = [(65537 : Int), (131074 : Int), (131074 : Int)].getD (addO true (0 : Nat) (s % (3 : Int)).toNat) (0 : Int) ∧ (↑y_1.sl : Int) = [(0 : Int), (1 : Int), (2 :
    Int)].getD (addO true (0 : Nat) (s % (3 : Int)).toNat) (0 : Int) ∧ True) ∧ (Value.nilFunc = Value.nilFunc ∧ (0 : Nat) = (0 : Nat) ∧ (↑(hq y_1.sl) : Int) = [(65537 : Int), (131074 :
    Int), (131074 : Int)].getD (addO true (0 : Nat) (s % (3 : Int)).toNat) (0 : Int) ∧ (↑y_1.sl : Int) = [(0 : Int), (1 : Int), (2 : Int)].getD (addO true (0 : Nat) (s % (3 :
    Int)).toNat) (0 : Int) ∧ True) ∧ True) ∧ ∀ (y : C3) (ρ : Nat → Value), (decide ((↑y.i : Int) < (15 : Int)) = true → ((0 : Int) ≤ (↑y.i : Int) ∧ (0 : Int) < (3 : Int)) ∧ addO true (0
    : Nat) ((↑y.i : Int) % (3 : Int)).toNat < (3 : Nat) ∧ ((0 : Int) ≤ (↑y.i : Int) ∧ (0 : Int) < (3 : Int) ∧ (-9223372036854775808 : Int) ≤ (↑y.i : Int) ∧ (↑y.i : Int) ≤
    (9223372036854775807 : Int)) ∧ ((0 : Int) ≤ [(0 : Int), (1 : Int), (2 : Int)].getD (addO true (0 : Nat) ((↑y.i : Int) % (3 : Int)).toNat) (0 : Int) ∧ [(0 : Int), (1 : Int), (2 :
    Int)].getD (addO true (0 : Nat) ((↑y.i : Int) % (3 : Int)).toNat) (0 : Int) ≤ (254 : Int)) ∧ ((-9223372036854775808 : Int) ≤ (5 : Int) * (↑(segO ([(0 : Int), (1 : Int), (2 :
    Int)].getD (addO true (0 : Nat) ((↑y.i : Int) % (3 : Int)).toNat) (0 : Int)).toNat) : Int) ∧ (5 : Int) * (↑(segO ([(0 : Int), (1 : Int), (2 : Int)].getD (addO true (0 : Nat) ((↑y.i
    : Int) % (3 : Int)).toNat) (0 : Int)).toNat) : Int) ≤ (9223372036854775807 : Int)) ∧ ((-9223372036854775808 : Int) ≤ (5 : Int) * (↑(segO ([(0 : Int), (1 : Int), (2 : Int)].getD
    (addO true (0 : Nat) ((↑y.i : Int) % (3 : Int)).toNat) (0 : Int)).toNat) : Int) + (↑y.i : Int) / (3 : Int) ∧ (5 : Int) * (↑(segO ([(0 : Int), (1 : Int), (2 : Int)].getD (addO true
    (0 : Nat) ((↑y.i : Int) % (3 : Int)).toNat) (0 : Int)).toNat) : Int) + (↑y.i : Int) / (3 : Int) ≤ (9223372036854775807 : Int)) ∧ (rdN y.i y.A).Has ([(65537 : Int), (131074 : Int),
    (131074 : Int)].getD (addO true (0 : Nat) ((↑y.i : Int) % (3 : Int)).toNat) (0 : Int)) ((5 : Int) * (↑(segO ([(0 : Int), (1 : Int), (2 : Int)].getD (addO true (0 : Nat) ((↑y.i :
    Int) % (3 : Int)).toNat) (0 : Int)).toNat) : Int) + (↑y.i : Int) / (3 : Int)) ∧ (rdN y.i y.B).Has ([(65537 : Int), (131074 : Int), (131074 : Int)].getD (addO true (0 : Nat) ((↑y.i :
    Int) % (3 : Int)).toNat) (0 : Int)) ((5 : Int) * (↑(segO ([(0 : Int), (1 : Int), (2 : Int)].getD (addO true (0 : Nat) ((↑y.i : Int) % (3 : Int)).toNat) (0 : Int)).toNat) : Int) +
    (↑y.i : Int) / (3 : Int)) ∧ ((0 : Int) ≤ (↑y.i : Int) ∧ (0 : Int) < (3 : Int)) ∧ addO true (0 : Nat) ((↑y.i : Int) % (3 : Int)).toNat < (3 : Nat) ∧ ((true == ([(65537 : Int),
    (131074 : Int), (131074 : Int)].getD (addO true (0 : Nat) ((↑y.i : Int) % (3 : Int)).toNat) (0 : Int) == (↑(hq y.sl) : Int) && ([(0 : Int), (1 : Int), (2 : Int)].getD (addO true (0
    : Nat) ((↑y.i : Int) % (3 : Int)).toNat) (0 : Int) == (↑y.sl : Int) && true))) = true → ((0 : Int) ≤ (↑y.i : Int) ∧ (0 : Int) < (3 : Int) ∧ (-9223372036854775808 : Int) ≤ (↑y.i :
    Int) ∧ (↑y.i : Int) ≤ (9223372036854775807 : Int)) ∧ (decide ((↑y.i : Int) / (3 : Int) ≥ (3 : Int)) = true → ((↑((rdN y.i y.A).rd ([(65537 : Int), (131074 : Int), (131074 :
    Int)].getD (addO true (0 : Nat) ((↑y.i : Int) % (3 : Int)).toNat) (0 : Int)) ((5 : Int) * (↑(segO ([(0 : Int), (1 : Int), (2 : Int)].getD (addO true (0 : Nat) ((↑y.i : Int) % (3 :
    Int)).toNat) (0 : Int)).toNat) : Int) + (↑y.i : Int) / (3 : Int))) : Int) != (0 : Int)) = false ∧ ((-9223372036854775808 : Int) ≤ (↑y.i : Int) + (1 : Int) ∧ (↑y.i : Int) + (1 : Int)
    ≤ (9223372036854775807 : Int)) ∧ ∃ (y' : C3), (15 : Nat) - y'.i < (15 : Nat) - y.i ∧ W = W ∧ (0 : Nat) = (0 : Nat) ∧ (3 : Nat) = (3 : Nat) ∧ (↑y'.i : Int) = (↑y.i : Int) + (1 : Int)
    ∧ rdN y'.i y'.A = (rdN y.i y.A).read ∧ ((65537 : Int) = (65537 : Int) ∧ (0 : Int) = (0 : Int) ∧ (131074 : Int) = (131074 : Int) ∧ (1 : Int) = (1 : Int) ∧ (131074 : Int) = (131074 :
    Int) ∧ (2 : Int) = (2 : Int) ∧ True) ∧ rdN y'.i y'.B = (rdN y.i y.B).read ∧ ((↑(hq y'.sl) : Int) = (↑(hq y.sl) : Int) ∧ (↑y'.sl : Int) = (↑y.sl : Int) ∧ True) ∧ (Value.nilFunc =
    Value.nilFunc ∧ (0 : Nat) = (0 : Nat) ∧ (↑(hq y'.sl) : Int) = (↑(hq y.sl) : Int) ∧ (↑y'.sl : Int) = (↑y.sl : Int) ∧ True) ∧ True) ∧ (decide ((↑y.i : Int) / (3 : Int) ≥ (3 : Int)) =
    false → ((↑((rdN y.i y.A).rd ([(65537 : Int), (131074 : Int), (131074 : Int)].getD (addO true (0 : Nat) ((↑y.i : Int) % (3 : Int)).toNat) (0 : Int)) ((5 : Int) * (↑(segO ([(0 :
    Int), (1 : Int), (2 : Int)].getD (addO true (0 : Nat) ((↑y.i : Int) % (3 : Int)).toNat) (0 : Int)).toNat) : Int) + (↑y.i : Int) / (3 : Int))) : Int) != (↑((rdN y.i y.B).rd ([(65537
    : Int), (131074 : Int), (131074 : Int)].getD (addO true (0 : Nat) ((↑y.i : Int) % (3 : Int)).toNat) (0 : Int)) ((5 : Int) * (↑(segO ([(0 : Int), (1 : Int), (2 : Int)].getD (addO
    true (0 : Nat) ((↑y.i : Int) % (3 : Int)).toNat) (0 : Int)).toNat) : Int) + (↑y.i : Int) / (3 : Int))) : Int)) = false ∧ ((-9223372036854775808 : Int) ≤ (↑y.i : Int) + (1 : Int) ∧
    (↑y.i : Int) + (1 : Int) ≤ (9223372036854775807 : Int)) ∧ ∃ (y' : C3), (15 : Nat) - y'.i < (15 : Nat) - y.i ∧ W = W ∧ (0 : Nat) = (0 : Nat) ∧ (3 : Nat) = (3 : Nat) ∧ (↑y'.i : Int) =
    (↑y.i : Int) + (1 : Int) ∧ rdN y'.i y'.A = (rdN y.i y.A).read ∧ ((65537 : Int) = (65537 : Int) ∧ (0 : Int) = (0 : Int) ∧ (131074 : Int) = (131074 : Int) ∧ (1 : Int) = (1 : Int) ∧
    (131074 : Int) = (131074 : Int) ∧ (2 : Int) = (2 : Int) ∧ True) ∧ rdN y'.i y'.B = (rdN y.i y.B).read ∧ ((↑(hq y'.sl) : Int) = (↑(hq y.sl) : Int) ∧ (↑y'.sl : Int) = (↑y.sl : Int) ∧
    True) ∧ (Value.nilFunc = Value.nilFunc ∧ (0 : Nat) = (0 : Nat) ∧ (↑(hq y'.sl) : Int) = (↑(hq y.sl) : Int) ∧ (↑y'.sl : Int) = (↑y.sl : Int) ∧ True) ∧ True)) ∧ ((true == ([(65537 :
    Int), (131074 : Int), (131074 : Int)].getD (addO true (0 : Nat) ((↑y.i : Int) % (3 : Int)).toNat) (0 : Int) == (↑(hq y.sl) : Int) && ([(0 : Int), (1 : Int), (2 : Int)].getD (addO
    true (0 : Nat) ((↑y.i : Int) % (3 : Int)).toNat) (0 : Int) == (↑y.sl : Int) && true))) = false → ((↑((rdN y.i y.A).rd ([(65537 : Int), (131074 : Int), (131074 : Int)].getD (addO
    true (0 : Nat) ((↑y.i : Int) % (3 : Int)).toNat) (0 : Int)) ((5 : Int) * (↑(segO ([(0 : Int), (1 : Int), (2 : Int)].getD (addO true (0 : Nat) ((↑y.i : Int) % (3 : Int)).toNat) (0 :
    Int)).toNat) : Int) + (↑y.i : Int) / (3 : Int))) : Int) != (↑((rdN y.i y.B).rd ([(65537 : Int), (131074 : Int), (131074 : Int)].getD (addO true (0 : Nat) ((↑y.i : Int) % (3 :
    Int)).toNat) (0 : Int)) ((5 : Int) * (↑(segO ([(0 : Int), (1 : Int), (2 : Int)].getD (addO true (0 : Nat) ((↑y.i : Int) % (3 : Int)).toNat) (0 : Int)).toNat) : Int) + (↑y.i : Int) /
    (3 : Int))) : Int)) = false ∧ ((-9223372036854775808 : Int) ≤ (↑y.i : Int) + (1 : Int) ∧ (↑y.i : Int) + (1 : Int) ≤ (9223372036854775807 : Int)) ∧ ∃ (y' : C3), (15 : Nat) - y'.i <
    (15 : Nat) - y.i ∧ W = W ∧ (0 : Nat) = (0 : Nat) ∧ (3 : Nat) = (3 : Nat) ∧ (↑y'.i : Int) = (↑y.i : Int) + (1 : Int) ∧ rdN y'.i y'.A = (rdN y.i y.A).read ∧ ((65537 : Int) = (65537 :
    Int) ∧ (0 : Int) = (0 : Int) ∧ (131074 : Int) = (131074 : Int) ∧ (1 : Int) = (1 : Int) ∧ (131074 : Int) = (131074 : Int) ∧ (2 : Int) = (2 : Int) ∧ True) ∧ rdN y'.i y'.B = (rdN y.i
    y.B).read ∧ ((↑(hq y'.sl) : Int) = (↑(hq y.sl) : Int) ∧ (↑y'.sl : Int) = (↑y.sl : Int) ∧ True) ∧ (Value.nilFunc = Value.nilFunc ∧ (0 : Nat) = (0 : Nat) ∧ (↑(hq y'.sl) : Int) = (↑(hq
    y.sl) : Int) ∧ (↑y'.sl : Int) = (↑y.sl : Int) ∧ True) ∧ True)) ∧ (decide ((↑y.i : Int) < (15 : Int)) = false → ((-9223372036854775808 : Int) ≤ tlyZ (rdN y.i y.B).t (3 : Nat) + (2 :
    Int) ∧ tlyZ (rdN y.i y.B).t (3 : Nat) + (2 : Int) ≤ (9223372036854775807 : Int)) ∧ (tlyZ (rdN y.i y.A).t (3 : Nat) == tlyZ (rdN y.i y.B).t (3 : Nat) + (2 : Int)) = true ∧ some W =
    some W)) ∧ True) ∧ True)) ∧ True) := by
  kernel_rfl
theorem holdClears_run (W : World) (a : Option Addr) (len cap : Nat) (s : Int) (hc : (0 < len → a.isSome = true) ∧ (∀ j, j < len → Seen .u64 W (addOpt a j)) ∧ (0 ≤ s ∧ s ≤ 255) ∧ len ≤ maxLen) : Run (callN Try.prog (tblHC : List (Smry Try.prog XE)) (fun _ _ => false) 100 20 7 [.c (.sliv a false len cap), .c (.int false .u8 s)] ⟨[(0, .seen W)], 1⟩ (scrC W a len) (fun v m _ => retSeen W v m)) := by
  constructor
  rw [holdClears_vc]
  obtain ⟨hs, hx, ⟨h0, h255⟩, hlen⟩ := hc
  unfold maxLen at hlen
  obtain ⟨sn, rfl⟩ : ∃ n : Nat, s = n := ⟨s.toNat, by omega⟩
  simp only [sQ, lQ, Int.toNat_natCast, inSQ, inF3, inF4, Bool.and_self, if_true, oR, oR3, oR4, eqQ, rdN_rd, rdN_has, selQ]
  intro A cap1 z ad ln cp hA hcap
  repeat' first
    | with_reducible apply And.intro
    | with_reducible exact trivial
    | with_reducible exact Eq.refl _
    | with_reducible exact fun _ h => h
    | (with_reducible refine fun (h : decide _ = true) => ?_; replace h := of_decide_eq_true h)
    | (with_reducible refine fun (h : decide _ = false) => ?_; replace h := of_decide_eq_false h)
    | intro _
  any_goals first
    | ((with_reducible refine (?_ : ∃ x : Addr, _)); exact hx _ (by omega))
    | ((with_reducible refine (?_ : ∃ y : C1 len, _)); first | with_reducible refine Exists.intro (⟨‹C1 len›.k + 1, ‹C1 len›.A, by omega, ‹C1 len›.h0⟩ : C1 len) ?_ | with_reducible refine Exists.intro (⟨0, A, Nat.zero_le _, hA⟩ : C1 len) ?_)
    | ((with_reducible refine (?_ : ∃ y : C3, _)); first | with_reducible refine Exists.intro (c3n ‹C3› (by omega)) ?_ | with_reducible refine Exists.intro (c30 ‹C1 len› _ _ ‹CloneOf _ _› (sn % 3) (modQ _)) ?_)
  repeat' first
    | with_reducible apply And.intro
    | with_reducible exact trivial
    | with_reducible exact Eq.refl _
  all_goals try first
    | omega
    | exact hs (by omega)
    | exact (WOk.wrA ‹C1 len›.h0 (wF W a) ‹C1 len›.k).has (‹C1 len›.k % 3) (‹C1 len›.k / 3) (modQ _) (by omega)
    | exact (WOk.wrA ‹C1 len›.h0 (wF W a) ‹C1 len›.k).has (sn % 3) 3 (modQ _) (by decide)
    | exact ((WOk.wrA ‹C1 len›.h0 (wF W a) ‹C1 len›.k).write (q := sn % 3) (f := 3) (modQ _) (by decide) 0).has (sn % 3) 4 (modQ _) (by decide)
    | exact (‹C3›.hA (‹C3›.i % 3) (‹C3›.i / 3) (modQ _) (by omega)).1
    | exact (‹C3›.hA (‹C3›.i % 3) (‹C3›.i / 3) (modQ _) (by omega)).2.1
    | ((with_reducible refine (?_ : List.length _ ≤ 70000)); have e := (WOk.wrA ‹C1 len›.h0 (wF W a) ‹C1 len›.k).back; rw [e]; decide)
    | ((with_reducible refine (?_ : (0 : Int) ≤ seenInt _ _ _)); exact (seenInt_bd .u64 W _).1)
    | ((with_reducible refine (?_ : seenInt _ _ _ < _)); have e : seenInt .u64 W (addOpt a ‹C1 len›.k) ≤ 18446744073709551615 := (seenInt_bd .u64 W (addOpt a ‹C1 len›.k)).2; omega)
    | (have e := oB ‹C1 len›.k; omega)
    | (have e := oB ‹C3›.i; omega)
    | (have e := tlyC ‹C3›; have e2 := ‹C3›.hw; omega)
    | (have e := tlyC ‹C3›; rw [e.1, e.2]; exact beq_self_eq_true _)
    | (unfold offq; split <;> omega)
    | (have hlt : ‹C3›.i < 15 := (by omega); have e := cmpC ‹C3› hlt; rw [e]; first | (have e2 : ‹C3›.i % 3 = ‹C3›.sl ∧ 3 ≤ ‹C3›.i / 3 := ⟨by omega, by omega⟩; rw [if_pos e2]; rfl) | (have e2 : ¬ (‹C3›.i % 3 = ‹C3›.sl ∧ 3 ≤ ‹C3›.i / 3) := (by omega); rw [if_neg e2]; exact bne_self_eq_false _))
    | (show len - (_ + 1) < len - _; omega)
    | (show 15 - (_ + 1) < 15 - _; omega)
    | exact wrA_yes (by omega)
    | exact wrA_no (by omega)
    | exact rfl
end Go.Proofs.Ytgiakcepgbpchaa
