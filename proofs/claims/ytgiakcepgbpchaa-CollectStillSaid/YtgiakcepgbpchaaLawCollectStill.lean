/- CollectStill: for every slice of bytes the law returns true and turns nothing; condition: the slice is read as numbers of one byte. -/
import Derived.Test.YtgiakcepgbpchaaBaseCol
import Derived.Test.YtgiakcepgbpchaaBaseC
import Derived.Test.YtgiakcepgbpchaaBaseStill
import Derived.Test.YtgiakcepgbpchaaBaseTop
import Derived.Test.YtgiakcepgbpchaaFirst13
set_option linter.all false
namespace Go.Proofs.Ytgiakcepgbpchaa
open Go Go.RowKit
set_option maxRecDepth 1000000
set_option maxHeartbeats 0
def tblK : List (Smry Try.prog XC) := [firstS 38 (fun W => by have h := law_trueR first13 W; exact h), segsX.lift, stepX.lift, enterX.lift, faultsX.lift, colNewX, colStepX, colDoneX, colPlacesX, rsegS]
abbrev arC (A : Ar) : SO XC := .ext (HO.old (XO.ar A))
abbrev cntC (p : Nat) (st : Cnt) : SO XC := .ext (HO.old (XO.cnt p st))
def booL (f : Nat → Bool) : Nat → Nat → List SC
  | 0, _ => []
  | n + 1, i => .boo false (f i) :: booL f n (i + 1)
def allN : List Nat := (List.range 1500).map (· + 1)
structure K1 (W : World) (a : Option Addr) (len : Nat) where
  k : Nat
  cap : Nat
  A0 : Ar
  A : Ar
  hk : k ≤ len
  hc : 4 ≤ cap
  h0 : SegOk 4 A0
  ht : TopInv A0 (slF W a) k A
def stK {W : World} {a : Option Addr} {len : Nat} (y : K1 W a len) : Cnt := enterC (hsF (segG (slF W a y.k))) (seenInt .u8 W (addOpt a y.k) % 15)
def hK {W : World} {a : Option Addr} (n k cap : Nat) (A : Ar) : List (Nat × SO XC) := [(n, arC A), (n + 1, .ints 25 .u64 4 cap hsF), (n + 2, .cells (booL (isIn (slF W a) k) 15 0) 4)]
def sK (n cap : Nat) : List (Nat × SV) := [(3, .c (.ptr n 0)), (5, .c (.sli (n + 1) 1 true 0 true 4 cap)), (6, .c (.sli (n + 2) 1 true 0 true 15 15))]
def iK1 (W : World) (a : Option Addr) (len n : Nat) (y : K1 W a len) : List (Nat × SV) × List (Nat × SO XC) := ((27, .c (.int false .i64 (y.k : Int))) :: sK n y.cap, hK (W := W) (a := a) n y.k y.cap y.A)
def iK2 {W : World} {a : Option Addr} {len : Nat} (y : K1 W a len) (n : Nat) (z : {j : Nat // j ≤ 9}) : List (Nat × SV) × List (Nat × SO XC) := ((9, .c (.ptr (n + 3) 0)) :: (36, .c (.int false .i64 (z.1 : Int))) :: sK n y.cap, hK (W := W) (a := a) n y.k y.cap (runA z.1 (stK y) y.A) ++ [(n + 3, cntC n (runC z.1 (stK y)))])
structure K3 (W : World) (a : Option Addr) (len : Nat) where
  i : Nat
  cap : Nat
  A0 : Ar
  A : Ar
  hi : i ≤ 2
  hc : 4 ≤ cap
  h0 : SegOk 4 A0
  ht : TopInv A0 (slF W a) len A
def iK3 (W : World) (a : Option Addr) (len n : Nat) (y : K3 W a len) : List (Nat × SV) × List (Nat × SO XC) := ((46, .c (.int false .i64 (y.i : Int))) :: sK n y.cap, hK (W := W) (a := a) n len y.cap y.A)
def iK4 {W : World} {a : Option Addr} {len : Nat} (y : K3 W a len) (n : Nat) (z : {j : Nat // j ≤ 300}) : List (Nat × SV) × List (Nat × SO XC) := ((10, .c (.ptr (n + 3) 0)) :: (50, .c (.int false .i64 (z.1 : Int))) :: sK n y.cap, hK (W := W) (a := a) n len y.cap (crA y.A z.1) ++ [(n + 3, .ext (HO.obj [n] (crC y.A z.1)))])
def iK5 (W : World) (a : Option Addr) (len : Nat) (_ : Nat) (z : {s : Nat // s ≤ 15}) : List (Nat × SV) × List (Nat × SO XC) := ([(12, .c (.int false .i64 ((placesF (isIn (slF W a) len) z.1).length : Int))), (57, .c (.int false .i64 (z.1 : Int)))], [])
theorem slF_nat {W : World} {a : Option Addr} {k : Nat} : (seenInt .u8 W (addOpt a k) % 15).toNat = slF W a k := rfl
theorem xK {W : World} {a : Option Addr} {k : Nat} : 0 ≤ seenInt .u8 W (addOpt a k) % 15 ∧ seenInt .u8 W (addOpt a k) % 15 ≤ 14 := by
  have := Int.emod_lt_of_pos (seenInt .u8 W (addOpt a k)) (show (0 : Int) < 15 by omega)
  have := Int.emod_nonneg (seenInt .u8 W (addOpt a k)) (show (15 : Int) ≠ 0 by omega)
  omega
theorem stK_eq {W : World} {a : Option Addr} {len : Nat} (y : K1 W a len) : stK y = ⟨(segG (slF W a y.k) + 1) * 65537, slF W a y.k, 0, segG (slF W a y.k) + 1, 1⟩ := rfl
theorem okK {W : World} {a : Option Addr} {len : Nat} (y : K1 W a len) (h40 : len ≤ 40) (n : Nat) : CntOk (runC n (stK y)) (runA n (stK y) y.A) ∧ (8 ≤ n → TopInv y.A0 (slF W a) (y.k + 1) (runA n (stK y) y.A)) := by
  rw [stK_eq]
  exact y.ht.steps y.h0 (slF_le W a) (by have := y.hk; omega) n
def nextKK {W : World} {a : Option Addr} {len : Nat} (y : K1 W a len) (h : y.k < len) (h40 : len ≤ 40) (n : Nat) (h8 : 8 ≤ n) : K1 W a len := ⟨y.k + 1, y.cap, y.A0, runA n (stK y) y.A, h, y.hc, y.h0, (okK y h40 n).2 h8⟩
def k10 {W : World} {a : Option Addr} {len cap : Nat} {A : Ar} (hA : SegOk 4 A) (hc : 4 ≤ cap) : K1 W a len := ⟨0, cap, A, A, Nat.zero_le _, hc, hA, TopInv.zero hA _⟩
def k30 {W : World} {a : Option Addr} {len : Nat} (y : K1 W a len) (h : y.k = len) : K3 W a len := ⟨0, y.cap, y.A0, y.A, by decide, y.hc, y.h0, by have := y.ht; rw [h] at this; exact this⟩
def nextK3 {W : World} {a : Option Addr} {len : Nat} (y : K3 W a len) (h : y.i < 2) (j : Nat) : K3 W a len := ⟨y.i + 1, y.cap, y.A0, crA y.A j, h, y.hc, y.h0, y.ht.reads j⟩
theorem stillK {W : World} {a : Option Addr} {len : Nat} (y : K3 W a len) : Still y.A 4 (isIn (slF W a) len) := y.ht.still y.h0 (slF_le W a)
theorem isIn_zero {σ : Nat → Nat} {s : Nat} : isIn σ 0 s = false := rfl
theorem isIn_succ {σ : Nat → Nat} {k s x : Nat} (h : σ k = x) : isIn σ (k + 1) s = if x = s then true else isIn σ k s := by
  unfold isIn ownF
  simp only [countF, h]
  by_cases e : x = s
  · simp [e]
  · simp [e]
theorem colOkK {W : World} {a : Option Addr} {len : Nat} (y : K3 W a len) {j : Nat} (hj : j ≤ 300) : (crC y.A j).pl.length < 1000000000 ∧ ((crC y.A j).ph = 0 ∧ (crC y.A j).g < 8 ∨ (crC y.A j).ph = 1 ∧ (crC y.A j).g < 8 ∧ (1 ≤ (crC y.A j).node ∧ (crC y.A j).node < 2 * 2 ^ (crC y.A j).g) ∧ (crA y.A j).Has ((crC y.A j).segs (crC y.A j).g : Nat) ((5 * 2 ^ (crC y.A j).g + (crC y.A j).node : Nat) : Int) ∨ (crC y.A j).ph = 2) := by
  refine ⟨by have := crC_len y.A j; omega, ?_⟩
  have := (still_iter (stillK y)).1 j
  unfold okS at this
  rw [crA_has]
  exact this
theorem endK {W : World} {a : Option Addr} {len : Nat} (y : K3 W a len) {j : Nat} (hj : j = 300) : (crC y.A j).ph = 2 ∧ (crC y.A j).pl = placesF (isIn (slF W a) len) 15 := (still_iter (stillK y)).2 j (by rw [hj]; decide)
def getB (f : Nat → Bool) (s : Nat) : Bool := [f 0, f (0 + 1), f (0 + 1 + 1), f (0 + 1 + 1 + 1), f (0 + 1 + 1 + 1 + 1), f (0 + 1 + 1 + 1 + 1 + 1), f (0 + 1 + 1 + 1 + 1 + 1 + 1), f (0 + 1 + 1 + 1 + 1 + 1 + 1 + 1), f (0 + 1 + 1 + 1 + 1 + 1 + 1 + 1 + 1), f (0 + 1 + 1 + 1 + 1 + 1 + 1 + 1 + 1 + 1), f (0 + 1 + 1 + 1 + 1 + 1 + 1 + 1 + 1 + 1 + 1), f (0 + 1 + 1 + 1 + 1 + 1 + 1 + 1 + 1 + 1 + 1 + 1), f (0 + 1 + 1 + 1 + 1 + 1 + 1 + 1 + 1 + 1 + 1 + 1 + 1), f (0 + 1 + 1 + 1 + 1 + 1 + 1 + 1 + 1 + 1 + 1 + 1 + 1 + 1), f (0 + 1 + 1 + 1 + 1 + 1 + 1 + 1 + 1 + 1 + 1 + 1 + 1 + 1 + 1)].getD s false
theorem getB_eq {f : Nat → Bool} {s x : Nat} (h : s < 15) (e : x = s) : getB f x = f s := by
  subst e
  match x, h with
  | 0, _ | 1, _ | 2, _ | 3, _ | 4, _ | 5, _ | 6, _ | 7, _ | 8, _ | 9, _ | 10, _ | 11, _ | 12, _ | 13, _ | 14, _ => rfl
theorem yesB {f : Nat → Bool} {s : Nat} (h : s < 15) (e : (!getB f (addO true 0 (s : Int).toNat)) = false) : f s = true := by
  rw [getB_eq h (by rw [addO_eq, Int.toNat_natCast, Nat.zero_add])] at e
  cases hf : f s
  · rw [hf] at e; cases e
  · rfl
theorem noB {f : Nat → Bool} {s : Nat} (h : s < 15) (e : (!getB f (addO true 0 (s : Int).toNat)) = true) : f s = false := by
  rw [getB_eq h (by rw [addO_eq, Int.toNat_natCast, Nat.zero_add])] at e
  cases hf : f s
  · rfl
  · rw [hf] at e; cases e
theorem atK {W : World} {a : Option Addr} {len : Nat} (y : K3 W a len) {j s : Nat} (hj : j = 300) (h : s < 15) (e : (!getB (isIn (slF W a) len) (addO true 0 (s : Int).toNat)) = false) : (placesF (isIn (slF W a) len) s).length < (crC y.A j).pl.length ∧ (crC y.A j).pl.getD (addO true 0 ((placesF (isIn (slF W a) len) s).length : Int).toNat) (0, 0) = ((segG s + 1) * 65537, s) ∧ isIn (slF W a) len s = true := by
  have hy := yesB h e
  obtain ⟨h1, h2⟩ := placesF_at h hy
  rw [(endK y hj).2]
  refine ⟨h1, ?_, hy⟩
  rw [addO_eq, Int.toNat_natCast, Nat.zero_add, List.getD_eq_getElem?_getD, h2]
  rfl
theorem segG_lt {s : Nat} (h : s < 15) : addO true 0 (↑(segG ((s : Int) % 15).toNat) : Int).toNat = segG s ∧ segG s < 4 := by
  have e : ((s : Int) % 15).toNat = s := by omega
  rw [e, addO_eq, Int.toNat_natCast, Nat.zero_add]
  exact ⟨rfl, by have := segG_14 (s := s) (by omega); omega⟩
theorem cmpK {p : Nat × Nat} {s : Nat} (h : s < 15) (e : p = ((segG s + 1) * 65537, s)) : (false == (((p.1 : Int) == hsF (addO true 0 (↑(segG ((s : Int) % 15).toNat) : Int).toNat)) && (((p.2 : Int) == (s : Int) % 15) && true))) = false := by
  subst e
  rw [(segG_lt h).1]
  have e1 : ((((segG s + 1) * 65537 : Nat) : Int) == hsF (segG s)) = true := beq_self_eq_true _
  have e2 : ((s : Int) == (s : Int) % 15) = true := by
    rw [show (s : Int) % 15 = s by omega]
    exact beq_self_eq_true _
  show (false == (((((segG s + 1) * 65537 : Nat) : Int) == hsF (segG s)) && (((s : Int) == (s : Int) % 15) && true))) = false
  rw [e1, e2]
  rfl
theorem segKl {W : World} {a : Option Addr} {k : Nat} : (segG (seenInt .u8 W (addOpt a (k : Int).toNat) % 15).toNat) < 4 := by
  rw [Int.toNat_natCast]
  have := segG_14 (slF_le W a k)
  unfold slF at this
  omega
theorem inK {W : World} {a : Option Addr} {k s : Nat} {inst : Decidable (addO true 0 (seenInt .u8 W (addOpt a (k : Int).toNat) % 15).toNat = s)} : isIn (slF W a) (k + 1) s = @ite _ (addO true 0 (seenInt .u8 W (addOpt a (k : Int).toNat) % 15).toNat = s) inst true (isIn (slF W a) k s) := by
  rw [isIn_succ (x := addO true 0 (seenInt .u8 W (addOpt a (k : Int).toNat) % 15).toNat) (by rw [addO_eq, Int.toNat_natCast, Nat.zero_add]; rfl)]
  congr
def scrK (W : World) (a : Option Addr) (len : Nat) : Scr XC := .both .nil (.inv (liveL [0, 3, 5, 6, 25, 26, 27]) allN (K1 W a len) (iK1 W a len) (fun y => len - y.k) fun y => .both
  (.inv (liveL [0, 3, 5, 6, 8, 9, 25, 26, 27, 36]) allN {j : Nat // j ≤ 9} (iK2 y) (fun z => 9 - z.1) fun _ => .both .nil .nil)
  (.inv (liveL [3, 5, 6, 46]) allN (K3 W a len) (iK3 W a len) (fun y => 2 - y.i) fun y => .both
    (.inv (liveL [3, 5, 6, 10, 46, 50]) allN {j : Nat // j ≤ 300} (iK4 y) (fun z => 300 - z.1) fun _ => .both .nil
      (.inv (liveL [3, 5, 6, 10, 11, 12, 46, 57]) [] {s : Nat // s ≤ 15} (iK5 W a len) (fun z => 15 - z.1) fun _ => .both (.both .nil (.f (.f (.f .nil)))) (.f (.f (.f .nil)))))
    .nil))
/-- What the executor leaves to be shown of roundelay/roundelaylaw13.CollectStill, written out. -/
theorem collStill_vc (W : World) (a : Option Addr) (len cap : Nat) : (callN Try.prog (tblK : List (Smry Try.prog XC)) (fun _ _ => false) 100 20 6 [.c (.sliv a false len cap)] ⟨[(0, .seen W)], 1⟩ (scrK W a len) (fun v m _ => retSeen W v m)) = (
    (decide ((↑len : Int) > (40 : Int)) = true → true = true ∧ some W = some W) ∧ (decide ((↑len : Int) > (40 : Int)) = false → ∀ (A : Ar) (cap_1 : Nat) (z : Nat → Int) (ad : Option
    Addr) (ln cp : Nat), SegOk (4 : Nat) A → (4 : Nat) ≤ cap_1 → (∃ (y : K1 W a len), a = a ∧ len = len ∧ cap = cap ∧ a = a ∧ len = len ∧ cap = cap ∧ (↑len : Int) = (↑len : Int) ∧ W = W
    ∧ (↑y.k : Int) = (0 : Int) ∧ (0 : Nat) = (0 : Nat) ∧ y.cap = cap_1 ∧ (0 : Nat) = (0 : Nat) ∧ (15 : Nat) = (15 : Nat) ∧ y.A = A ∧ ((4 : Nat) = (4 : Nat) ∧ y.cap = cap_1 ∧ ∀ (i :
    Nat), i < (4 : Nat) → hsF i = hsF i) ∧ (isIn (slF W a) y.k (0 : Nat) = false ∧ isIn (slF W a) y.k (1 : Nat) = false ∧ isIn (slF W a) y.k (2 : Nat) = false ∧ isIn (slF W a) y.k (3 :
    Nat) = false ∧ isIn (slF W a) y.k (4 : Nat) = false ∧ isIn (slF W a) y.k (5 : Nat) = false ∧ isIn (slF W a) y.k (6 : Nat) = false ∧ isIn (slF W a) y.k (7 : Nat) = false ∧ isIn (slF
    W a) y.k (8 : Nat) = false ∧ isIn (slF W a) y.k (9 : Nat) = false ∧ isIn (slF W a) y.k (10 : Nat) = false ∧ isIn (slF W a) y.k (11 : Nat) = false ∧ isIn (slF W a) y.k (12 : Nat) =
    false ∧ isIn (slF W a) y.k (13 : Nat) = false ∧ isIn (slF W a) y.k (14 : Nat) = false ∧ True) ∧ True) ∧ ∀ (y : K1 W a len) (ρ : Nat → Value), (decide ((↑y.k : Int) < (↑len : Int)) =
    true → ((0 : Int) ≤ (↑y.k : Int) ∧ (↑y.k : Int) < (↑len : Int) ∧ a.isSome = true) ∧ (∃ (x : Addr), addOpt a (↑y.k : Int).toNat = some x ∧ W.cell? x = some (Value.int IntKind.u8
    (seenInt IntKind.u8 W (addOpt a (↑y.k : Int).toNat)))) ∧ ((0 : Int) ≤ (↑(segG (seenInt IntKind.u8 W (addOpt a (↑y.k : Int).toNat) % (15 : Int)).toNat) : Int) ∧ (↑(segG (seenInt
    IntKind.u8 W (addOpt a (↑y.k : Int).toNat) % (15 : Int)).toNat) : Int) < (4 : Int)) ∧ addO true (0 : Nat) (↑(segG (seenInt IntKind.u8 W (addOpt a (↑y.k : Int).toNat) % (15 :
    Int)).toNat) : Int).toNat < (4 : Nat) ∧ ((0 : Int) ≤ hsF (addO true (0 : Nat) (↑(segG (seenInt IntKind.u8 W (addOpt a (↑y.k : Int).toNat) % (15 : Int)).toNat) : Int).toNat) ∧ (0 :
    Int) ≤ seenInt IntKind.u8 W (addOpt a (↑y.k : Int).toNat) % (15 : Int) ∧ seenInt IntKind.u8 W (addOpt a (↑y.k : Int).toNat) % (15 : Int) ≤ (254 : Int)) ∧ (∃ (y_1 : { j : Nat // j ≤
    (9 : Nat) }), a = a ∧ len = len ∧ cap = cap ∧ seenInt IntKind.u8 W (addOpt a (↑y.k : Int).toNat) = seenInt IntKind.u8 W (addOpt a (↑y.k : Int).toNat) ∧ a = a ∧ len = len ∧ cap = cap
    ∧ (↑len : Int) = (↑len : Int) ∧ (↑y.k : Int) = (↑y.k : Int) ∧ W = W ∧ (↑y_1.val : Int) = (0 : Int) ∧ (0 : Nat) = (0 : Nat) ∧ y.cap = y.cap ∧ (0 : Nat) = (0 : Nat) ∧ (15 : Nat) = (15
    : Nat) ∧ runA y_1.val (stK y) y.A = y.A ∧ ((4 : Nat) = (4 : Nat) ∧ y.cap = y.cap ∧ ∀ (i : Nat), i < (4 : Nat) → hsF i = hsF i) ∧ (isIn (slF W a) y.k (0 : Nat) = isIn (slF W a) y.k
    (0 : Nat) ∧ isIn (slF W a) y.k (1 : Nat) = isIn (slF W a) y.k (1 : Nat) ∧ isIn (slF W a) y.k (2 : Nat) = isIn (slF W a) y.k (2 : Nat) ∧ isIn (slF W a) y.k (3 : Nat) = isIn (slF W a)
    y.k (3 : Nat) ∧ isIn (slF W a) y.k (4 : Nat) = isIn (slF W a) y.k (4 : Nat) ∧ isIn (slF W a) y.k (5 : Nat) = isIn (slF W a) y.k (5 : Nat) ∧ isIn (slF W a) y.k (6 : Nat) = isIn (slF
    W a) y.k (6 : Nat) ∧ isIn (slF W a) y.k (7 : Nat) = isIn (slF W a) y.k (7 : Nat) ∧ isIn (slF W a) y.k (8 : Nat) = isIn (slF W a) y.k (8 : Nat) ∧ isIn (slF W a) y.k (9 : Nat) = isIn
    (slF W a) y.k (9 : Nat) ∧ isIn (slF W a) y.k (10 : Nat) = isIn (slF W a) y.k (10 : Nat) ∧ isIn (slF W a) y.k (11 : Nat) = isIn (slF W a) y.k (11 : Nat) ∧ isIn (slF W a) y.k (12 :
    Nat) = isIn (slF W a) y.k (12 : Nat) ∧ isIn (slF W a) y.k (13 : Nat) = isIn (slF W a) y.k (13 : Nat) ∧ isIn (slF W a) y.k (14 : Nat) = isIn (slF W a) y.k (14 : Nat) ∧ True) ∧ runC
    y_1.val (stK y) = enterC (hsF (addO true (0 : Nat) (↑(segG (seenInt IntKind.u8 W (addOpt a (↑y.k : Int).toNat) % (15 : Int)).toNat) : Int).toNat)) (seenInt IntKind.u8 W (addOpt a
    (↑y.k : Int).toNat) % (15 : Int)) ∧ True) ∧ ∀ (y_1 : { j : Nat // j ≤ (9 : Nat) }) (ρ : Nat → Value), (decide ((↑y_1.val : Int) < (9 : Int)) = true → CntOk (runC y_1.val (stK y))
    (runA y_1.val (stK y) y.A) ∧ ((-9223372036854775808 : Int) ≤ (↑y_1.val : Int) + (1 : Int) ∧ (↑y_1.val : Int) + (1 : Int) ≤ (9223372036854775807 : Int)) ∧ ∃ (y' : { j : Nat // j ≤ (9
    : Nat) }), (9 : Nat) - y'.val < (9 : Nat) - y_1.val ∧ a = a ∧ len = len ∧ cap = cap ∧ seenInt IntKind.u8 W (addOpt a (↑y.k : Int).toNat) = seenInt IntKind.u8 W (addOpt a (↑y.k :
    Int).toNat) ∧ a = a ∧ len = len ∧ cap = cap ∧ (↑len : Int) = (↑len : Int) ∧ (↑y.k : Int) = (↑y.k : Int) ∧ W = W ∧ (↑y'.val : Int) = (↑y_1.val : Int) + (1 : Int) ∧ (0 : Nat) = (0 :
    Nat) ∧ y.cap = y.cap ∧ (0 : Nat) = (0 : Nat) ∧ (15 : Nat) = (15 : Nat) ∧ runA y'.val (stK y) y.A = stepA (runC y_1.val (stK y)) (runA y_1.val (stK y) y.A) ∧ ((4 : Nat) = (4 : Nat) ∧
    y.cap = y.cap ∧ ∀ (i : Nat), i < (4 : Nat) → hsF i = hsF i) ∧ (isIn (slF W a) y.k (0 : Nat) = isIn (slF W a) y.k (0 : Nat) ∧ isIn (slF W a) y.k (1 : Nat) = isIn (slF W a) y.k (1 :
    Nat) ∧ isIn (slF W a) y.k (2 : Nat) = isIn (slF W a) y.k (2 : Nat) ∧ isIn (slF W a) y.k (3 : Nat) = isIn (slF W a) y.k (3 : Nat) ∧ isIn (slF W a) y.k (4 : Nat) = isIn (slF W a) y.k
    (4 : Nat) ∧ isIn (slF W a) y.k (5 : Nat) = isIn (slF W a) y.k (5 : Nat) ∧ isIn (slF W a) y.k (6 : Nat) = isIn (slF W a) y.k (6 : Nat) ∧ isIn (slF W a) y.k (7 : Nat) = isIn (slF W a)
    y.k (7 : Nat) ∧ isIn (slF W a) y.k (8 : Nat) = isIn (slF W a) y.k (8 : Nat) ∧ isIn (slF W a) y.k (9 : Nat) = isIn (slF W a) y.k (9 : Nat) ∧ isIn (slF W a) y.k (10 : Nat) = isIn (slF
    W a) y.k (10 : Nat) ∧ isIn (slF W a) y.k (11 : Nat) = isIn (slF W a) y.k (11 : Nat) ∧ isIn (slF W a) y.k (12 : Nat) = isIn (slF W a) y.k (12 : Nat) ∧ isIn (slF W a) y.k (13 : Nat) =
    isIn (slF W a) y.k (13 : Nat) ∧ isIn (slF W a) y.k (14 : Nat) = isIn (slF W a) y.k (14 : Nat) ∧ True) ∧ runC y'.val (stK y) = stepC (runC y_1.val (stK y)) ∧ True) ∧ (decide
    ((↑y_1.val : Int) < (9 : Int)) = false → addO true (0 : Nat) (seenInt IntKind.u8 W (addOpt a (↑y.k : Int).toNat) % (15 : Int)).toNat < (15 : Nat) ∧ ((-9223372036854775808 : Int) ≤
    (↑y.k : Int) + (1 : Int) ∧ (↑y.k : Int) + (1 : Int) ≤ (9223372036854775807 : Int)) ∧ ∃ (y' : K1 W a len), len - y'.k < len - y.k ∧ a = a ∧ len = len ∧ cap = cap ∧ a = a ∧ len = len
    ∧ cap = cap ∧ (↑len : Int) = (↑len : Int) ∧ W = W ∧ (↑y'.k : Int) = (↑y.k : Int) + (1 : Int) ∧ (0 : Nat) = (0 : Nat) ∧ y'.cap = y.cap ∧ (0 : Nat) = (0 : Nat) ∧ (15 : Nat) = (15 :
    Nat) ∧ y'.A = runA y_1.val (stK y) y.A ∧ ((4 : Nat) = (4 : Nat) ∧ y'.cap = y.cap ∧ ∀ (i : Nat), i < (4 : Nat) → hsF i = hsF i) ∧ ((isIn (slF W a) y'.k (0 : Nat) = if addO true (0 :
    Nat) (seenInt IntKind.u8 W (addOpt a (↑y.k : Int).toNat) % (15 : Int)).toNat = (0 : Nat) then true else isIn (slF W a) y.k (0 : Nat)) ∧ (isIn (slF W a) y'.k (1 : Nat) = if addO true
    (0 : Nat) (seenInt IntKind.u8 W (addOpt a (↑y.k : Int).toNat) % (15 : Int)).toNat = (1 : Nat) then true else isIn (slF W a) y.k (1 : Nat)) ∧ (isIn (slF W a) y'.k (2 : Nat) = if addO
    true (0 : Nat) (seenInt IntKind.u8 W (addOpt a (↑y.k : Int).toNat) % (15 : Int)).toNat = (2 : Nat) then true else isIn (slF W a) y.k (2 : Nat)) ∧ (isIn (slF W a) y'.k (3 : Nat) = if
    addO true (0 : Nat) (seenInt IntKind.u8 W (addOpt a (↑y.k : Int).toNat) % (15 : Int)).toNat = (3 : Nat) then true else isIn (slF W a) y.k (3 : Nat)) ∧ (isIn (slF W a) y'.k (4 : Nat)
    = if addO true (0 : Nat) (seenInt IntKind.u8 W (addOpt a (↑y.k : Int).toNat) % (15 : Int)).toNat = (4 : Nat) then true else isIn (slF W a) y.k (4 : Nat)) ∧ (isIn (slF W a) y'.k (5 :
    Nat) = if addO true (0 : Nat) (seenInt IntKind.u8 W (addOpt a (↑y.k : Int).toNat) % (15 : Int)).toNat = (5 : Nat) then true else isIn (slF W a) y.k (5 : Nat)) ∧ (isIn (slF W a) y'.k
    (6 : Nat) = if addO true (0 : Nat) (seenInt IntKind.u8 W (addOpt a (↑y.k : Int).toNat) % (15 : Int)).toNat = (6 : Nat) then true else isIn (slF W a) y.k (6 : Nat)) ∧ (isIn (slF W a)
    y'.k (7 : Nat) = if addO true (0 : Nat) (seenInt IntKind.u8 W (addOpt a (↑y.k : Int).toNat) % (15 : Int)).toNat = (7 : Nat) then true else isIn (slF W a) y.k (7 : Nat)) ∧ (isIn (slF
    W a) y'.k (8 : Nat) = if addO true (0 : Nat) (seenInt IntKind.u8 W (addOpt a (↑y.k : Int).toNat) % (15 : Int)).toNat = (8 : Nat) then true else isIn (slF W a) y.k (8 : Nat)) ∧ (isIn
    (slF W a) y'.k (9 : Nat) = if addO true (0 : Nat) (seenInt IntKind.u8 W (addOpt a (↑y.k : Int).toNat) % (15 : Int)).toNat = (9 : Nat) then true else isIn (slF W a) y.k (9 : Nat)) ∧
    (isIn (slF W a) y'.k (10 : Nat) = if addO true (0 : Nat) (seenInt IntKind.u8 W (addOpt a (↑y.k : Int).toNat) % (15 : Int)).toNat = (10 : Nat) then true else isIn (slF W a) y.k (10 :
    Nat)) ∧ (isIn (slF W a) y'.k (11 : Nat) = if addO true (0 : Nat) (seenInt IntKind.u8 W (addOpt a (↑y.k : Int).toNat) % (15 : Int)).toNat = (11 : Nat) then true else isIn (slF W a)
    y.k (11 : Nat)) ∧ (isIn (slF W a) y'.k (12 : Nat) = if addO true (0 : Nat) (seenInt IntKind.u8 W (addOpt a (↑y.k : Int).toNat) % (15 : Int)).toNat = (12 : Nat) then true else isIn
    (slF W a) y.k (12 : Nat)) ∧ (isIn (slF W a) y'.k (13 : Nat) = if addO true (0 : Nat) (seenInt IntKind.u8 W (addOpt a (↑y.k : Int).toNat) % (15 : Int)).toNat = (13 : Nat) then true
    else isIn (slF W a) y.k (13 : Nat)) ∧ (isIn (slF W a) y'.k (14 : Nat) = if addO true (0 : Nat) (seenInt IntKind.u8 W (addOpt a (↑y.k : Int).toNat) % (15 : Int)).toNat = (14 : Nat)
    then true else isIn (slF W a) y.k (14 : Nat)) ∧ True) ∧ True)) ∧ (decide ((↑y.k : Int) < (↑len : Int)) = false → (∃ (y_1 : K3 W a len), W = W ∧ (↑y_1.i : Int) = (0 : Int) ∧ (0 :
    Nat) = (0 : Nat) ∧ y_1.cap = y.cap ∧ (0 : Nat) = (0 : Nat) ∧ (15 : Nat) = (15 : Nat) ∧ y_1.A = y.A ∧ ((4 : Nat) = (4 : Nat) ∧ y_1.cap = y.cap ∧ ∀ (i : Nat), i < (4 : Nat) → hsF i =
    hsF i) ∧ (isIn (slF W a) len (0 : Nat) = isIn (slF W a) y.k (0 : Nat) ∧ isIn (slF W a) len (1 : Nat) = isIn (slF W a) y.k (1 : Nat) ∧ isIn (slF W a) len (2 : Nat) = isIn (slF W a)
    y.k (2 : Nat) ∧ isIn (slF W a) len (3 : Nat) = isIn (slF W a) y.k (3 : Nat) ∧ isIn (slF W a) len (4 : Nat) = isIn (slF W a) y.k (4 : Nat) ∧ isIn (slF W a) len (5 : Nat) = isIn (slF
    W a) y.k (5 : Nat) ∧ isIn (slF W a) len (6 : Nat) = isIn (slF W a) y.k (6 : Nat) ∧ isIn (slF W a) len (7 : Nat) = isIn (slF W a) y.k (7 : Nat) ∧ isIn (slF W a) len (8 : Nat) = isIn
    (slF W a) y.k (8 : Nat) ∧ isIn (slF W a) len (9 : Nat) = isIn (slF W a) y.k (9 : Nat) ∧ isIn (slF W a) len (10 : Nat) = isIn (slF W a) y.k (10 : Nat) ∧ isIn (slF W a) len (11 : Nat)
    = isIn (slF W a) y.k (11 : Nat) ∧ isIn (slF W a) len (12 : Nat) = isIn (slF W a) y.k (12 : Nat) ∧ isIn (slF W a) len (13 : Nat) = isIn (slF W a) y.k (13 : Nat) ∧ isIn (slF W a) len
    (14 : Nat) = isIn (slF W a) y.k (14 : Nat) ∧ True) ∧ True) ∧ ∀ (y : K3 W a len) (ρ : Nat → Value), (decide ((↑y.i : Int) < (2 : Int)) = true → True ∧ (∃ (y_1 : { j : Nat // j ≤ (300
    : Nat) }), (↑y.i : Int) = (↑y.i : Int) ∧ W = W ∧ (↑y_1.val : Int) = (0 : Int) ∧ (0 : Nat) = (0 : Nat) ∧ y.cap = y.cap ∧ (0 : Nat) = (0 : Nat) ∧ (15 : Nat) = (15 : Nat) ∧ crA y.A
    y_1.val = y.A ∧ ((4 : Nat) = (4 : Nat) ∧ y.cap = y.cap ∧ ∀ (i : Nat), i < (4 : Nat) → hsF i = hsF i) ∧ (isIn (slF W a) len (0 : Nat) = isIn (slF W a) len (0 : Nat) ∧ isIn (slF W a)
    len (1 : Nat) = isIn (slF W a) len (1 : Nat) ∧ isIn (slF W a) len (2 : Nat) = isIn (slF W a) len (2 : Nat) ∧ isIn (slF W a) len (3 : Nat) = isIn (slF W a) len (3 : Nat) ∧ isIn (slF
    W a) len (4 : Nat) = isIn (slF W a) len (4 : Nat) ∧ isIn (slF W a) len (5 : Nat) = isIn (slF W a) len (5 : Nat) ∧ isIn (slF W a) len (6 : Nat) = isIn (slF W a) len (6 : Nat) ∧ isIn
    (slF W a) len (7 : Nat) = isIn (slF W a) len (7 : Nat) ∧ isIn (slF W a) len (8 : Nat) = isIn (slF W a) len (8 : Nat) ∧ isIn (slF W a) len (9 : Nat) = isIn (slF W a) len (9 : Nat) ∧
    isIn (slF W a) len (10 : Nat) = isIn (slF W a) len (10 : Nat) ∧ isIn (slF W a) len (11 : Nat) = isIn (slF W a) len (11 : Nat) ∧ isIn (slF W a) len (12 : Nat) = isIn (slF W a) len
    (12 : Nat) ∧ isIn (slF W a) len (13 : Nat) = isIn (slF W a) len (13 : Nat) ∧ isIn (slF W a) len (14 : Nat) = isIn (slF W a) len (14 : Nat) ∧ True) ∧ crC y.A y_1.val = col0 ∧ True) ∧
    ∀ (y_1 : { j : Nat // j ≤ (300 : Nat) }) (ρ : Nat → Value), (decide ((↑y_1.val : Int) < (300 : Int)) = true → ((crC y.A y_1.val).pl.length < (1000000000 : Nat) ∧ ((crC y.A
    y_1.val).ph = (0 : Nat) ∧ (crC y.A y_1.val).g < (8 : Nat) ∨ (crC y.A y_1.val).ph = (1 : Nat) ∧ (crC y.A y_1.val).g < (8 : Nat) ∧ ((1 : Nat) ≤ (crC y.A y_1.val).node ∧ (crC y.A
    y_1.val).node < (2 : Nat) * (2 : Nat) ^ (crC y.A y_1.val).g) ∧ (crA y.A y_1.val).Has (↑((crC y.A y_1.val).4 (crC y.A y_1.val).g) : Int) (↑((5 : Nat) * (2 : Nat) ^ (crC y.A
    y_1.val).g + (crC y.A y_1.val).node) : Int) ∨ (crC y.A y_1.val).ph = (2 : Nat))) ∧ ((-9223372036854775808 : Int) ≤ (↑y_1.val : Int) + (1 : Int) ∧ (↑y_1.val : Int) + (1 : Int) ≤
    (9223372036854775807 : Int)) ∧ ∃ (y' : { j : Nat // j ≤ (300 : Nat) }), (300 : Nat) - y'.val < (300 : Nat) - y_1.val ∧ (↑y.i : Int) = (↑y.i : Int) ∧ W = W ∧ (↑y'.val : Int) =
    (↑y_1.val : Int) + (1 : Int) ∧ (0 : Nat) = (0 : Nat) ∧ y.cap = y.cap ∧ (0 : Nat) = (0 : Nat) ∧ (15 : Nat) = (15 : Nat) ∧ crA y.A y'.val = colRead (crC y.A y_1.val) (crA y.A y_1.val)
    ∧ ((4 : Nat) = (4 : Nat) ∧ y.cap = y.cap ∧ ∀ (i : Nat), i < (4 : Nat) → hsF i = hsF i) ∧ (isIn (slF W a) len (0 : Nat) = isIn (slF W a) len (0 : Nat) ∧ isIn (slF W a) len (1 : Nat)
    = isIn (slF W a) len (1 : Nat) ∧ isIn (slF W a) len (2 : Nat) = isIn (slF W a) len (2 : Nat) ∧ isIn (slF W a) len (3 : Nat) = isIn (slF W a) len (3 : Nat) ∧ isIn (slF W a) len (4 :
    Nat) = isIn (slF W a) len (4 : Nat) ∧ isIn (slF W a) len (5 : Nat) = isIn (slF W a) len (5 : Nat) ∧ isIn (slF W a) len (6 : Nat) = isIn (slF W a) len (6 : Nat) ∧ isIn (slF W a) len
    (7 : Nat) = isIn (slF W a) len (7 : Nat) ∧ isIn (slF W a) len (8 : Nat) = isIn (slF W a) len (8 : Nat) ∧ isIn (slF W a) len (9 : Nat) = isIn (slF W a) len (9 : Nat) ∧ isIn (slF W a)
    len (10 : Nat) = isIn (slF W a) len (10 : Nat) ∧ isIn (slF W a) len (11 : Nat) = isIn (slF W a) len (11 : Nat) ∧ isIn (slF W a) len (12 : Nat) = isIn (slF W a) len (12 : Nat) ∧ isIn
    (slF W a) len (13 : Nat) = isIn (slF W a) len (13 : Nat) ∧ isIn (slF W a) len (14 : Nat) = isIn (slF W a) len (14 : Nat) ∧ True) ∧ crC y.A y'.val = colXF (crC y.A y_1.val) (XO.ar
    (crA y.A y_1.val)) ∧ True) ∧ (decide ((↑y_1.val : Int) < (300 : Int)) = false → ((crC y.A y_1.val).ph = (2 : Nat) ∧ (crC y.A y_1.val).pl.length < (1000000000 : Nat)) ∧ ((crC y.A
    y_1.val).pl.length = (0 : Nat) → (∃ (y_2 : { s : Nat // s ≤ (15 : Nat) }), (0 : Nat) = (0 : Nat) ∧ y.cap = y.cap ∧ (0 : Nat) = (0 : Nat) ∧ (15 : Nat) = (15 : Nat) ∧ (↑y.i : Int) =
    (↑y.i : Int) ∧ HO.old (E := XE) (H := colH) (XO.ar (crA y.A y_1.val)) = HO.old (E := XE) (H := colH) (XO.ar (crA y.A y_1.val)) ∧ (4 : Nat) = (4 : Nat) ∧ y.cap = y.cap ∧ hsF = hsF ∧
    isIn (slF W a) len (0 : Nat) = isIn (slF W a) len (0 : Nat) ∧ isIn (slF W a) len (1 : Nat) = isIn (slF W a) len (1 : Nat) ∧ isIn (slF W a) len (2 : Nat) = isIn (slF W a) len (2 :
    Nat) ∧ isIn (slF W a) len (3 : Nat) = isIn (slF W a) len (3 : Nat) ∧ isIn (slF W a) len (4 : Nat) = isIn (slF W a) len (4 : Nat) ∧ isIn (slF W a) len (5 : Nat) = isIn (slF W a) len
    (5 : Nat) ∧ isIn (slF W a) len (6 : Nat) = isIn (slF W a) len (6 : Nat) ∧ isIn (slF W a) len (7 : Nat) = isIn (slF W a) len (7 : Nat) ∧ isIn (slF W a) len (8 : Nat) = isIn (slF W a)
    len (8 : Nat) ∧ isIn (slF W a) len (9 : Nat) = isIn (slF W a) len (9 : Nat) ∧ isIn (slF W a) len (10 : Nat) = isIn (slF W a) len (10 : Nat) ∧ isIn (slF W a) len (11 : Nat) = isIn
    (slF W a) len (11 : Nat) ∧ isIn (slF W a) len (12 : Nat) = isIn (slF W a) len (12 : Nat) ∧ isIn (slF W a) len (13 : Nat) = isIn (slF W a) len (13 : Nat) ∧ isIn (slF W a) len (14 :
    Nat) = isIn (slF W a) len (14 : Nat) ∧ HO.obj (E := XE) (H := colH) [(95 : Nat)] (crC y.A y_1.val) = HO.obj (E := XE) (H := colH) [(95 : Nat)] (crC y.A y_1.val) ∧ W = W ∧ (↑(placesF
    (isIn (slF W a) len) y_2.val).length : Int) = (0 : Int) ∧ (↑y_2.val : Int) = (0 : Int) ∧ True) ∧ ∀ (y_2 : { s : Nat // s ≤ (15 : Nat) }) (ρ : Nat → Value), (decide ((↑y_2.val : Int)
    < (15 : Int)) = true → ((0 : Int) ≤ (↑y_2.val : Int) ∧ (↑y_2.val : Int) < (15 : Int)) ∧ addO true (0 : Nat) (↑y_2.val : Int).toNat < (15 : Nat) ∧ ((![isIn (slF W a) len (0 : Nat),
    isIn (slF W a) len ((0 : Nat) + (1 : Nat)), isIn (slF W a) len ((0 : Nat) + (1 : Nat) + (1 : Nat)), isIn (slF W a) len ((0 : Nat) + (1 : Nat) + (1 : Nat) + (1 : Nat)), isIn (slF W
    a) len ((0 : Nat) + (1 : Nat) + (1 : Nat) + (1 : Nat) + (1 : Nat)), isIn (slF W a) len ((0 : Nat) + (1 : Nat) + (1 : Nat) + (1 : Nat) + (1 : Nat) + (1 : Nat)), isIn (slF W a) len
    ((0 : Nat) + (1 : Nat) + (1 : Nat) + (1 : Nat) + (1 : Nat) + (1 : Nat) + (1 : Nat)), isIn (slF W a) len ((0 : Nat) + (1 : Nat) + (1 : Nat) + (1 : Nat) + (1 : Nat) + (1 : Nat) + (1 :
    Nat) + (1 : Nat)), isIn (slF W a) len ((0 : Nat) + (1 : Nat) + (1 : Nat) + (1 : Nat) + (1 : Nat) + (1 : Nat) + (1 : Nat) + (1 : Nat) + (1 : Nat)), isIn (slF W a) len ((0 : Nat) + (1
    : Nat) + (1 : Nat) + (1 : Nat) + (1 : Nat) + (1 : Nat) + (1 : Nat) + (1 : Nat) + (1 : Nat) + (1 : Nat)), isIn (slF W a) len ((0 : Nat) + (1 : Nat) + (1 : Nat) + (1 : Nat) + (1 :
    Nat) + (1 : Nat) + (1 : Nat) + (1 : Nat) + (1 : Nat) + (1 : Nat) + (1 : Nat)), isIn (slF W a) len ((0 : Nat) + (1 : Nat) + (1 : Nat) + (1 : Nat) + (1 : Nat) + (1 : Nat) + (1 : Nat)
    + (1 : Nat) + (1 : Nat) + (1 : Nat) + (1 : Nat) + (1 : Nat)), isIn (slF W a) len ((0 : Nat) + (1 : Nat) + (1 : Nat) + (1 : Nat) + (1 : Nat) + (1 : Nat) + (1 : Nat) + (1 : Nat) + (1
    : Nat) + (1 : Nat) + (1 : Nat) + (1 : Nat) + (1 : Nat)), isIn (slF W a) len ((0 : Nat) + (1 : Nat) + (1 : Nat) + (1 : Nat) + (1 : Nat) + (1 : Nat) + (1 : Nat) + (1 : Nat) + (1 :
    Nat) + (1 : Nat) + (1 : Nat) + (1 : Nat) + (1 : Nat) + (1 : Nat)), isIn (slF W a) len ((0 : Nat) + (1 : Nat) + (1 : Nat) + (1 : Nat) + (1 : Nat) + (1 : Nat) + (1 : Nat) + (1 : Nat)
    + (1 : Nat) + (1 : Nat) + (1 : Nat) + (1 : Nat) + (1 : Nat) + (1 : Nat) + (1 : Nat))].getD (addO true (0 : Nat) (↑y_2.val : Int).toNat) false) = true → ((-9223372036854775808 : Int)
    ≤ (↑y_2.val : Int) + (1 : Int) ∧ (↑y_2.val : Int) + (1 : Int) ≤ (9223372036854775807 : Int)) ∧ ∃ (y' : { s : Nat // s ≤ (15 : Nat) }), (15 : Nat) - y'.val < (15 : Nat) - y_2.val ∧
    (0 : Nat) = (0 : Nat) ∧ y.cap = y.cap ∧ (0 : Nat) = (0 : Nat) ∧ (15 : Nat) = (15 : Nat) ∧ (↑y.i : Int) = (↑y.i : Int) ∧ HO.old (E := XE) (H := colH) (XO.ar (crA y.A y_1.val)) =
    HO.old (E := XE) (H := colH) (XO.ar (crA y.A y_1.val)) ∧ (4 : Nat) = (4 : Nat) ∧ y.cap = y.cap ∧ hsF = hsF ∧ isIn (slF W a) len (0 : Nat) = isIn (slF W a) len (0 : Nat) ∧ isIn (slF
    W a) len (1 : Nat) = isIn (slF W a) len (1 : Nat) ∧ isIn (slF W a) len (2 : Nat) = isIn (slF W a) len (2 : Nat) ∧ isIn (slF W a) len (3 : Nat) = isIn (slF W a) len (3 : Nat) ∧ isIn
    (slF W a) len (4 : Nat) = isIn (slF W a) len (4 : Nat) ∧ isIn (slF W a) len (5 : Nat) = isIn (slF W a) len (5 : Nat) ∧ isIn (slF W a) len (6 : Nat) = isIn (slF W a) len (6 : Nat) ∧
    isIn (slF W a) len (7 : Nat) = isIn (slF W a) len (7 : Nat) ∧ isIn (slF W a) len (8 : Nat) = isIn (slF W a) len (8 : Nat) ∧ isIn (slF W a) len (9 : Nat) = isIn (slF W a) len (9 :
    Nat) ∧ isIn (slF W a) len (10 : Nat) = isIn (slF W a) len (10 : Nat) ∧ isIn (slF W a) len (11 : Nat) = isIn (slF W a) len (11 : Nat) ∧ isIn (slF W a) len (12 : Nat) = isIn (slF W a)
    len (12 : Nat) ∧ isIn (slF W a) len (13 : Nat) = isIn (slF W a) len (13 : Nat) ∧ isIn (slF W a) len (14 : Nat) = isIn (slF W a) len (14 : Nat) ∧ HO.obj (E := XE) (H := colH) [(95 :
    Nat)] (crC y.A y_1.val) = HO.obj (E := XE) (H := colH) [(95 : Nat)] (crC y.A y_1.val) ∧ W = W ∧ (↑(placesF (isIn (slF W a) len) y'.val).length : Int) = (↑(placesF (isIn (slF W a)
    len) y_2.val).length : Int) ∧ (↑y'.val : Int) = (↑y_2.val : Int) + (1 : Int) ∧ True) ∧ ((![isIn (slF W a) len (0 : Nat), isIn (slF W a) len ((0 : Nat) + (1 : Nat)), isIn (slF W a)
    len ((0 : Nat) + (1 : Nat) + (1 : Nat)), isIn (slF W a) len ((0 : Nat) + (1 : Nat) + (1 : Nat) + (1 : Nat)), isIn (slF W a) len ((0 : Nat) + (1 : Nat) + (1 : Nat) + (1 : Nat) + (1 :
    Nat)), isIn (slF W a) len ((0 : Nat) + (1 : Nat) + (1 : Nat) + (1 : Nat) + (1 : Nat) + (1 : Nat)), isIn (slF W a) len ((0 : Nat) + (1 : Nat) + (1 : Nat) + (1 : Nat) + (1 : Nat) + (1
    : Nat) + (1 : Nat)), isIn (slF W a) len ((0 : Nat) + (1 : Nat) + (1 : Nat) + (1 : Nat) + (1 : Nat) + (1 : Nat) + (1 : Nat) + (1 : Nat)), isIn (slF W a) len ((0 : Nat) + (1 : Nat) +
    (1 : Nat) + (1 : Nat) + (1 : Nat) + (1 : Nat) + (1 : Nat) + (1 : Nat) + (1 : Nat)), isIn (slF W a) len ((0 : Nat) + (1 : Nat) + (1 : Nat) + (1 : Nat) + (1 : Nat) + (1 : Nat) + (1 :
    Nat) + (1 : Nat) + (1 : Nat) + (1 : Nat)), isIn (slF W a) len ((0 : Nat) + (1 : Nat) + (1 : Nat) + (1 : Nat) + (1 : Nat) + (1 : Nat) + (1 : Nat) + (1 : Nat) + (1 : Nat) + (1 : Nat)
    + (1 : Nat)), isIn (slF W a) len ((0 : Nat) + (1 : Nat) + (1 : Nat) + (1 : Nat) + (1 : Nat) + (1 : Nat) + (1 : Nat) + (1 : Nat) + (1 : Nat) + (1 : Nat) + (1 : Nat) + (1 : Nat)),
    isIn (slF W a) len ((0 : Nat) + (1 : Nat) + (1 : Nat) + (1 : Nat) + (1 : Nat) + (1 : Nat) + (1 : Nat) + (1 : Nat) + (1 : Nat) + (1 : Nat) + (1 : Nat) + (1 : Nat) + (1 : Nat)), isIn
    (slF W a) len ((0 : Nat) + (1 : Nat) + (1 : Nat) + (1 : Nat) + (1 : Nat) + (1 : Nat) + (1 : Nat) + (1 : Nat) + (1 : Nat) + (1 : Nat) + (1 : Nat) + (1 : Nat) + (1 : Nat) + (1 :
    Nat)), isIn (slF W a) len ((0 : Nat) + (1 : Nat) + (1 : Nat) + (1 : Nat) + (1 : Nat) + (1 : Nat) + (1 : Nat) + (1 : Nat) + (1 : Nat) + (1 : Nat) + (1 : Nat) + (1 : Nat) + (1 : Nat)
    + (1 : Nat) + (1 : Nat))].getD (addO true (0 : Nat) (↑y_2.val : Int).toNat) false) = false → decide ((↑(placesF (isIn (slF W a) len) y_2.val).length : Int) ≥ (0 : Int)) = false ∧
    ((0 : Int) ≤ (↑y_2.val : Int) ∧ (↑y_2.val : Int) < (256 : Int)) ∧ Stuck (74 : Nat) ∧ (∀ (K : KO XC), Stuck (74 : Nat) → ((0 : Int) ≤ (↑y_2.val : Int) ∧ (0 : Int) < (15 : Int)) ∧ ((0
    : Int) ≤ (↑(segG ((↑y_2.val : Int) % (15 : Int)).toNat) : Int) ∧ (↑(segG ((↑y_2.val : Int) % (15 : Int)).toNat) : Int) < (4 : Int)) ∧ addO true (0 : Nat) (↑(segG ((↑y_2.val : Int) %
    (15 : Int)).toNat) : Int).toNat < (4 : Nat) ∧ (4 : Nat) = (4 : Nat) ∧ y.cap = y.cap ∧ hsF = hsF ∧ W = W ∧ Stuck (74 : Nat) ∧ True) ∧ True)) ∧ (decide ((↑y_2.val : Int) < (15 : Int))
    = false → ((↑(placesF (isIn (slF W a) len) y_2.val).length : Int) != (0 : Int)) = false ∧ (crC y.A y_1.val).ph.le (2 : Nat) ∧ (!colDone (crC y.A y_1.val)) = false ∧
    ((-9223372036854775808 : Int) ≤ (↑y.i : Int) + (1 : Int) ∧ (↑y.i : Int) + (1 : Int) ≤ (9223372036854775807 : Int)) ∧ ∃ (y' : K3 W a len), (2 : Nat) - y'.i < (2 : Nat) - y.i ∧ W = W
    ∧ (↑y'.i : Int) = (↑y.i : Int) + (1 : Int) ∧ (0 : Nat) = (0 : Nat) ∧ y'.cap = y.cap ∧ (0 : Nat) = (0 : Nat) ∧ (15 : Nat) = (15 : Nat) ∧ y'.A = crA y.A y_1.val ∧ ((4 : Nat) = (4 :
    Nat) ∧ y'.cap = y.cap ∧ ∀ (i : Nat), i < (4 : Nat) → hsF i = hsF i) ∧ (isIn (slF W a) len (0 : Nat) = isIn (slF W a) len (0 : Nat) ∧ isIn (slF W a) len (1 : Nat) = isIn (slF W a)
    len (1 : Nat) ∧ isIn (slF W a) len (2 : Nat) = isIn (slF W a) len (2 : Nat) ∧ isIn (slF W a) len (3 : Nat) = isIn (slF W a) len (3 : Nat) ∧ isIn (slF W a) len (4 : Nat) = isIn (slF
    W a) len (4 : Nat) ∧ isIn (slF W a) len (5 : Nat) = isIn (slF W a) len (5 : Nat) ∧ isIn (slF W a) len (6 : Nat) = isIn (slF W a) len (6 : Nat) ∧ isIn (slF W a) len (7 : Nat) = isIn
    (slF W a) len (7 : Nat) ∧ isIn (slF W a) len (8 : Nat) = isIn (slF W a) len (8 : Nat) ∧ isIn (slF W a) len (9 : Nat) = isIn (slF W a) len (9 : Nat) ∧ isIn (slF W a) len (10 : Nat) =
    isIn (slF W a) len (10 : Nat) ∧ isIn (slF W a) len (11 : Nat) = isIn (slF W a) len (11 : Nat) ∧ isIn (slF W a) len (12 : Nat) = isIn (slF W a) len (12 : Nat) ∧ isIn (slF W a) len
    (13 : Nat) = isIn (slF W a) len (13 : Nat) ∧ isIn (slF W a) len (14 : Nat) = isIn (slF W a) len (14 : Nat) ∧ True) ∧ True)) ∧ ((0 : Nat) < (crC y.A y_1.val).pl.length → ∀ (cap :
    Nat), (crC y.A y_1.val).pl.length ≤ cap → (∃ (y_2 : { s : Nat // s ≤ (15 : Nat) }), (0 : Nat) = (0 : Nat) ∧ y.cap = y.cap ∧ (0 : Nat) = (0 : Nat) ∧ (15 : Nat) = (15 : Nat) ∧ (0 :
    Nat) = (0 : Nat) ∧ (crC y.A y_1.val).pl.length = (crC y.A y_1.val).pl.length ∧ cap = cap ∧ (↑y.i : Int) = (↑y.i : Int) ∧ HO.old (E := XE) (H := colH) (XO.ar (crA y.A y_1.val)) =
    HO.old (E := XE) (H := colH) (XO.ar (crA y.A y_1.val)) ∧ (4 : Nat) = (4 : Nat) ∧ y.cap = y.cap ∧ hsF = hsF ∧ isIn (slF W a) len (0 : Nat) = isIn (slF W a) len (0 : Nat) ∧ isIn (slF
    W a) len (1 : Nat) = isIn (slF W a) len (1 : Nat) ∧ isIn (slF W a) len (2 : Nat) = isIn (slF W a) len (2 : Nat) ∧ isIn (slF W a) len (3 : Nat) = isIn (slF W a) len (3 : Nat) ∧ isIn
    (slF W a) len (4 : Nat) = isIn (slF W a) len (4 : Nat) ∧ isIn (slF W a) len (5 : Nat) = isIn (slF W a) len (5 : Nat) ∧ isIn (slF W a) len (6 : Nat) = isIn (slF W a) len (6 : Nat) ∧
    isIn (slF W a) len (7 : Nat) = isIn (slF W a) len (7 : Nat) ∧ isIn (slF W a) len (8 : Nat) = isIn (slF W a) len (8 : Nat) ∧ isIn (slF W a) len (9 : Nat) = isIn (slF W a) len (9 :
    Nat) ∧ isIn (slF W a) len (10 : Nat) = isIn (slF W a) len (10 : Nat) ∧ isIn (slF W a) len (11 : Nat) = isIn (slF W a) len (11 : Nat) ∧ isIn (slF W a) len (12 : Nat) = isIn (slF W a)
    len (12 : Nat) ∧ isIn (slF W a) len (13 : Nat) = isIn (slF W a) len (13 : Nat) ∧ isIn (slF W a) len (14 : Nat) = isIn (slF W a) len (14 : Nat) ∧ HO.obj (E := XE) (H := colH) [(95 :
    Nat)] (crC y.A y_1.val) = HO.obj (E := XE) (H := colH) [(95 : Nat)] (crC y.A y_1.val) ∧ W = W ∧ (crC y.A y_1.val).pl.length = (crC y.A y_1.val).pl.length ∧ cap = cap ∧ (colRow (crC
    y.A y_1.val)).f = (colRow (crC y.A y_1.val)).f ∧ (↑(placesF (isIn (slF W a) len) y_2.val).length : Int) = (0 : Int) ∧ (↑y_2.val : Int) = (0 : Int) ∧ True) ∧ ∀ (y_2 : { s : Nat // s
    ≤ (15 : Nat) }) (ρ : Nat → Value), (decide ((↑y_2.val : Int) < (15 : Int)) = true → ((0 : Int) ≤ (↑y_2.val : Int) ∧ (↑y_2.val : Int) < (15 : Int)) ∧ addO true (0 : Nat) (↑y_2.val :
    Int).toNat < (15 : Nat) ∧ ((![isIn (slF W a) len (0 : Nat), isIn (slF W a) len ((0 : Nat) + (1 : Nat)), isIn (slF W a) len ((0 : Nat) + (1 : Nat) + (1 : Nat)), isIn (slF W a) len
    ((0 : Nat) + (1 : Nat) + (1 : Nat) + (1 : Nat)), isIn (slF W a) len ((0 : Nat) + (1 : Nat) + (1 : Nat) + (1 : Nat) + (1 : Nat)), isIn (slF W a) len ((0 : Nat) + (1 : Nat) + (1 :
    Nat) + (1 : Nat) + (1 : Nat) + (1 : Nat)), isIn (slF W a) len ((0 : Nat) + (1 : Nat) + (1 : Nat) + (1 : Nat) + (1 : Nat) + (1 : Nat) + (1 : Nat)), isIn (slF W a) len ((0 : Nat) + (1
    : Nat) + (1 : Nat) + (1 : Nat) + (1 : Nat) + (1 : Nat) + (1 : Nat) + (1 : Nat)), isIn (slF W a) len ((0 : Nat) + (1 : Nat) + (1 : Nat) + (1 : Nat) + (1 : Nat) + (1 : Nat) + (1 :
    Nat) + (1 : Nat) + (1 : Nat)), isIn (slF W a) len ((0 : Nat) + (1 : Nat) + (1 : Nat) + (1 : Nat) + (1 : Nat) + (1 : Nat) + (1 : Nat) + (1 : Nat) + (1 : Nat) + (1 : Nat)), isIn (slF
    W a) len ((0 : Nat) + (1 : Nat) + (1 : Nat) + (1 : Nat) + (1 : Nat) + (1 : Nat) + (1 : Nat) + (1 : Nat) + (1 : Nat) + (1 : Nat) + (1 : Nat)), isIn (slF W a) len ((0 : Nat) + (1 :
    Nat) + (1 : Nat) + (1 : Nat) + (1 : Nat) + (1 : Nat) + (1 : Nat) + (1 : Nat) + (1 : Nat) + (1 : Nat) + (1 : Nat) + (1 : Nat)), isIn (slF W a) len ((0 : Nat) + (1 : Nat) + (1 : Nat)
    + (1 : Nat) + (1 : Nat) + (1 : Nat) + (1 : Nat) + (1 : Nat) + (1 : Nat) + (1 : Nat) + (1 : Nat) + (1 : Nat) + (1 : Nat)), isIn (slF W a) len ((0 : Nat) + (1 : Nat) + (1 : Nat) + (1
    : Nat) + (1 : Nat) + (1 : Nat) + (1 : Nat) + (1 : Nat) + (1 : Nat) + (1 : Nat) + (1 : Nat) + (1 : Nat) + (1 : Nat) + (1 : Nat)), isIn (slF W a) len ((0 : Nat) + (1 : Nat) + (1 :
    Nat) + (1 : Nat) + (1 : Nat) + (1 : Nat) + (1 : Nat) + (1 : Nat) + (1 : Nat) + (1 : Nat) + (1 : Nat) + (1 : Nat) + (1 : Nat) + (1 : Nat) + (1 : Nat))].getD (addO true (0 : Nat)
    (↑y_2.val : Int).toNat) false) = true → ((-9223372036854775808 : Int) ≤ (↑y_2.val : Int) + (1 : Int) ∧ (↑y_2.val : Int) + (1 : Int) ≤ (9223372036854775807 : Int)) ∧ ∃ (y' : { s :
    Nat // s ≤ (15 : Nat) }), (15 : Nat) - y'.val < (15 : Nat) - y_2.val ∧ (0 : Nat) = (0 : Nat) ∧ y.cap = y.cap ∧ (0 : Nat) = (0 : Nat) ∧ (15 : Nat) = (15 : Nat) ∧ (0 : Nat) = (0 :
    Nat) ∧ (crC y.A y_1.val).pl.length = (crC y.A y_1.val).pl.length ∧ cap = cap ∧ (↑y.i : Int) = (↑y.i : Int) ∧ HO.old (E := XE) (H := colH) (XO.ar (crA y.A y_1.val)) = HO.old (E :=
    XE) (H := colH) (XO.ar (crA y.A y_1.val)) ∧ (4 : Nat) = (4 : Nat) ∧ y.cap = y.cap ∧ hsF = hsF ∧ isIn (slF W a) len (0 : Nat) = isIn (slF W a) len (0 : Nat) ∧ isIn (slF W a) len (1 :
    Nat) = isIn (slF W a) len (1 : Nat) ∧ isIn (slF W a) len (2 : Nat) = isIn (slF W a) len (2 : Nat) ∧ isIn (slF W a) len (3 : Nat) = isIn (slF W a) len (3 : Nat) ∧ isIn (slF W a) len
    (4 : Nat) = isIn (slF W a) len (4 : Nat) ∧ isIn (slF W a) len (5 : Nat) = isIn (slF W a) len (5 : Nat) ∧ isIn (slF W a) len (6 : Nat) = isIn (slF W a) len (6 : Nat) ∧ isIn (slF W a)
    len (7 : Nat) = isIn (slF W a) len (7 : Nat) ∧ isIn (slF W a) len (8 : Nat) = isIn (slF W a) len (8 : Nat) ∧ isIn (slF W a) len (9 : Nat) = isIn (slF W a) len (9 : Nat) ∧ isIn (slF
    W a) len (10 : Nat) = isIn (slF W a) len (10 : Nat) ∧ isIn (slF W a) len (11 : Nat) = isIn (slF W a) len (11 : Nat) ∧ isIn (slF W a) len (12 : Nat) = isIn (slF W a) len (12 : Nat) ∧
    isIn (slF W a) len (13 : Nat) = isIn (slF W a) len (13 : Nat) ∧ isIn (slF W a) len (14 : Nat) = isIn (slF W a) len (14 : Nat) ∧ HO.obj (E := XE) (H := colH) [(95 : Nat)] (crC y.A
    y_1.val) = HO.obj (E := XE) (H := colH) [(95 : Nat)] (crC y.A y_1.val) ∧ W = W ∧ (crC y.A y_1.val).pl.length = (crC y.A y_1.val).pl.length ∧ cap = cap ∧ (colRow (crC y.A y_1.val)).f
    = (colRow (crC y.A y_1.val)).f ∧ (↑(placesF (isIn (slF W a) len) y'.val).length : Int) = (↑(placesF (isIn (slF W a) len) y_2.val).length : Int) ∧ (↑y'.val : Int) = (↑y_2.val : Int)
    + (1 : Int) ∧ True) ∧ ((![isIn (slF W a) len (0 : Nat), isIn (slF W a) len ((0 : Nat) + (1 : Nat)), isIn (slF W a) len ((0 : Nat) + (1 : Nat) + (1 : Nat)), isIn (slF W a) len ((0 :
    Nat) + (1 : Nat) + (1 : Nat) + (1 : Nat)), isIn (slF W a) len ((0 : Nat) + (1 : Nat) + (1 : Nat) + (1 : Nat) + (1 : Nat)), isIn (slF W a) len ((0 : Nat) + (1 : Nat) + (1 : Nat) + (1
    : Nat) + (1 : Nat) + (1 : Nat)), isIn (slF W a) len ((0 : Nat) + (1 : Nat) + (1 : Nat) + (1 : Nat) + (1 : Nat) + (1 : Nat) + (1 : Nat)), isIn (slF W a) len ((0 : Nat) + (1 : Nat) +
    (1 : Nat) + (1 : Nat) + (1 : Nat) + (1 : Nat) + (1 : Nat) + (1 : Nat)), isIn (slF W a) len ((0 : Nat) + (1 : Nat) + (1 : Nat) + (1 : Nat) + (1 : Nat) + (1 : Nat) + (1 : Nat) + (1 :
    Nat) + (1 : Nat)), isIn (slF W a) len ((0 : Nat) + (1 : Nat) + (1 : Nat) + (1 : Nat) + (1 : Nat) + (1 : Nat) + (1 : Nat) + (1 : Nat) + (1 : Nat) + (1 : Nat)), isIn (slF W a) len ((0
    : Nat) + (1 : Nat) + (1 : Nat) + (1 : Nat) + (1 : Nat) + (1 : Nat) + (1 : Nat) + (1 : Nat) + (1 : Nat) + (1 : Nat) + (1 : Nat)), isIn (slF W a) len ((0 : Nat) + (1 : Nat) + (1 :
    Nat) + (1 : Nat) + (1 : Nat) + (1 : Nat) + (1 : Nat) + (1 : Nat) + (1 : Nat) + (1 : Nat) + (1 : Nat) + (1 : Nat)), isIn (slF W a) len ((0 : Nat) + (1 : Nat) + (1 : Nat) + (1 : Nat)
    + (1 : Nat) + (1 : Nat) + (1 : Nat) + (1 : Nat) + (1 : Nat) + (1 : Nat) + (1 : Nat) + (1 : Nat) + (1 : Nat)), isIn (slF W a) len ((0 : Nat) + (1 : Nat) + (1 : Nat) + (1 : Nat) + (1
    : Nat) + (1 : Nat) + (1 : Nat) + (1 : Nat) + (1 : Nat) + (1 : Nat) + (1 : Nat) + (1 : Nat) + (1 : Nat) + (1 : Nat)), isIn (slF W a) len ((0 : Nat) + (1 : Nat) + (1 : Nat) + (1 :
    Nat) + (1 : Nat) + (1 : Nat) + (1 : Nat) + (1 : Nat) + (1 : Nat) + (1 : Nat) + (1 : Nat) + (1 : Nat) + (1 : Nat) + (1 : Nat) + (1 : Nat))].getD (addO true (0 : Nat) (↑y_2.val :
    Int).toNat) false) = false → decide ((↑(placesF (isIn (slF W a) len) y_2.val).length : Int) ≥ (↑(crC y.A y_1.val).pl.length : Int)) = false ∧ ((0 : Int) ≤ (↑(placesF (isIn (slF W a)
    len) y_2.val).length : Int) ∧ (↑(placesF (isIn (slF W a) len) y_2.val).length : Int) < (↑(crC y.A y_1.val).pl.length : Int)) ∧ addO true (0 : Nat) (↑(placesF (isIn (slF W a) len)
    y_2.val).length : Int).toNat < (crC y.A y_1.val).pl.length ∧ ((0 : Int) ≤ (↑y_2.val : Int) ∧ (↑y_2.val : Int) < (256 : Int)) ∧ (((0 : Int) ≤ (↑y_2.val : Int) ∧ (0 : Int) < (15 :
    Int)) ∧ ((0 : Int) ≤ (↑(segG ((↑y_2.val : Int) % (15 : Int)).toNat) : Int) ∧ (↑(segG ((↑y_2.val : Int) % (15 : Int)).toNat) : Int) < (4 : Int)) ∧ addO true (0 : Nat) (↑(segG
    ((↑y_2.val : Int) % (15 : Int)).toNat) : Int).toNat < (4 : Nat) ∧ (4 : Nat) = (4 : Nat) ∧ y.cap = y.cap ∧ hsF = hsF ∧ W = W ∧ (crC y.A y_1.val).pl.length = (crC y.A
    y_1.val).pl.length ∧ cap = cap ∧ (colRow (crC y.A y_1.val)).f = (colRow (crC y.A y_1.val)).f ∧ (false == ((↑((crC y.A y_1.val).pl.getD (addO true (0 : Nat) (↑(placesF (isIn (slF W
    a) len) y_2.val).length : Int).toNat) ((0 : Nat), (0 : Nat))).fst : Int) == hsF (addO true (0 : Nat) (↑(segG ((↑y_2.val : Int) % (15 : Int)).toNat) : Int).toNat) && ((↑((crC y.A
    y_1.val).pl.getD (addO true (0 : Nat) (↑(placesF (isIn (slF W a) len) y_2.val).length : Int).toNat) ((0 : Nat), (0 : Nat))).snd : Int) == (↑y_2.val : Int) % (15 : Int) && true))) =
    false ∧ ((-9223372036854775808 : Int) ≤ (↑(placesF (isIn (slF W a) len) y_2.val).length : Int) + (1 : Int) ∧ (↑(placesF (isIn (slF W a) len) y_2.val).length : Int) + (1 : Int) ≤
    (9223372036854775807 : Int)) ∧ ((-9223372036854775808 : Int) ≤ (↑y_2.val : Int) + (1 : Int) ∧ (↑y_2.val : Int) + (1 : Int) ≤ (9223372036854775807 : Int)) ∧ ∃ (y' : { s : Nat // s ≤
    (15 : Nat) }), (15 : Nat) - y'.val < (15 : Nat) - y_2.val ∧ (0 : Nat) = (0 : Nat) ∧ y.cap = y.cap ∧ (0 : Nat) = (0 : Nat) ∧ (15 : Nat) = (15 : Nat) ∧ (0 : Nat) = (0 : Nat) ∧ (crC
    y.A y_1.val).pl.length = (crC y.A y_1.val).pl.length ∧ cap = cap ∧ (↑y.i : Int) = (↑y.i : Int) ∧ HO.old (E := XE) (H := colH) (XO.ar (crA y.A y_1.val)) = HO.old (E := XE) (H :=
    colH) (XO.ar (crA y.A y_1.val)) ∧ (4 : Nat) = (4 : Nat) ∧ y.cap = y.cap ∧ hsF = hsF ∧ isIn (slF W a) len (0 : Nat) = isIn (slF W a) len (0 : Nat) ∧ isIn (slF W a) len (1 : Nat) =
    isIn (slF W a) len (1 : Nat) ∧ isIn (slF W a) len (2 : Nat) = isIn (slF W a) len (2 : Nat) ∧ isIn (slF W a) len (3 : Nat) = isIn (slF W a) len (3 : Nat) ∧ isIn (slF W a) len (4 :
    Nat) = isIn (slF W a) len (4 : Nat) ∧ isIn (slF W a) len (5 : Nat) = isIn (slF W a) len (5 : Nat) ∧ isIn (slF W a) len (6 : Nat) = isIn (slF W a) len (6 : Nat) ∧ isIn (slF W a) len
    (7 : Nat) = isIn (slF W a) len (7 : Nat) ∧ isIn (slF W a) len (8 : Nat) = isIn (slF W a) len (8 : Nat) ∧ isIn (slF W a) len (9 : Nat) = isIn (slF W a) len (9 : Nat) ∧ isIn (slF W a)
    len (10 : Nat) = isIn (slF W a) len (10 : Nat) ∧ isIn (slF W a) len (11 : Nat) = isIn (slF W a) len (11 : Nat) ∧ isIn (slF W a) len (12 : Nat) = isIn (slF W a) len (12 : Nat) ∧ isIn
    (slF W a) len (13 : Nat) = isIn (slF W a) len (13 : Nat) ∧ isIn (slF W a) len (14 : Nat) = isIn (slF W a) len (14 : Nat) ∧ HO.obj (E := XE) (H := colH) [(95 : Nat)] (crC y.A
    y_1.val) = HO.obj (E := XE) (H := colH) [(95 : Nat)] (crC y.A y_1.val) ∧ W = W ∧ (crC y.A y_1.val).pl.length = (crC y.A y_1.val).pl.length ∧ cap = cap ∧ (colRow (crC y.A y_1.val)).f
    = (colRow (crC y.A y_1.val)).f ∧ (↑(placesF (isIn (slF W a) len) y'.val).length : Int) = (↑(placesF (isIn (slF W a) len) y_2.val).length : Int) + (1 : Int) ∧ (↑y'.val : Int) =
    (↑y_2.val : Int) + (1 : Int) ∧ True) ∧ True)) ∧ (decide ((↑y_2.val : Int) < (15 : Int)) = false → ((↑(placesF (isIn (slF W a) len) y_2.val).length : Int) != (↑(crC y.A
    y_1.val).pl.length : Int)) = false ∧ (crC y.A y_1.val).ph.le (2 : Nat) ∧ (!colDone (crC y.A y_1.val)) = false ∧ ((-9223372036854775808 : Int) ≤ (↑y.i : Int) + (1 : Int) ∧ (↑y.i :
    Int) + (1 : Int) ≤ (9223372036854775807 : Int)) ∧ ∃ (y' : K3 W a len), (2 : Nat) - y'.i < (2 : Nat) - y.i ∧ W = W ∧ (↑y'.i : Int) = (↑y.i : Int) + (1 : Int) ∧ (0 : Nat) = (0 : Nat)
    ∧ y'.cap = y.cap ∧ (0 : Nat) = (0 : Nat) ∧ (15 : Nat) = (15 : Nat) ∧ y'.A = crA y.A y_1.val ∧ ((4 : Nat) = (4 : Nat) ∧ y'.cap = y.cap ∧ ∀ (i : Nat), i < (4 : Nat) → hsF i = hsF i) ∧
    (isIn (slF W a) len (0 : Nat) = isIn (slF W a) len (0 : Nat) ∧ isIn (slF W a) len (1 : Nat) = isIn (slF W a) len (1 : Nat) ∧ isIn (slF W a) len (2 : Nat) = isIn (slF W a) len (2 :
    Nat) ∧ isIn (slF W a) len (3 : Nat) = isIn (slF W a) len (3 : Nat) ∧ isIn (slF W a) len (4 : Nat) = isIn (slF W a) len (4 : Nat) ∧ isIn (slF W a) len (5 : Nat) = isIn (slF W a) len
    (5 : Nat) ∧ isIn (slF W a) len (6 : Nat) = isIn (slF W a) len (6 : Nat) ∧ isIn (slF W a) len (7 : Nat) = isIn (slF W a) len (7 : Nat) ∧ isIn (slF W a) len (8 : Nat) = isIn (slF W a)
    len (8 : Nat) ∧ isIn (slF W a) len (9 : Nat) = isIn (slF W a) len (9 : Nat) ∧ isIn (slF W a) len (10 : Nat) = isIn (slF W a) len (10 : Nat) ∧ isIn (slF W a) len (11 : Nat) = isIn
    (slF W a) len (11 : Nat) ∧ isIn (slF W a) len (12 : Nat) = isIn (slF W a) len (12 : Nat) ∧ isIn (slF W a) len (13 : Nat) = isIn (slF W a) len (13 : Nat) ∧ isIn (slF W a) len (14 :
    Nat) = isIn (slF W a) len (14 : Nat) ∧ True) ∧ True)))) ∧ (decide ((↑y.i : Int) < (2 : Int)) = false → (wr64 y.A.faults == (0 : Int)) = true ∧ some W = some W)))) := by
  kernel_rfl
theorem collStill_run (W : World) (a : Option Addr) (len cap : Nat) (hc : (0 < len → a.isSome = true) ∧ ∀ j, j < len → Seen .u8 W (addOpt a j)) : Run (callN Try.prog (tblK : List (Smry Try.prog XC)) (fun _ _ => false) 100 20 6 [.c (.sliv a false len cap)] ⟨[(0, .seen W)], 1⟩ (scrK W a len) (fun v m _ => retSeen W v m)) := by
  constructor
  rw [collStill_vc]
  obtain ⟨hs, hx⟩ := hc
  refine ⟨fun _ => ⟨rfl, rfl⟩, fun hlen A cap1 z ad ln cp hA hcap => ?_⟩
  have h40 : len ≤ 40 := by have := of_decide_eq_false hlen; omega
  repeat' first
    | with_reducible apply And.intro
    | with_reducible exact trivial
    | with_reducible exact Eq.refl _
    | with_reducible exact fun _ h => h
    | (with_reducible refine fun (h : decide _ = true) => ?_; replace h := of_decide_eq_true h)
    | (with_reducible refine fun (h : decide _ = false) => ?_; replace h := of_decide_eq_false h)
    | intro _
  any_goals first
    | ((with_reducible refine (?_ : ∃ x : Addr, _)); exact hx _ (by omega))
    | ((with_reducible refine (?_ : ∃ y : K1 W a len, _)); first | with_reducible refine Exists.intro (nextKK ‹K1 W a len› (by omega) h40 ‹{j : Nat // j ≤ 9}›.1 (by omega)) ?_ | with_reducible refine Exists.intro (k10 hA hcap) ?_)
    | ((with_reducible refine (?_ : ∃ y : K3 W a len, _)); first | with_reducible refine Exists.intro (nextK3 ‹K3 W a len› (by omega) ‹{j : Nat // j ≤ 300}›.1) ?_ | with_reducible refine Exists.intro (k30 ‹K1 W a len› (by have := ‹K1 W a len›.hk; omega)) ?_)
    | ((with_reducible refine (?_ : ∃ y : {j : Nat // j ≤ 9}, _)); first | with_reducible refine Exists.intro (⟨‹{j : Nat // j ≤ 9}›.1 + 1, by omega⟩ : {j : Nat // j ≤ 9}) ?_ | with_reducible refine Exists.intro (⟨0, by decide⟩ : {j : Nat // j ≤ 9}) ?_)
    | ((with_reducible refine (?_ : ∃ y : {j : Nat // j ≤ 15}, _)); first | with_reducible refine Exists.intro (⟨‹{j : Nat // j ≤ 15}›.1 + 1, by omega⟩ : {j : Nat // j ≤ 15}) ?_ | with_reducible refine Exists.intro (⟨0, by decide⟩ : {j : Nat // j ≤ 15}) ?_)
    | ((with_reducible refine (?_ : ∃ y : {j : Nat // j ≤ 300}, _)); first | with_reducible refine Exists.intro (⟨‹{j : Nat // j ≤ 300}›.1 + 1, by omega⟩ : {j : Nat // j ≤ 300}) ?_ | with_reducible refine Exists.intro (⟨0, by decide⟩ : {j : Nat // j ≤ 300}) ?_)
  repeat' first
    | with_reducible apply And.intro
    | with_reducible exact trivial
    | with_reducible exact Eq.refl _
  all_goals try first
    | with_reducible exact (okK _ h40 _).1
    | with_reducible exact hs (by omega)
    | omega
  all_goals try first
    | ((with_reducible refine (?_ : List.length _ < 1000000000)); have := crC_len ‹K3 W a len›.A ‹{j : Nat // j ≤ 300}›.1; omega)
    | ((with_reducible refine (?_ : _ ∨ _)); exact (colOkK ‹K3 W a len› ‹{j : Nat // j ≤ 300}›.2).2)
    | ((with_reducible refine (?_ : Col.ph _ = 2)); exact (endK ‹K3 W a len› (j := ‹{j : Nat // j ≤ 300}›.1) (by have := ‹{j : Nat // j ≤ 300}›.2; omega)).1)
    | ((with_reducible refine (?_ : Nat.le _ 2)); have e := (endK ‹K3 W a len› (j := ‹{j : Nat // j ≤ 300}›.1) (by have := ‹{j : Nat // j ≤ 300}›.2; omega)).1; rw [e]; exact Nat.le_refl 2)
    | ((with_reducible refine (?_ : (!colDone _) = false)); have e := (endK ‹K3 W a len› (j := ‹{j : Nat // j ≤ 300}›.1) (by have := ‹{j : Nat // j ≤ 300}›.2; omega)).1; unfold colDone; rw [e]; rfl)
    | ((with_reducible refine (?_ : isIn _ (K1.k (k10 _ _)) _ = false)); rfl)
    | ((with_reducible refine (?_ : isIn _ (K1.k (nextKK _ _ _ _ _)) _ = _)); show isIn _ (‹K1 W a len›.k + 1) _ = _; exact inK)
    | ((with_reducible refine (?_ : isIn _ len _ = isIn _ (K1.k _) _)); exact congrArg (fun n => isIn _ n _) (by have := ‹K1 W a len›.hk; omega))
    | ((with_reducible refine (?_ : (wr64 _ == 0) = true)); have e := ‹K3 W a len›.ht.1; rw [e]; rfl)
    | ((with_reducible refine (?_ : (0 : Int) ≤ hsF _)); unfold hsF; omega)
    | ((with_reducible refine (?_ : addO _ _ _ < 15)); rw [addO_eq]; have := @xK W a (‹K1 W a len›.k : Int).toNat; omega)
    | ((with_reducible refine (?_ : addO _ _ _ < 4)); rw [addO_eq, Int.toNat_natCast, Nat.zero_add]; exact segKl)
    | ((with_reducible refine (?_ : addO _ _ _ < 4)); have e := segG_lt (s := ‹{j : Nat // j ≤ 15}›.1) (by omega); rw [e.1]; exact e.2)
    | ((with_reducible refine (?_ : addO _ _ _ < 15)); rw [addO_eq, Int.toNat_natCast, Nat.zero_add]; omega)
    | (have e := segG_lt (s := ‹{j : Nat // j ≤ 15}›.1) (by omega); rw [addO_eq, Int.toNat_natCast, Nat.zero_add] at e; omega)
    | (have h1 := @segKl W a ‹K1 W a len›.k; omega)
  all_goals try first
    | (have h1 := atK ‹K3 W a len› (j := ‹{j : Nat // j ≤ 300}›.1) (s := ‹{j : Nat // j ≤ 15}›.1) (by have := ‹{j : Nat // j ≤ 300}›.2; omega) (by omega) ‹(!_) = false›
       first
         | (exfalso; omega)
         | ((with_reducible refine (?_ : decide _ = false)); apply decide_eq_false; omega)
         | omega
         | (rw [addO_eq, Int.toNat_natCast, Nat.zero_add]; omega)
         | ((with_reducible refine (?_ : (false == _) = false)); exact cmpK (by omega) h1.2.1)
         | (have h2 := placesF_yes h1.2.2; show ((placesF _ (_ + 1)).length : Int) = _; omega))
    | (have h1 := noB (f := isIn (slF W a) len) (s := ‹{j : Nat // j ≤ 15}›.1) (by omega) ‹(!_) = true›; show ((placesF _ (_ + 1)).length : Int) = _; rw [placesF_no h1])
    | (have h2 := (endK ‹K3 W a len› (j := ‹{j : Nat // j ≤ 300}›.1) (by have := ‹{j : Nat // j ≤ 300}›.2; omega)).2; have h3 : ‹{j : Nat // j ≤ 15}›.1 = 15 := by have := ‹{j : Nat // j ≤ 15}›.2; omega
       first
         | (rw [h2]; rw [h3]; exact bne_self_eq_false _)
         | (have h4 : (placesF (isIn (slF W a) len) 15).length = 0 := by rw [← h2]; assumption
            rw [h3, h4]; rfl))
    | (have h5 := (crC_len ‹K3 W a len›.A ‹{j : Nat // j ≤ 300}›.1); have h6 := ‹{j : Nat // j ≤ 300}›.2; have h1 := atK ‹K3 W a len› (j := ‹{j : Nat // j ≤ 300}›.1) (s := ‹{j : Nat // j ≤ 15}›.1) (by omega) (by omega) ‹(!_) = false›; omega)
  all_goals try first
    | (show _ - (_ + 1) < _ - _; omega)
    | exact (crC_step _ _).symm
    | exact rfl
  all_goals (have h1 := atK ‹K3 W a len› (j := ‹{j : Nat // j ≤ 300}›.1) (s := ‹{j : Nat // j ≤ 15}›.1) (by have := ‹{j : Nat // j ≤ 300}›.2; omega) (by omega) ‹(!_) = false›; apply decide_eq_false; omega)
end Go.Proofs.Ytgiakcepgbpchaa
