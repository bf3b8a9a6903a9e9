/- The executor: operations that leave the memory as it is. No program in sight. -/
import Derived.Test.YtohijcgbfcahhaaSym
import Derived.Deep.MidRow
import Derived.IntWalk
import Derived.Laws.StructEq
namespace Go.Proofs.Ytohijcgbfcahhaa
open Go Go.RowKit

/-- What an operation gives: a value; a value, if so much holds; the one value or the other; nothing (a number tells why). -/
inductive PV where
  | ok (v : SV)
  | need (p : Prop) (v : SV)
  | split (b : Bool) (x y : SV)
  | no (n : Nat)
def PV.gives : PV → SV → Prop
  | .ok u, v => v = u
  | .need p u, v => p ∧ v = u
  | .split b x y, v => (b = true ∧ v = x) ∨ (b = false ∧ v = y)
  | .no _, _ => False

def wrapK : IntKind → Int → Int
  | .i64, n => if 9223372036854775808 ≤ n % 18446744073709551616 then n % 18446744073709551616 - 18446744073709551616 else n % 18446744073709551616
  | .u64, n => n % 18446744073709551616
  | .u8, n => n % 256
  | k, n => k.wrap n
theorem wrapK_eq (k : IntKind) (n : Int) : wrapK k n = k.wrap n := by
  cases k <;> simp only [wrapK, IntKind.wrap, IntKind.bits, IntKind.signed] <;> simp
def inR : IntKind → Int → Prop
  | .i64, n => -9223372036854775808 ≤ n ∧ n ≤ 9223372036854775807
  | .u64, n => 0 ≤ n ∧ n < 18446744073709551616
  | .u8, n => 0 ≤ n ∧ n < 256
  | k, n => k.wrap n = n
theorem wrap_inR {k : IntKind} {n : Int} (h : inR k n) : k.wrap n = n := by
  cases k <;> simp only [inR] at h <;> try exact h
  · rw [← wrapK_eq]; simp only [wrapK]; split <;> omega
  · rw [← wrapK_eq]; simp only [wrapK]; omega
  · rw [← wrapK_eq]; simp only [wrapK]; omega

/-- A known number, reckoned out. -/
def litI (k : IntKind) (n : Int) : SV :=
  match n with
  | .ofNat 0 => .c (.int true k (.ofNat 0))
  | .ofNat (m + 1) => .c (.int true k (.ofNat (m + 1)))
  | .negSucc m => .c (.int true k (.negSucc m))
theorem litI_den (ν : Nat → Nat) (k : IntKind) (n : Int) : (litI k n).den ν = .int k n := by
  unfold litI; split <;> simp [SV.den, SC.den]
def litB (b : Bool) : SV := match b with | true => .c (.boo true true) | false => .c (.boo true false)
theorem litB_den (ν : Nat → Nat) (b : Bool) : (litB b).den ν = .bool b := by cases b <;> simp [litB, SV.den, SC.den]

/-- Bounds: an order that the kernel reckons. -/
def leI : Int → Int → Bool
  | .ofNat a, .ofNat b => Nat.ble a b
  | .negSucc _, .ofNat _ => true
  | .ofNat _, .negSucc _ => false
  | .negSucc a, .negSucc b => Nat.ble b a
theorem leI_le {a b : Int} (h : leI a b = true) : a ≤ b := by
  cases a <;> cases b <;> simp only [leI, Nat.ble_eq] at h
  · exact Int.ofNat_le.2 h
  · cases h
  · exact Int.le_trans (Int.le_of_lt (Int.negSucc_lt_zero _)) (Int.natCast_nonneg _)
  · simp only [Int.negSucc_eq]; omega
theorem leI_of {a b : Int} (h : a ≤ b) : leI a b = true := by
  cases a <;> cases b <;> simp only [leI, Nat.ble_eq]
  · exact Int.ofNat_le.1 h
  · rename_i m n
    have := Int.natCast_nonneg m
    rw [Int.negSucc_eq] at h
    simp only [Int.ofNat_eq_natCast] at h
    omega
  · simp only [Int.negSucc_eq] at h; omega
def minI (a b : Int) : Int := bif leI a b then a else b
def maxI (a b : Int) : Int := bif leI a b then b else a
/-- Bounds of a number that may be known. -/
def Bd.of (l : Bool) {n : Int} (b : Bd n) : Bd n := bif l then .w n n ⟨Int.le_refl n, Int.le_refl n⟩ else b
def Bd.fit {n : Int} (k : IntKind) (b : Bd n) : Bool :=
  match b with
  | .any => false
  | .w lo hi _ => match k with
    | .i64 => leI (-9223372036854775808) lo && leI hi 9223372036854775807
    | .u64 => leI 0 lo && leI hi 18446744073709551615
    | .u8 => leI 0 lo && leI hi 255
    | _ => false
theorem Bd.fit_inR {n : Int} {k : IntKind} {b : Bd n} (h : b.fit k = true) : inR k n := by
  unfold Bd.fit at h
  split at h
  · cases h
  · rename_i lo hi hb
    split at h <;> try cases h
    all_goals
      simp only [Bool.and_eq_true] at h
      have h1 := leI_le h.1
      have h2 := leI_le h.2
      simp only [inR]
      omega
def Bd.add {a b : Int} (x : Bd a) (y : Bd b) : Bd (a + b) :=
  match x, y with
  | .w l1 h1 p, .w l2 h2 q => .w (l1 + l2) (h1 + h2) ⟨Int.add_le_add p.1 q.1, Int.add_le_add p.2 q.2⟩
  | _, _ => .any
def Bd.sub {a b : Int} (x : Bd a) (y : Bd b) : Bd (a - b) :=
  match x, y with
  | .w l1 h1 p, .w l2 h2 q => .w (l1 - h2) (h1 - l2) ⟨Int.sub_le_sub p.1 q.2, Int.sub_le_sub p.2 q.1⟩
  | _, _ => .any
theorem mul_bd {a b l1 h1 l2 h2 : Int} (p : l1 ≤ a ∧ a ≤ h1) (q : l2 ≤ b ∧ b ≤ h2) (h : (leI 0 l1 && leI 0 l2) = true) : l1 * l2 ≤ a * b ∧ a * b ≤ h1 * h2 := by
  simp only [Bool.and_eq_true] at h
  have u := leI_le h.1
  have v := leI_le h.2
  exact ⟨Int.mul_le_mul p.1 q.1 v (by omega), Int.mul_le_mul p.2 q.2 (by omega) (by omega)⟩
/-- What is done where a test comes out well. -/
def onTrue {α : Sort _} (b : Bool) (y : b = true → α) (n : α) : α := match b, y with
  | true, y => y rfl
  | false, _ => n
def Bd.mul {a b : Int} (x : Bd a) (y : Bd b) : Bd (a * b) :=
  match x, y with
  | .w l1 h1 p, .w l2 h2 q => onTrue (leI 0 l1 && leI 0 l2) (fun h => .w (l1 * l2) (h1 * h2) (mul_bd p q h)) .any
  | _, _ => .any
theorem div_bd {a b l1 h1 l2 h2 : Int} (p : l1 ≤ a ∧ a ≤ h1) (q : l2 ≤ b ∧ b ≤ h2) (h : (leI 0 l1 && leI 1 l2) = true) : 0 ≤ a / b ∧ a / b ≤ h1 / l2 := by
  simp only [Bool.and_eq_true] at h
  have u := leI_le h.1
  have v := leI_le h.2
  refine ⟨Int.ediv_nonneg (by omega) (by omega), ?_⟩
  refine Int.le_trans (Int.ediv_le_ediv (by omega) p.2) ?_
  have hb : h1 / b ≤ h1 / l2 := by
    rw [Int.le_ediv_iff_mul_le (by omega)]
    have h3 : h1 / b * l2 ≤ h1 / b * b := Int.mul_le_mul_of_nonneg_left q.1 (Int.ediv_nonneg (by omega) (by omega))
    exact Int.le_trans h3 (Int.ediv_mul_le _ (by omega))
  exact hb
def Bd.div {a b : Int} (x : Bd a) (y : Bd b) : Bd (a / b) :=
  match x, y with
  | .w l1 h1 p, .w l2 h2 q => onTrue (leI 0 l1 && leI 1 l2) (fun h => .w 0 (h1 / l2) (div_bd p q h)) .any
  | _, _ => .any
theorem mod_bd {a b l2 h2 : Int} (q : l2 ≤ b ∧ b ≤ h2) (h : leI 1 l2 = true) : 0 ≤ a % b ∧ a % b ≤ h2 - 1 := by
  have v := leI_le h
  have h1 := Int.emod_nonneg a (b := b) (by omega)
  have h2 := Int.emod_lt_of_pos a (b := b) (by omega)
  omega
def Bd.mod {a b : Int} (y : Bd b) : Bd (a % b) :=
  match y with
  | .w l2 h2 q => onTrue (leI 1 l2) (fun h => .w 0 (h2 - 1) (mod_bd q h)) .any
  | _ => .any
/-- May one number be divided by the other, as natural ones? -/
def Bd.divOk {a b : Int} (x : Bd a) (y : Bd b) : Bool :=
  match x, y with
  | .w l1 _ _, .w l2 _ _ => leI 0 l1 && leI 1 l2
  | _, _ => false
theorem Bd.divOk_sound {a b : Int} {x : Bd a} {y : Bd b} (h : x.divOk y = true) : 0 ≤ a ∧ 0 < b := by
  unfold Bd.divOk at h
  split at h
  · rename_i p _ _ q
    simp only [Bool.and_eq_true] at h
    have h1 := leI_le h.1
    have h2 := leI_le h.2
    omega
  · cases h
/-- Is one surely below the other (true, true), surely not (true, false)? -/
def Bd.less {a b : Int} (x : Bd a) (y : Bd b) : Bool × Bool :=
  match x, y with
  | .w l1 h1 _, .w l2 h2 _ => bif leI (h1 + 1) l2 then (true, true) else bif leI h2 l1 then (true, false) else (false, false)
  | _, _ => (false, false)
theorem Bd.less_sound {a b : Int} {x : Bd a} {y : Bd b} {r : Bool} (h : x.less y = (true, r)) : r = decide (a < b) := by
  unfold Bd.less at h
  split at h
  · rename_i l1 h1 p l2 h2 q
    cases e1 : leI (h1 + 1) l2 <;> rw [e1] at h
    · cases e2 : leI h2 l1 <;> rw [e2] at h <;> simp only [cond_true, cond_false, Prod.mk.injEq, Bool.false_eq_true, false_and, true_and] at h
      · have := leI_le e2
        subst h
        simp; omega
    · simp only [cond_true, Prod.mk.injEq, true_and] at h
      have := leI_le e1
      subst h
      simp; omega
  · simp at h
/-- Are they surely not the same? -/
def Bd.apart {a b : Int} (x : Bd a) (y : Bd b) : Bool :=
  match x, y with
  | .w l1 h1 _, .w l2 h2 _ => leI (h1 + 1) l2 || leI (h2 + 1) l1
  | _, _ => false
theorem Bd.apart_sound {a b : Int} {x : Bd a} {y : Bd b} (h : x.apart y = true) : a ≠ b := by
  unfold Bd.apart at h
  split at h
  · rename_i l1 h1 p l2 h2 q
    simp only [Bool.or_eq_true] at h
    rcases h with h | h <;> have := leI_le h <;> omega
  · cases h
/-- A test that bounds may decide. -/
def cmpV (r : Bool × Bool) (neg : Bool) (b : Bool) : PV := match r with
  | (true, true) => .ok (litB (!neg))
  | (true, false) => .ok (litB neg)
  | (false, _) => .ok (.c (.boo false b))
theorem cmpV_den {r : Bool × Bool} {neg b : Bool} {v : SV} (hr : ∀ q, r = (true, q) → b = (q != neg)) (h : (cmpV r neg b).gives v) (ν : Nat → Nat) : v.den ν = .bool b := by
  unfold cmpV at h
  split at h <;> simp only [PV.gives] at h <;> subst h
  · rw [litB_den, hr true rfl]; cases neg <;> rfl
  · rw [litB_den, hr false rfl]; cases neg <;> rfl
  · rfl
/-- A number of bounds, forced out. -/
def Bd.wrapped (k : IntKind) (n : Int) : Bd (k.wrap n) := match k with
  | .i64 => .w (-9223372036854775808) 9223372036854775807 (by rw [← wrapK_eq]; simp only [wrapK]; split <;> omega)
  | .u64 => .w 0 18446744073709551615 (by rw [← wrapK_eq]; simp only [wrapK]; omega)
  | .u8 => .w 0 255 (by rw [← wrapK_eq]; simp only [wrapK]; omega)
  | _ => .any

def arithV (wr : Bool) (k : IntKind) (known : Bool) (n : Int) (b : Bd n := .any) : PV :=
  bif known then .ok (litI k (wrapK k n)) else bif b.fit k then .ok (.c (.int false k n b)) else bif wr then .ok (.c (.int false k (k.wrap n) (.wrapped k n))) else .need (inR k n) (.c (.int false k n))
theorem arithV_den {wr known : Bool} {k : IntKind} {n : Int} {b : Bd n} {v : SV} (h : (arithV wr k known n b).gives v) (ν : Nat → Nat) : v.den ν = .int k (k.wrap n) := by
  unfold arithV at h
  cases known
  · cases hf : b.fit k <;> rw [hf] at h
    · cases wr <;> simp only [cond_true, cond_false, PV.gives] at h
      · obtain ⟨h, rfl⟩ := h; simp [SV.den, SC.den, wrap_inR h]
      · subst h; rfl
    · simp only [cond_true, cond_false, PV.gives] at h
      subst h
      simp [SV.den, SC.den, wrap_inR (Bd.fit_inR hf)]
  · simp only [cond_true, PV.gives] at h
    subst h; rw [litI_den, wrapK_eq]

def divL (b : Int) (v : SV) : PV := match b with | .ofNat 0 => .no 20 | _ => .ok v
theorem divL_gives {b : Int} {u v : SV} (h : (divL b u).gives v) : b ≠ 0 ∧ v = u := by
  unfold divL at h
  split at h
  · exact h.elim
  · rename_i hb; exact ⟨fun e => hb (by rw [e]; rfl), h⟩
def binInt (wr : Bool) (op : BinOp) (k : IntKind) (l : Bool) (a b : Int) (x : Bd a) (y : Bd b) : PV :=
  match op with
  | .add => arithV wr k l (a + b) (x.add y)
  | .sub => arithV wr k l (a - b) (x.sub y)
  | .mul => arithV wr k l (a * b) (x.mul y)
  | .quo => bif l then divL b (litI k (wrapK k (a.tdiv b))) else bif x.divOk y && x.fit k then .ok (.c (.int false k (a / b) (x.div y))) else .need (0 ≤ a ∧ 0 < b ∧ inR k a) (.c (.int false k (a / b) (x.div y)))
  | .rem => bif l then divL b (litI k (a.tmod b)) else bif x.divOk y then .ok (.c (.int false k (a % b) y.mod)) else .need (0 ≤ a ∧ 0 < b) (.c (.int false k (a % b) y.mod))
  | .eql => bif l then .ok (litB (a == b)) else bif x.apart y then .ok (litB false) else .ok (.c (.boo false (a == b)))
  | .neq => bif l then .ok (litB (a != b)) else bif x.apart y then .ok (litB true) else .ok (.c (.boo false (a != b)))
  | .lss => bif l then .ok (litB (a < b)) else cmpV (x.less y) false (a < b)
  | .leq => bif l then .ok (litB (a ≤ b)) else cmpV (y.less x) true (a ≤ b)
  | .gtr => bif l then .ok (litB (a > b)) else cmpV (y.less x) false (a > b)
  | .geq => bif l then .ok (litB (a ≥ b)) else cmpV (x.less y) true (a ≥ b)
  | _ => .no 21
theorem ediv_inR {k : IntKind} {a b : Int} (ha : 0 ≤ a) (hb : 0 < b) (h : inR k a) (hk : k = .i64 ∨ k = .u64 ∨ k = .u8) : inR k (a / b) := by
  have h1 : 0 ≤ a / b := Int.ediv_nonneg ha (by omega)
  have h2 : a / b ≤ a := Int.ediv_le_self b ha
  rcases hk with rfl | rfl | rfl <;> simp only [inR] at h ⊢ <;> omega
theorem binInt_den {P : Program} {wr l : Bool} {op : BinOp} {k : IntKind} {a b : Int} {x : Bd a} {y : Bd b} {v : SV} (hk : k = .i64 ∨ k = .u64 ∨ k = .u8) (h : (binInt wr op k l a b x y).gives v) (ν : Nat → Nat) (t : TypeId) (w : World) :
    (binOp op t (.int k a) (.int k b)).run P w = .ok (v.den ν) w := by
  cases op <;> simp only [binInt] at h
  case add => rw [arithV_den h]; simp [binOp, Op.intArith]
  case sub => rw [arithV_den h]; simp [binOp, Op.intArith]
  case mul => rw [arithV_den h]; simp [binOp, Op.intArith]
  case quo =>
    cases l
    · have h : (0 ≤ a ∧ 0 < b ∧ inR k a) ∧ v = .c (.int false k (a / b) (x.div y)) := by
        cases hd : x.divOk y && x.fit k <;> rw [hd] at h <;> simp only [cond_false, cond_true, PV.gives] at h
        · exact h
        · simp only [Bool.and_eq_true] at hd
          exact ⟨⟨(Bd.divOk_sound hd.1).1, (Bd.divOk_sound hd.1).2, Bd.fit_inR hd.2⟩, h⟩
      obtain ⟨⟨h1, h2, h3⟩, rfl⟩ := h
      have hb : b ≠ 0 := by omega
      have e : a.tdiv b = a / b := by rw [Int.tdiv_eq_ediv_of_nonneg h1]
      simp [binOp, Op.intDiv, hb, e, SV.den, SC.den, wrap_inR (ediv_inR h1 h2 h3 hk)]
    · simp only [cond_true] at h
      · obtain ⟨hb, rfl⟩ := divL_gives h
        rw [litI_den, wrapK_eq]
        simp [binOp, Op.intDiv, hb]
  case rem =>
    cases l
    · have h : (0 ≤ a ∧ 0 < b) ∧ v = .c (.int false k (a % b) y.mod) := by
        cases hd : x.divOk y <;> rw [hd] at h <;> simp only [cond_false, cond_true, PV.gives] at h
        · exact h
        · exact ⟨Bd.divOk_sound hd, h⟩
      obtain ⟨⟨h1, h2⟩, rfl⟩ := h
      have hb : b ≠ 0 := by omega
      have e : a.tmod b = a % b := by rw [Int.tmod_eq_emod_of_nonneg h1]
      simp [binOp, Op.intDiv, hb, e, SV.den, SC.den]
    · simp only [cond_true] at h
      · obtain ⟨hb, rfl⟩ := divL_gives h
        rw [litI_den]
        simp [binOp, Op.intDiv, hb]
  case eql =>
    cases l
    · simp only [cond_false] at h
      cases hd : x.apart y <;> rw [hd] at h <;> simp only [cond_false, cond_true, PV.gives] at h <;> subst h
      · simp [binOp, Op.intCmp, SV.den, SC.den]
      · rw [litB_den]
        simp [binOp, Op.intCmp, Bd.apart_sound hd]
    · simp only [cond_true, PV.gives] at h
      subst h
      rw [litB_den]; simp [binOp, Op.intCmp]
  case neq =>
    cases l
    · simp only [cond_false] at h
      cases hd : x.apart y <;> rw [hd] at h <;> simp only [cond_false, cond_true, PV.gives] at h <;> subst h
      · simp [binOp, Op.intCmp, SV.den, SC.den]
      · rw [litB_den]
        simp [binOp, Op.intCmp, Bd.apart_sound hd]
    · simp only [cond_true, PV.gives] at h
      subst h
      rw [litB_den]; simp [binOp, Op.intCmp]
  case lss =>
    cases l
    · rw [cmpV_den (fun q hq => by rw [Bd.less_sound hq]; simp) h]; simp [binOp, Op.intCmp]
    · simp only [cond_true, PV.gives] at h
      subst h
      rw [litB_den]; simp [binOp, Op.intCmp]
  case gtr =>
    cases l
    · rw [cmpV_den (fun q hq => by rw [Bd.less_sound hq]; simp) h]; simp [binOp, Op.intCmp]
    · simp only [cond_true, PV.gives] at h
      subst h
      rw [litB_den]; simp [binOp, Op.intCmp]
  case leq =>
    cases l
    · rw [cmpV_den (fun q hq => by rw [Bd.less_sound hq]; by_cases h : b < a <;> simp [h] <;> omega) h]; simp [binOp, Op.intCmp]
    · simp only [cond_true, PV.gives] at h
      subst h
      rw [litB_den]; simp [binOp, Op.intCmp]
  case geq =>
    cases l
    · rw [cmpV_den (fun q hq => by rw [Bd.less_sound hq]; by_cases h : a < b <;> simp [h] <;> omega) h]; simp [binOp, Op.intCmp]
    · simp only [cond_true, PV.gives] at h
      subst h
      rw [litB_den]; simp [binOp, Op.intCmp]
  all_goals exact h.elim
end Go.Proofs.Ytohijcgbfcahhaa
