/- An executor of the program's code over symbolic values, which leaves what is to be shown as one plain proposition. This text: the values, the memory, what they mean. No program in sight. The executor: operations that leave the memory as it is. No program in sight. The executor: loads, addresses, and whatever else leaves the memory as it is. The executor: addresses, tests, numbers, built values. -/
import Derived.Test.YtgiakcepgbpchaaRowK
import Derived.Orders
import Derived.Deep.Quiet
import Derived.KernelRfl
import Derived.Deep.MidRow
import Derived.IntWalk
import Derived.Laws.StructEq
import Derived.Laws.Slices
import Derived.Lib.MinMax
import Derived.Laws.Small
namespace Go.Proofs.Ytgiakcepgbpchaa
open Go Go.RowKit

/-- Bounds of a number, as far as they are known. -/
inductive Bd (n : Int) where
  | any
  | w (lo hi : Int) (h : lo ≤ n ∧ n ≤ hi)

/-- A cell's value. The first mark of a number says that it is known (a hint for the executor alone). -/
inductive SC where
  | int (l : Bool) (k : IntKind) (n : Int) (bd : Bd n := .any)
  | boo (l : Bool) (b : Bool)
  | ptr (n o : Nat)
  | elp (n i k f : Nat)
  | sli (n k : Nat) (lo : Bool) (o : Nat) (ll : Bool) (len cap : Nat)
  | nls
  | map (n : Nat)
  | fn (f : Fn) (a c : List SC)
  | ifc (t : TypeId) (x : SC)
  | sliv (a : Option Addr) (ll : Bool) (len cap : Nat)
  | ptv (a : Option Addr)
  | raw (v : Value)

mutual
def SC.den (ν : Nat → Nat) : SC → Value
  | .int _ k n _ => .int k n
  | .boo _ b => .bool b
  | .ptr n o => .pointer (some ⟨ν n, o, none⟩)
  | .elp n i k f => .pointer (some ⟨ν n, i * k + f, none⟩)
  | .sli n k _ o _ len cap => .slice (some ⟨ν n, o * k, none⟩) len cap
  | .nls => .slice none 0 0
  | .map n => .map (some (ν n))
  | .fn f a c => .func f (SC.denL ν a).toArray (SC.denL ν c).toArray
  | .ifc t x => .iface t (x.den ν)
  | .sliv a _ len cap => .slice a len cap
  | .ptv a => .pointer a
  | .raw v => v
termination_by structural x => x
def SC.denL (ν : Nat → Nat) : List SC → List Value
  | [] => []
  | x :: l => x.den ν :: SC.denL ν l
termination_by structural l => l
end
mutual
def SC.names : SC → List Nat
  | .ptr n _ => [n]
  | .elp n _ _ _ => [n]
  | .sli n _ _ _ _ _ _ => [n]
  | .map n => [n]
  | .fn _ a c => SC.namesL a ++ SC.namesL c
  | .ifc _ x => x.names
  | _ => []
termination_by structural x => x
def SC.namesL : List SC → List Nat
  | [] => []
  | x :: l => x.names ++ SC.namesL l
termination_by structural l => l
end
theorem denL_map (ν : Nat → Nat) (l : List SC) : SC.denL ν l = l.map (SC.den ν) := by
  induction l with
  | nil => simp [SC.denL]
  | cons x l ih => simp [SC.denL, ih]
mutual
theorem SC.den_eq {ν μ : Nat → Nat} : ∀ (x : SC), (∀ n ∈ x.names, ν n = μ n) → x.den ν = x.den μ
  | .int _ _ _ _, _ => by simp [SC.den]
  | .boo _ _, _ => by simp [SC.den]
  | .ptr n _, h => by simp [SC.den, h n (by simp [SC.names])]
  | .elp n _ _ _, h => by simp [SC.den, h n (by simp [SC.names])]
  | .sli n _ _ _ _ _ _, h => by simp [SC.den, h n (by simp [SC.names])]
  | .nls, _ => by simp [SC.den]
  | .map n, h => by simp [SC.den, h n (by simp [SC.names])]
  | .fn f a c, h => by
    simp only [SC.names, List.mem_append] at h
    simp only [SC.den]
    rw [SC.denL_eq a fun n hn => h n (.inl hn), SC.denL_eq c fun n hn => h n (.inr hn)]
  | .ifc t x, h => by
    simp only [SC.names] at h
    simp only [SC.den]
    rw [SC.den_eq x h]
  | .sliv _ _ _ _, _ => by simp [SC.den]
  | .ptv _, _ => by simp [SC.den]
  | .raw _, _ => by simp [SC.den]
theorem SC.denL_eq {ν μ : Nat → Nat} : ∀ (l : List SC), (∀ n ∈ SC.namesL l, ν n = μ n) → SC.denL ν l = SC.denL μ l
  | [], _ => by simp [SC.denL]
  | x :: l, h => by
    simp only [SC.namesL, List.mem_append] at h
    simp only [SC.denL]
    rw [SC.den_eq x fun n hn => h n (.inl hn), SC.denL_eq l fun n hn => h n (.inr hn)]
end

/-- A temporary's value: one cell, some cells, or the parts of a call's result (of each: is it an aggregate?, its cells). -/
inductive SV where
  | c (x : SC)
  | agg (l : List SC)
  | tup (l : List (Bool × List SC))
def partDen (ν : Nat → Nat) (p : Bool × List SC) : Value :=
  match p with
  | (true, l) => .agg (SC.denL ν l).toArray
  | (false, [x]) => x.den ν
  | _ => undef
def SV.den (ν : Nat → Nat) : SV → Value
  | .c x => x.den ν
  | .agg l => .agg (SC.denL ν l).toArray
  | .tup l => .tuple (l.map (partDen ν)).toArray
def SV.names : SV → List Nat
  | .c x => x.names
  | .agg l => SC.namesL l
  | .tup l => l.flatMap fun p => SC.namesL p.2
def SV.und : SV := .tup []
theorem SV.den_und (ν : Nat → Nat) : SV.und.den ν = undef := rfl
theorem partDen_eq {ν μ : Nat → Nat} (p : Bool × List SC) (h : ∀ n ∈ SC.namesL p.2, ν n = μ n) : partDen ν p = partDen μ p := by
  obtain ⟨b, l⟩ := p
  cases b with
  | true => simp only [partDen]; rw [SC.denL_eq l h]
  | false =>
    match l, h with
    | [], _ => rfl
    | [x], h => simp only [partDen]; exact SC.den_eq x fun n hn => h n (by simp [SC.namesL, hn])
    | _ :: _ :: _, _ => rfl
theorem SV.den_eq {ν μ : Nat → Nat} (x : SV) (h : ∀ n ∈ x.names, ν n = μ n) : x.den ν = x.den μ := by
  cases x with
  | c x => exact SC.den_eq x h
  | agg l => simp only [SV.den]; rw [SC.denL_eq l h]
  | tup l =>
    simp only [SV.den]
    congr 2
    apply List.map_congr_left
    intro p hp
    exact partDen_eq p fun n hn => h n (by simp only [SV.names, List.mem_flatMap]; exact ⟨p, hp, hn⟩)

/-- What else may stand for a block: abstract predicates. -/
structure EXT where
  X : Type
  den : (Nat → Nat) → Nat → X → Assn
  names : X → List Nat
  ren : (Nat → Nat) → X → X
  law : ∀ (ν μ : Nat → Nat) (b : Nat) (x : X), (∀ n ∈ names x, ν n = μ n) → den ν b x = den μ b x
  rlaw : ∀ (τ ν : Nat → Nat) (b : Nat) (x : X), den ν b (ren τ x) = den (ν ∘ τ) b x

/-- What a block holds: cells known one by one; a row of n integers (room for cap), given by a function; a row of n elements of k cells each; a map; an abstract predicate. -/
inductive SO (E : EXT) where
  | cells (l : List SC) (t : TypeId)
  | ints (t : TypeId) (k : IntKind) (n cap : Nat) (f : Nat → Int)
  | vals (t : TypeId) (k n cap : Nat) (f : Nat → List Value)
  | row (t : TypeId) (k n cap : Nat) (l : List SC)
  | mp (l : List (Int × Value))
  | seen (W : World)
  | ext (x : E.X)

/-- A row of cells at the head of a block, whatever lies behind them. -/
def rowHead (b : Nat) (t : TypeId) (k n cap : Nat) (xs : List Value) : Assn :=
  Assn.ex fun cur : Array Value => Assn.pure (xs.length = n * k ∧ n ≤ cap ∧ cap ≤ maxLen ∧ cur.size = cap * k ∧ cur.toList.take (n * k) = xs) * own b (.cells cur t (0, 0))
def intsOf (k : IntKind) (n : Nat) (f : Nat → Int) : List Value := (List.range n).map fun i => .int k (f i)
def valsOf (n : Nat) (f : Nat → List Value) : List Value := (List.range n).flatMap f
def SO.den {E : EXT} (ν : Nat → Nat) (b : Nat) : SO E → Assn
  | .cells l t => own b (.cells (SC.denL ν l).toArray t (0, 0))
  | .ints t k n cap f => rowHead b t 1 n cap (intsOf k n f)
  | .vals t k n cap f => Assn.pure (∀ i, i < n → (f i).length = k) * rowHead b t k n cap (valsOf n f)
  | .row t k n cap l => rowHead b t k n cap (SC.denL ν l)
  | .mp l => mapAt b l
  | .seen W => old W
  | .ext x => E.den ν b x
def SO.names {E : EXT} : SO E → List Nat
  | .cells l _ => SC.namesL l
  | .row _ _ _ _ l => SC.namesL l
  | .ext x => E.names x
  | _ => []
theorem SO.den_eq {E : EXT} {ν μ : Nat → Nat} {b : Nat} (x : SO E) (h : ∀ n ∈ x.names, ν n = μ n) : x.den ν b = x.den μ b := by
  cases x with
  | cells l t => simp only [SO.den]; rw [SC.denL_eq l h]
  | ints => rfl
  | vals => rfl
  | row t k n cap l => simp only [SO.den]; rw [SC.denL_eq l h]
  | mp => rfl
  | seen => rfl
  | ext x => exact E.law ν μ b x h

/-- The memory that is known: names of blocks, and what they hold. -/
abbrev SH (E : EXT) : Type := List (Nat × SO E)
def SH.get {E : EXT} : SH E → Nat → Option (SO E)
  | [], _ => none
  | (m, o) :: h, n => if m = n then some o else SH.get h n
def SH.set {E : EXT} : SH E → Nat → SO E → SH E
  | [], _, _ => []
  | (m, o) :: h, n, p => if m = n then (m, p) :: h else (m, o) :: SH.set h n p
def SH.del {E : EXT} : SH E → Nat → SH E
  | [], _ => []
  | (m, o) :: h, n => if m = n then h else (m, o) :: SH.del h n
/-- A new one, at its place by its number. -/
def SH.put {E : EXT} : SH E → Nat → SO E → SH E
  | [], n, p => [(n, p)]
  | (m, o) :: h, n, p => if n < m then (n, p) :: (m, o) :: h else (m, o) :: SH.put h n p
def SH.den {E : EXT} (ν : Nat → Nat) : SH E → Assn
  | [] => 1
  | (m, o) :: h => o.den ν (ν m) * SH.den ν h
def SH.names {E : EXT} : SH E → List Nat
  | [] => []
  | (m, o) :: h => m :: (o.names ++ SH.names h)
theorem SH.den_eq {E : EXT} {ν μ : Nat → Nat} : ∀ (h : SH E), (∀ n ∈ h.names, ν n = μ n) → h.den ν = h.den μ
  | [], _ => rfl
  | (m, o) :: h, e => by
    simp only [SH.names, List.mem_cons, List.mem_append] at e
    simp only [SH.den]
    rw [e m (.inl rfl), SO.den_eq o fun n hn => e n (.inr (.inl hn)), SH.den_eq h fun n hn => e n (.inr (.inr hn))]
theorem SH.den_get {E : EXT} (ν : Nat → Nat) {n : Nat} {o : SO E} : ∀ {h : SH E}, h.get n = some o → h.den ν = o.den ν (ν n) * (h.del n).den ν
  | [], e => by simp [SH.get] at e
  | (m, p) :: h, e => by
    simp only [SH.get] at e
    split at e
    · rename_i hm
      cases e
      simp [SH.den, SH.del, hm]
    · rename_i hm
      simp only [SH.den, SH.del, if_neg hm]
      rw [SH.den_get ν e, Assn.mul_left_comm]
theorem SH.den_set {E : EXT} (ν : Nat → Nat) {n : Nat} {o p : SO E} : ∀ {h : SH E}, h.get n = some o → (h.set n p).den ν = p.den ν (ν n) * (h.del n).den ν
  | [], e => by simp [SH.get] at e
  | (m, q) :: h, e => by
    simp only [SH.get] at e
    split at e
    · rename_i hm
      simp [SH.den, SH.del, SH.set, hm]
    · rename_i hm
      simp only [SH.den, SH.del, SH.set, if_neg hm]
      rw [SH.den_set ν e, Assn.mul_left_comm]
theorem SH.den_put {E : EXT} (ν : Nat → Nat) (n : Nat) (p : SO E) : ∀ (h : SH E), (h.put n p).den ν = p.den ν (ν n) * h.den ν
  | [] => rfl
  | (m, q) :: h => by
    simp only [SH.put]
    split
    · rfl
    · simp only [SH.den]
      rw [SH.den_put ν n p h, Assn.mul_left_comm]

def upd (ν : Nat → Nat) (n b : Nat) : Nat → Nat := fun m => if m = n then b else ν m
theorem upd_same (ν : Nat → Nat) (n b : Nat) : upd ν n b n = b := by simp [upd]
theorem upd_other {ν : Nat → Nat} {n b m : Nat} (h : m ≠ n) : upd ν n b m = ν m := by simp [upd, h]
/-- The two agree on all names below n. -/
def Agree (n : Nat) (ν μ : Nat → Nat) : Prop := ∀ m, m < n → μ m = ν m
theorem Agree.refl (n : Nat) (ν : Nat → Nat) : Agree n ν ν := fun _ _ => rfl
theorem Agree.trans {n m : Nat} {a b c : Nat → Nat} (h : Agree n a b) (k : Agree m b c) (hn : n ≤ m) : Agree n a c := fun i hi => (k i (Nat.lt_of_lt_of_le hi hn)).trans (h i hi)
theorem Agree.upd {n m : Nat} {ν : Nat → Nat} (h : n ≤ m) (b : Nat) : Agree n ν (upd ν m b) := fun _ hi => upd_other (Nat.ne_of_lt (Nat.lt_of_lt_of_le hi h))

/-- A frame's temporaries: a tree (the first one at its root, the odd ones to the left). -/
inductive ST where
  | nil
  | node (v : SV) (l r : ST)
def ST.get : ST → Nat → SV
  | .nil, _ => SV.und
  | .node v _ _, 0 => v
  | .node _ l r, n + 1 => bif Nat.beq (n % 2) 0 then l.get (n / 2) else r.get (n / 2)
def ST.one (v : SV) : Nat → Nat → ST
  | 0, _ => .node v .nil .nil
  | _ + 1, 0 => .node v .nil .nil
  | k + 1, n + 1 => bif Nat.beq (n % 2) 0 then .node SV.und (ST.one v k (n / 2)) .nil else .node SV.und .nil (ST.one v k (n / 2))
def ST.put (v : SV) : ST → Nat → ST
  | .nil, n => ST.one v n n
  | .node _ l r, 0 => .node v l r
  | .node u l r, n + 1 => bif Nat.beq (n % 2) 0 then .node u (l.put v (n / 2)) r else .node u l (r.put v (n / 2))
def ST.build (g : Nat → SV) (n : Nat) : Nat → Nat → Nat → ST
  | 0, _, _ => .nil
  | d + 1, a, b => bif Nat.ble n a then .nil else .node (g a) (ST.build g n d (a + b) (2 * b)) (ST.build g n d (a + 2 * b) (2 * b))
theorem par (n : Nat) : (Nat.beq (n % 2) 0 = true ∧ n = 2 * (n / 2)) ∨ (Nat.beq (n % 2) 0 = false ∧ n = 2 * (n / 2) + 1) := by
  rcases Nat.mod_two_eq_zero_or_one n with h | h <;> rw [h]
  · exact .inl ⟨rfl, by omega⟩
  · exact .inr ⟨rfl, by omega⟩
theorem ST.get_one (v : SV) : ∀ (k n m : Nat), n ≤ k → (ST.one v k n).get m = if m = n then v else SV.und
  | 0, n, m, h => by
    obtain rfl : n = 0 := by omega
    cases m <;> simp [ST.one, ST.get]
  | k + 1, 0, m, h => by cases m <;> simp [ST.one, ST.get]
  | k + 1, n + 1, m, h => by
    cases m with
    | zero => rcases par n with ⟨e, _⟩ | ⟨e, _⟩ <;> simp [ST.one, e, ST.get]
    | succ m =>
      rcases par n with ⟨e, hn⟩ | ⟨e, hn⟩ <;> rcases par m with ⟨e', hm⟩ | ⟨e', hm⟩ <;> simp only [ST.one, e, ST.get, e', cond_true, cond_false]
      · rw [ST.get_one v k (n / 2) (m / 2) (by omega)]
        by_cases h : m = n
        · subst h; simp
        · rw [if_neg (by omega), if_neg (by omega)]
      · rw [if_neg (by omega)]
      · rw [if_neg (by omega)]
      · rw [ST.get_one v k (n / 2) (m / 2) (by omega)]
        by_cases h : m = n
        · subst h; simp
        · rw [if_neg (by omega), if_neg (by omega)]
theorem ST.get_put (v : SV) : ∀ (t : ST) (n m : Nat), (t.put v n).get m = if m = n then v else t.get m
  | .nil, n, m => by simp only [ST.put, ST.get]; exact ST.get_one v n n m (Nat.le_refl _)
  | .node u l r, 0, m => by cases m <;> simp [ST.put, ST.get]
  | .node u l r, n + 1, m => by
    cases m with
    | zero => rcases par n with ⟨e, _⟩ | ⟨e, _⟩ <;> simp [ST.put, e, ST.get]
    | succ m =>
      rcases par n with ⟨e, hn⟩ | ⟨e, hn⟩ <;> rcases par m with ⟨e', hm⟩ | ⟨e', hm⟩ <;> simp only [ST.put, e, ST.get, e', cond_true, cond_false]
      · rw [ST.get_put v l (n / 2) (m / 2)]
        by_cases h : m = n
        · subst h; simp
        · rw [if_neg (by omega), if_neg (by omega)]
      · rw [if_neg (by omega)]
      · rw [if_neg (by omega)]
      · rw [ST.get_put v r (n / 2) (m / 2)]
        by_cases h : m = n
        · subst h; simp
        · rw [if_neg (by omega), if_neg (by omega)]
theorem ST.get_build (g : Nat → SV) (n : Nat) : ∀ (d a b i : Nat), a + b * i < n → i + 1 < 2 ^ d → (ST.build g n d a b).get i = g (a + b * i)
  | 0, a, b, i, _, h => by simp at h
  | d + 1, a, b, i, h1, h2 => by
    have ha : Nat.ble n a = false := by
      cases h : Nat.ble n a
      · rfl
      · rw [Nat.ble_eq] at h
        have := Nat.le_add_right a (b * i)
        omega
    rw [Nat.pow_succ] at h2
    cases i with
    | zero => simp [ST.build, ha, ST.get]
    | succ i =>
      rcases par i with ⟨e, hi⟩ | ⟨e, hi⟩ <;> simp only [ST.build, ha, ST.get, e, cond_true, cond_false]
      · have hx : a + b + 2 * b * (i / 2) = a + b * (i + 1) := by
          have : 2 * b * (i / 2) = b * i := by rw [Nat.mul_assoc, Nat.mul_left_comm, ← hi]
          rw [this, Nat.mul_succ]; omega
        rw [ST.get_build g n d (a + b) (2 * b) (i / 2) (by rw [hx]; exact h1) (by omega), hx]
      · have hx : a + 2 * b + 2 * b * (i / 2) = a + b * (i + 1) := by
          have : b * i = 2 * b * (i / 2) + b := by
            conv => lhs; rw [hi]
            rw [Nat.mul_succ, Nat.mul_left_comm, Nat.mul_assoc]
          rw [Nat.mul_succ, this]; omega
        rw [ST.get_build g n d (a + 2 * b) (2 * b) (i / 2) (by rw [hx]; exact h1) (by omega), hx]
def ST.names : ST → List Nat
  | .nil => []
  | .node v l r => v.names ++ (l.names ++ r.names)
theorem ST.names_get : ∀ (t : ST) (i : Nat), ∀ x ∈ (t.get i).names, x ∈ t.names
  | .nil, _, x, h => by simp [ST.get, SV.und, SV.names] at h
  | .node v l r, 0, x, h => by
    simp only [ST.get] at h
    simp only [ST.names, List.mem_append]
    exact .inl h
  | .node v l r, n + 1, x, h => by
    simp only [ST.get] at h
    simp only [ST.names, List.mem_append]
    cases e : Nat.beq (n % 2) 0 <;> rw [e] at h
    · exact .inr (.inr (ST.names_get r _ x h))
    · exact .inr (.inl (ST.names_get l _ x h))
structure SF where
  n : Nat
  t : ST
def SF.names (f : SF) : List Nat := f.t.names
def SF.toL (f : SF) : List SV := (List.range f.n).map f.t.get
def SF.tab (n : Nat) (g : Nat → SV) : SF := ⟨n, ST.build g n (Nat.log2 n + 1) 0 1⟩
theorem SF.tab_get {n : Nat} {g : Nat → SV} {i : Nat} (h : i < n) : (SF.tab n g).t.get i = g i := by
  have h2 : n < 2 ^ (Nat.log2 n + 1) := Nat.lt_log2_self
  have := ST.get_build g n (Nat.log2 n + 1) 0 1 i (by omega) (by omega)
  rw [Nat.one_mul, Nat.zero_add] at this
  exact this
def actOf (ν : Nat → Nat) (f : SF) : Act := ⟨(f.toL.map (SV.den ν)).toArray, []⟩
theorem actOf_of {ν μ : Nat → Nat} {f g : SF} (hn : f.n = g.n) (h : ∀ i, i < f.n → (f.t.get i).den ν = (g.t.get i).den μ) : actOf ν f = actOf μ g := by
  unfold actOf SF.toL
  rw [← hn]
  congr 2
  rw [List.map_map, List.map_map]
  apply List.map_congr_left
  intro i hi
  exact h i (List.mem_range.1 hi)
theorem actOf_eq {ν μ : Nat → Nat} (f : SF) (h : ∀ n ∈ f.names, ν n = μ n) : actOf ν f = actOf μ f :=
  actOf_of rfl fun i _ => SV.den_eq _ fun x hx => h x (ST.names_get _ _ x hx)
def SF.at (f : SF) (t : Nat) : SV := bif Nat.blt t f.n then f.t.get t else SV.und
def SF.set (f : SF) (d : Option Nat) (v : SV) : SF := match d with | some d => ⟨f.n, f.t.put v d⟩ | none => f
theorem actOf_tmp (ν : Nat → Nat) (f : SF) (i : Nat) : (actOf ν f).tmps[i]? = if i < f.n then some ((f.t.get i).den ν) else none := by
  unfold actOf SF.toL
  by_cases h : i < f.n
  · simp [h]
  · rw [if_neg h]; simp; omega
theorem SF.at_lt {f : SF} {i : Nat} (h : i < f.n) : f.at i = f.t.get i := by
  unfold SF.at
  have : Nat.blt i f.n = true := by simpa [Nat.blt_eq] using h
  rw [this]; rfl
theorem SF.at_ge {f : SF} {i : Nat} (h : ¬ i < f.n) : f.at i = SV.und := by
  unfold SF.at
  have : Nat.blt i f.n = false := by
    cases e : Nat.blt i f.n
    · rfl
    · rw [Nat.blt_eq] at e; exact absurd e h
  rw [this]; rfl
theorem actOf_put (ν : Nat → Nat) (f : SF) (d : Option Nat) (v : SV) : (actOf ν f).put d (v.den ν) = actOf ν (f.set d v) := by
  cases d with
  | none => rfl
  | some d =>
    simp only [Act.put]
    have : ((actOf ν f).tmps.setIfInBounds d (v.den ν)) = (actOf ν (f.set (some d) v)).tmps := by
      apply Array.ext_getElem?
      intro i
      rw [actOf_tmp, Array.getElem?_setIfInBounds, actOf_tmp]
      simp only [SF.set]
      rw [ST.get_put]
      have hs : (actOf ν f).tmps.size = f.n := by simp [actOf, SF.toL]
      rw [hs]
      by_cases h : d = i
      · subst h; simp
      · rw [if_neg h, if_neg (Ne.symm h)]; rfl
    rw [this]
    rfl

/-- A plain value that the program's text names. -/
def SC.ofV : Value → SC
  | .int k n => .int true k n
  | .bool b => .boo true b
  | .slice none 0 0 => .nls
  | v => .raw v
/-- A value out of a row that is told of as plain values. -/
def SC.ofR : Value → SC
  | .int k n => .int false k n
  | .bool b => .boo false b
  | .slice a n c => .sliv a false n c
  | .pointer a => .ptv a
  | v => .raw v
theorem SC.den_ofV (ν : Nat → Nat) (v : Value) : (SC.ofV v).den ν = v := by
  unfold SC.ofV; split <;> simp [SC.den]
theorem SC.den_ofR (ν : Nat → Nat) (v : Value) : (SC.ofR v).den ν = v := by
  unfold SC.ofR; split <;> simp [SC.den]
def SV.ofV : Value → SV
  | .agg a => .agg (a.toList.map SC.ofV)
  | v => .c (SC.ofV v)
theorem denL_ofV (ν : Nat → Nat) (l : List Value) : SC.denL ν (l.map SC.ofV) = l := by
  rw [denL_map, List.map_map]
  have : (SC.den ν ∘ SC.ofV) = id := funext fun v => SC.den_ofV ν v
  rw [this, List.map_id]
theorem denL_ofR (ν : Nat → Nat) (l : List Value) : SC.denL ν (l.map SC.ofR) = l := by
  rw [denL_map, List.map_map]
  have : (SC.den ν ∘ SC.ofR) = id := funext fun v => SC.den_ofR ν v
  rw [this, List.map_id]
theorem SV.den_ofV (ν : Nat → Nat) (v : Value) : (SV.ofV v).den ν = v := by
  unfold SV.ofV
  split
  · simp only [SV.den]; rw [denL_ofV]
  · exact SC.den_ofV ν v
def SF.opv (f : SF) : Operand → SV
  | .tmp t => f.at t
  | .const v => SV.ofV v
  | .global g => .c (.raw (.pointer (some ⟨g, 0, none⟩)))
  | .func n => .c (.fn (.func n) [] [])
theorem eval_opv (ν : Nat → Nat) (f : SF) (x : Operand) : (actOf ν f).eval x = (f.opv x).den ν := by
  cases x with
  | tmp t =>
    simp only [Act.eval, SF.opv]
    rw [Array.getD_eq_getD_getElem?, actOf_tmp]
    by_cases h : t < f.n
    · rw [if_pos h, SF.at_lt h]; rfl
    · rw [if_neg h, SF.at_ge h, SV.den_und]; rfl
  | const v => simp only [Act.eval, SF.opv]; rw [SV.den_ofV]
  | global g => rfl
  | func n => rfl
end Go.Proofs.Ytgiakcepgbpchaa
namespace Go.Proofs.Ytgiakcepgbpchaa
open Go Go.RowKit

/-- What an operation gives: a value; a value, if so much holds; the one value or the other; nothing (a number tells why). -/
inductive PV where
  | ok (v : SV)
  | need (p : Prop) (v : SV)
  | split (b : Bool) (x y : SV)
  | no (n : Nat)
def PV.gives : PV → SV → Prop
  | .ok u, v => v = u
  | .need p u, v => p ∧ v = u
  | .split b x y, v => (b = true ∧ v = x) ∨ (b = false ∧ v = y)
  | .no _, _ => False

def wrapK : IntKind → Int → Int
  | .i64, n => if 9223372036854775808 ≤ n % 18446744073709551616 then n % 18446744073709551616 - 18446744073709551616 else n % 18446744073709551616
  | .u64, n => n % 18446744073709551616
  | .u8, n => n % 256
  | k, n => k.wrap n
theorem wrapK_eq (k : IntKind) (n : Int) : wrapK k n = k.wrap n := by
  cases k <;> simp only [wrapK, IntKind.wrap, IntKind.bits, IntKind.signed] <;> simp
def inR : IntKind → Int → Prop
  | .i64, n => -9223372036854775808 ≤ n ∧ n ≤ 9223372036854775807
  | .u64, n => 0 ≤ n ∧ n < 18446744073709551616
  | .u8, n => 0 ≤ n ∧ n < 256
  | k, n => k.wrap n = n
theorem wrap_inR {k : IntKind} {n : Int} (h : inR k n) : k.wrap n = n := by
  cases k <;> simp only [inR] at h <;> try exact h
  · rw [← wrapK_eq]; simp only [wrapK]; split <;> omega
  · rw [← wrapK_eq]; simp only [wrapK]; omega
  · rw [← wrapK_eq]; simp only [wrapK]; omega

/-- A known number, reckoned out. -/
def litI (k : IntKind) (n : Int) : SV :=
  match n with
  | .ofNat 0 => .c (.int true k (.ofNat 0))
  | .ofNat (m + 1) => .c (.int true k (.ofNat (m + 1)))
  | .negSucc m => .c (.int true k (.negSucc m))
theorem litI_den (ν : Nat → Nat) (k : IntKind) (n : Int) : (litI k n).den ν = .int k n := by
  unfold litI; split <;> simp [SV.den, SC.den]
def litB (b : Bool) : SV := match b with | true => .c (.boo true true) | false => .c (.boo true false)
theorem litB_den (ν : Nat → Nat) (b : Bool) : (litB b).den ν = .bool b := by cases b <;> simp [litB, SV.den, SC.den]

/-- Bounds: an order that the kernel reckons. -/
def leI : Int → Int → Bool
  | .ofNat a, .ofNat b => Nat.ble a b
  | .negSucc _, .ofNat _ => true
  | .ofNat _, .negSucc _ => false
  | .negSucc a, .negSucc b => Nat.ble b a
theorem leI_le {a b : Int} (h : leI a b = true) : a ≤ b := by
  cases a <;> cases b <;> simp only [leI, Nat.ble_eq] at h
  · exact Int.ofNat_le.2 h
  · cases h
  · exact Int.le_trans (Int.le_of_lt (Int.negSucc_lt_zero _)) (Int.natCast_nonneg _)
  · simp only [Int.negSucc_eq]; omega
theorem leI_of {a b : Int} (h : a ≤ b) : leI a b = true := by
  cases a <;> cases b <;> simp only [leI, Nat.ble_eq]
  · exact Int.ofNat_le.1 h
  · rename_i m n
    have := Int.natCast_nonneg m
    rw [Int.negSucc_eq] at h
    simp only [Int.ofNat_eq_natCast] at h
    omega
  · simp only [Int.negSucc_eq] at h; omega
def minI (a b : Int) : Int := bif leI a b then a else b
def maxI (a b : Int) : Int := bif leI a b then b else a
/-- Bounds of a number that may be known. -/
def Bd.of (l : Bool) {n : Int} (b : Bd n) : Bd n := bif l then .w n n ⟨Int.le_refl n, Int.le_refl n⟩ else b
def Bd.fit {n : Int} (k : IntKind) (b : Bd n) : Bool :=
  match b with
  | .any => false
  | .w lo hi _ => match k with
    | .i64 => leI (-9223372036854775808) lo && leI hi 9223372036854775807
    | .u64 => leI 0 lo && leI hi 18446744073709551615
    | .u8 => leI 0 lo && leI hi 255
    | _ => false
theorem Bd.fit_inR {n : Int} {k : IntKind} {b : Bd n} (h : b.fit k = true) : inR k n := by
  unfold Bd.fit at h
  split at h
  · cases h
  · rename_i lo hi hb
    split at h <;> try cases h
    all_goals
      simp only [Bool.and_eq_true] at h
      have h1 := leI_le h.1
      have h2 := leI_le h.2
      simp only [inR]
      omega
def Bd.add {a b : Int} (x : Bd a) (y : Bd b) : Bd (a + b) :=
  match x, y with
  | .w l1 h1 p, .w l2 h2 q => .w (l1 + l2) (h1 + h2) ⟨Int.add_le_add p.1 q.1, Int.add_le_add p.2 q.2⟩
  | _, _ => .any
def Bd.sub {a b : Int} (x : Bd a) (y : Bd b) : Bd (a - b) :=
  match x, y with
  | .w l1 h1 p, .w l2 h2 q => .w (l1 - h2) (h1 - l2) ⟨Int.sub_le_sub p.1 q.2, Int.sub_le_sub p.2 q.1⟩
  | _, _ => .any
theorem mul_bd {a b l1 h1 l2 h2 : Int} (p : l1 ≤ a ∧ a ≤ h1) (q : l2 ≤ b ∧ b ≤ h2) (h : (leI 0 l1 && leI 0 l2) = true) : l1 * l2 ≤ a * b ∧ a * b ≤ h1 * h2 := by
  simp only [Bool.and_eq_true] at h
  have u := leI_le h.1
  have v := leI_le h.2
  exact ⟨Int.mul_le_mul p.1 q.1 v (by omega), Int.mul_le_mul p.2 q.2 (by omega) (by omega)⟩
/-- What is done where a test comes out well. -/
def onTrue {α : Sort _} (b : Bool) (y : b = true → α) (n : α) : α := match b, y with
  | true, y => y rfl
  | false, _ => n
def Bd.mul {a b : Int} (x : Bd a) (y : Bd b) : Bd (a * b) :=
  match x, y with
  | .w l1 h1 p, .w l2 h2 q => onTrue (leI 0 l1 && leI 0 l2) (fun h => .w (l1 * l2) (h1 * h2) (mul_bd p q h)) .any
  | _, _ => .any
theorem div_bd {a b l1 h1 l2 h2 : Int} (p : l1 ≤ a ∧ a ≤ h1) (q : l2 ≤ b ∧ b ≤ h2) (h : (leI 0 l1 && leI 1 l2) = true) : 0 ≤ a / b ∧ a / b ≤ h1 / l2 := by
  simp only [Bool.and_eq_true] at h
  have u := leI_le h.1
  have v := leI_le h.2
  refine ⟨Int.ediv_nonneg (by omega) (by omega), ?_⟩
  refine Int.le_trans (Int.ediv_le_ediv (by omega) p.2) ?_
  have hb : h1 / b ≤ h1 / l2 := by
    rw [Int.le_ediv_iff_mul_le (by omega)]
    have h3 : h1 / b * l2 ≤ h1 / b * b := Int.mul_le_mul_of_nonneg_left q.1 (Int.ediv_nonneg (by omega) (by omega))
    exact Int.le_trans h3 (Int.ediv_mul_le _ (by omega))
  exact hb
def Bd.div {a b : Int} (x : Bd a) (y : Bd b) : Bd (a / b) :=
  match x, y with
  | .w l1 h1 p, .w l2 h2 q => onTrue (leI 0 l1 && leI 1 l2) (fun h => .w 0 (h1 / l2) (div_bd p q h)) .any
  | _, _ => .any
theorem mod_bd {a b l2 h2 : Int} (q : l2 ≤ b ∧ b ≤ h2) (h : leI 1 l2 = true) : 0 ≤ a % b ∧ a % b ≤ h2 - 1 := by
  have v := leI_le h
  have h1 := Int.emod_nonneg a (b := b) (by omega)
  have h2 := Int.emod_lt_of_pos a (b := b) (by omega)
  omega
def Bd.mod {a b : Int} (y : Bd b) : Bd (a % b) :=
  match y with
  | .w l2 h2 q => onTrue (leI 1 l2) (fun h => .w 0 (h2 - 1) (mod_bd q h)) .any
  | _ => .any
/-- May one number be divided by the other, as natural ones? -/
def Bd.divOk {a b : Int} (x : Bd a) (y : Bd b) : Bool :=
  match x, y with
  | .w l1 _ _, .w l2 _ _ => leI 0 l1 && leI 1 l2
  | _, _ => false
theorem Bd.divOk_sound {a b : Int} {x : Bd a} {y : Bd b} (h : x.divOk y = true) : 0 ≤ a ∧ 0 < b := by
  unfold Bd.divOk at h
  split at h
  · rename_i p _ _ q
    simp only [Bool.and_eq_true] at h
    have h1 := leI_le h.1
    have h2 := leI_le h.2
    omega
  · cases h
/-- Is one surely below the other (true, true), surely not (true, false)? -/
def Bd.less {a b : Int} (x : Bd a) (y : Bd b) : Bool × Bool :=
  match x, y with
  | .w l1 h1 _, .w l2 h2 _ => bif leI (h1 + 1) l2 then (true, true) else bif leI h2 l1 then (true, false) else (false, false)
  | _, _ => (false, false)
theorem Bd.less_sound {a b : Int} {x : Bd a} {y : Bd b} {r : Bool} (h : x.less y = (true, r)) : r = decide (a < b) := by
  unfold Bd.less at h
  split at h
  · rename_i l1 h1 p l2 h2 q
    cases e1 : leI (h1 + 1) l2 <;> rw [e1] at h
    · cases e2 : leI h2 l1 <;> rw [e2] at h <;> simp only [cond_true, cond_false, Prod.mk.injEq, Bool.false_eq_true, false_and, true_and] at h
      · have := leI_le e2
        subst h
        simp; omega
    · simp only [cond_true, Prod.mk.injEq, true_and] at h
      have := leI_le e1
      subst h
      simp; omega
  · simp at h
/-- Are they surely not the same? -/
def Bd.apart {a b : Int} (x : Bd a) (y : Bd b) : Bool :=
  match x, y with
  | .w l1 h1 _, .w l2 h2 _ => leI (h1 + 1) l2 || leI (h2 + 1) l1
  | _, _ => false
theorem Bd.apart_sound {a b : Int} {x : Bd a} {y : Bd b} (h : x.apart y = true) : a ≠ b := by
  unfold Bd.apart at h
  split at h
  · rename_i l1 h1 p l2 h2 q
    simp only [Bool.or_eq_true] at h
    rcases h with h | h <;> have := leI_le h <;> omega
  · cases h
/-- A test that bounds may decide. -/
def cmpV (r : Bool × Bool) (neg : Bool) (b : Bool) : PV := match r with
  | (true, true) => .ok (litB (!neg))
  | (true, false) => .ok (litB neg)
  | (false, _) => .ok (.c (.boo false b))
theorem cmpV_den {r : Bool × Bool} {neg b : Bool} {v : SV} (hr : ∀ q, r = (true, q) → b = (q != neg)) (h : (cmpV r neg b).gives v) (ν : Nat → Nat) : v.den ν = .bool b := by
  unfold cmpV at h
  split at h <;> simp only [PV.gives] at h <;> subst h
  · rw [litB_den, hr true rfl]; cases neg <;> rfl
  · rw [litB_den, hr false rfl]; cases neg <;> rfl
  · rfl
/-- A number of bounds, forced out. -/
def Bd.wrapped (k : IntKind) (n : Int) : Bd (k.wrap n) := match k with
  | .i64 => .w (-9223372036854775808) 9223372036854775807 (by rw [← wrapK_eq]; simp only [wrapK]; split <;> omega)
  | .u64 => .w 0 18446744073709551615 (by rw [← wrapK_eq]; simp only [wrapK]; omega)
  | .u8 => .w 0 255 (by rw [← wrapK_eq]; simp only [wrapK]; omega)
  | _ => .any

def arithV (wr : Bool) (k : IntKind) (known : Bool) (n : Int) (b : Bd n := .any) : PV :=
  bif known then .ok (litI k (wrapK k n)) else bif b.fit k then .ok (.c (.int false k n b)) else bif wr then .ok (.c (.int false k (k.wrap n) (.wrapped k n))) else .need (inR k n) (.c (.int false k n))
theorem arithV_den {wr known : Bool} {k : IntKind} {n : Int} {b : Bd n} {v : SV} (h : (arithV wr k known n b).gives v) (ν : Nat → Nat) : v.den ν = .int k (k.wrap n) := by
  unfold arithV at h
  cases known
  · cases hf : b.fit k <;> rw [hf] at h
    · cases wr <;> simp only [cond_true, cond_false, PV.gives] at h
      · obtain ⟨h, rfl⟩ := h; simp [SV.den, SC.den, wrap_inR h]
      · subst h; rfl
    · simp only [cond_true, cond_false, PV.gives] at h
      subst h
      simp [SV.den, SC.den, wrap_inR (Bd.fit_inR hf)]
  · simp only [cond_true, PV.gives] at h
    subst h; rw [litI_den, wrapK_eq]

def divL (b : Int) (v : SV) : PV := match b with | .ofNat 0 => .no 20 | _ => .ok v
theorem divL_gives {b : Int} {u v : SV} (h : (divL b u).gives v) : b ≠ 0 ∧ v = u := by
  unfold divL at h
  split at h
  · exact h.elim
  · rename_i hb; exact ⟨fun e => hb (by rw [e]; rfl), h⟩
def binInt (wr : Bool) (op : BinOp) (k : IntKind) (l : Bool) (a b : Int) (x : Bd a) (y : Bd b) : PV :=
  match op with
  | .add => arithV wr k l (a + b) (x.add y)
  | .sub => arithV wr k l (a - b) (x.sub y)
  | .mul => arithV wr k l (a * b) (x.mul y)
  | .quo => bif l then divL b (litI k (wrapK k (a.tdiv b))) else bif x.divOk y && x.fit k then .ok (.c (.int false k (a / b) (x.div y))) else .need (0 ≤ a ∧ 0 < b ∧ inR k a) (.c (.int false k (a / b) (x.div y)))
  | .rem => bif l then divL b (litI k (a.tmod b)) else bif x.divOk y then .ok (.c (.int false k (a % b) y.mod)) else .need (0 ≤ a ∧ 0 < b) (.c (.int false k (a % b) y.mod))
  | .eql => bif l then .ok (litB (a == b)) else bif x.apart y then .ok (litB false) else .ok (.c (.boo false (a == b)))
  | .neq => bif l then .ok (litB (a != b)) else bif x.apart y then .ok (litB true) else .ok (.c (.boo false (a != b)))
  | .lss => bif l then .ok (litB (a < b)) else cmpV (x.less y) false (a < b)
  | .leq => bif l then .ok (litB (a ≤ b)) else cmpV (y.less x) true (a ≤ b)
  | .gtr => bif l then .ok (litB (a > b)) else cmpV (y.less x) false (a > b)
  | .geq => bif l then .ok (litB (a ≥ b)) else cmpV (x.less y) true (a ≥ b)
  | _ => .no 21
theorem ediv_inR {k : IntKind} {a b : Int} (ha : 0 ≤ a) (hb : 0 < b) (h : inR k a) (hk : k = .i64 ∨ k = .u64 ∨ k = .u8) : inR k (a / b) := by
  have h1 : 0 ≤ a / b := Int.ediv_nonneg ha (by omega)
  have h2 : a / b ≤ a := Int.ediv_le_self b ha
  rcases hk with rfl | rfl | rfl <;> simp only [inR] at h ⊢ <;> omega
theorem binInt_den {P : Program} {wr l : Bool} {op : BinOp} {k : IntKind} {a b : Int} {x : Bd a} {y : Bd b} {v : SV} (hk : k = .i64 ∨ k = .u64 ∨ k = .u8) (h : (binInt wr op k l a b x y).gives v) (ν : Nat → Nat) (t : TypeId) (w : World) :
    (binOp op t (.int k a) (.int k b)).run P w = .ok (v.den ν) w := by
  cases op <;> simp only [binInt] at h
  case add => rw [arithV_den h]; simp [binOp, Op.intArith]
  case sub => rw [arithV_den h]; simp [binOp, Op.intArith]
  case mul => rw [arithV_den h]; simp [binOp, Op.intArith]
  case quo =>
    cases l
    · have h : (0 ≤ a ∧ 0 < b ∧ inR k a) ∧ v = .c (.int false k (a / b) (x.div y)) := by
        cases hd : x.divOk y && x.fit k <;> rw [hd] at h <;> simp only [cond_false, cond_true, PV.gives] at h
        · exact h
        · simp only [Bool.and_eq_true] at hd
          exact ⟨⟨(Bd.divOk_sound hd.1).1, (Bd.divOk_sound hd.1).2, Bd.fit_inR hd.2⟩, h⟩
      obtain ⟨⟨h1, h2, h3⟩, rfl⟩ := h
      have hb : b ≠ 0 := by omega
      have e : a.tdiv b = a / b := by rw [Int.tdiv_eq_ediv_of_nonneg h1]
      simp [binOp, Op.intDiv, hb, e, SV.den, SC.den, wrap_inR (ediv_inR h1 h2 h3 hk)]
    · simp only [cond_true] at h
      · obtain ⟨hb, rfl⟩ := divL_gives h
        rw [litI_den, wrapK_eq]
        simp [binOp, Op.intDiv, hb]
  case rem =>
    cases l
    · have h : (0 ≤ a ∧ 0 < b) ∧ v = .c (.int false k (a % b) y.mod) := by
        cases hd : x.divOk y <;> rw [hd] at h <;> simp only [cond_false, cond_true, PV.gives] at h
        · exact h
        · exact ⟨Bd.divOk_sound hd, h⟩
      obtain ⟨⟨h1, h2⟩, rfl⟩ := h
      have hb : b ≠ 0 := by omega
      have e : a.tmod b = a % b := by rw [Int.tmod_eq_emod_of_nonneg h1]
      simp [binOp, Op.intDiv, hb, e, SV.den, SC.den]
    · simp only [cond_true] at h
      · obtain ⟨hb, rfl⟩ := divL_gives h
        rw [litI_den]
        simp [binOp, Op.intDiv, hb]
  case eql =>
    cases l
    · simp only [cond_false] at h
      cases hd : x.apart y <;> rw [hd] at h <;> simp only [cond_false, cond_true, PV.gives] at h <;> subst h
      · simp [binOp, Op.intCmp, SV.den, SC.den]
      · rw [litB_den]
        simp [binOp, Op.intCmp, Bd.apart_sound hd]
    · simp only [cond_true, PV.gives] at h
      subst h
      rw [litB_den]; simp [binOp, Op.intCmp]
  case neq =>
    cases l
    · simp only [cond_false] at h
      cases hd : x.apart y <;> rw [hd] at h <;> simp only [cond_false, cond_true, PV.gives] at h <;> subst h
      · simp [binOp, Op.intCmp, SV.den, SC.den]
      · rw [litB_den]
        simp [binOp, Op.intCmp, Bd.apart_sound hd]
    · simp only [cond_true, PV.gives] at h
      subst h
      rw [litB_den]; simp [binOp, Op.intCmp]
  case lss =>
    cases l
    · rw [cmpV_den (fun q hq => by rw [Bd.less_sound hq]; simp) h]; simp [binOp, Op.intCmp]
    · simp only [cond_true, PV.gives] at h
      subst h
      rw [litB_den]; simp [binOp, Op.intCmp]
  case gtr =>
    cases l
    · rw [cmpV_den (fun q hq => by rw [Bd.less_sound hq]; simp) h]; simp [binOp, Op.intCmp]
    · simp only [cond_true, PV.gives] at h
      subst h
      rw [litB_den]; simp [binOp, Op.intCmp]
  case leq =>
    cases l
    · rw [cmpV_den (fun q hq => by rw [Bd.less_sound hq]; by_cases h : b < a <;> simp [h] <;> omega) h]; simp [binOp, Op.intCmp]
    · simp only [cond_true, PV.gives] at h
      subst h
      rw [litB_den]; simp [binOp, Op.intCmp]
  case geq =>
    cases l
    · rw [cmpV_den (fun q hq => by rw [Bd.less_sound hq]; by_cases h : a < b <;> simp [h] <;> omega) h]; simp [binOp, Op.intCmp]
    · simp only [cond_true, PV.gives] at h
      subst h
      rw [litB_den]; simp [binOp, Op.intCmp]
  all_goals exact h.elim
end Go.Proofs.Ytgiakcepgbpchaa
namespace Go.Proofs.Ytgiakcepgbpchaa
open Go Go.RowKit

section
variable {E : EXT} {P : Program}

def aggT (P : Program) (t : TypeId) : Option Bool := (P.underlying t).map TypeDesc.isRow
def sizeT (P : Program) (t : TypeId) : Option Nat := (P.info? t).map (·.size)

theorem run_isAgg_T {t : TypeId} {b : Bool} (h : aggT P t = some b) (w : World) : (isAgg t).run P w = .ok b w := by
  unfold aggT at h
  cases hu : P.underlying t with
  | none => rw [hu] at h; cases h
  | some d =>
    rw [hu] at h
    simp only [Option.map_some, Option.some.injEq] at h
    unfold isAgg
    rw [Sem.run_bind, run_underlying hu w]
    subst h
    cases d <;> simp [TypeDesc.isRow]
theorem run_sizeOf_T {t : TypeId} {n : Nat} (h : sizeT P t = some n) (w : World) : (sizeOf t).run P w = .ok n w := by
  unfold sizeT at h
  cases hi : P.info? t with
  | none => rw [hi] at h; cases h
  | some i =>
    rw [hi] at h
    simp at h
    subst h
    simp [sizeOf, typeInfo, hi]
theorem run_loadAt_one {t : TypeId} (h : aggT P t = some false) (w : World) (a : Addr) (v : Value) (hc : w.cell? a = some v) : (Instr.loadAt t (.pointer (some a))).run P w = .ok v w := by
  simp [Instr.loadAt, Instr.sureAddr, loadVar, run_isAgg_T h, load, Sem.run, hc]
theorem run_loadAt_many {t : TypeId} (h : aggT P t = some true) (w : World) (b o : Nat) (cs : List Value) (hs : sizeT P t = some cs.length) (hc : w.rangeAt b o cs) : (Instr.loadAt t (.pointer (some ⟨b, o, none⟩))).run P w = .ok (.agg cs.toArray) w := by
  unfold aggT at h
  cases hu : P.underlying t with
  | none => rw [hu] at h; cases h
  | some d =>
    rw [hu] at h
    simp only [Option.map_some, Option.some.injEq] at h
    exact run_loadAt_mid w b o t cs d hc hu h hs

/-- The cells of a block, as far as they are known one by one. -/
def SO.known : SO E → Option (List SC)
  | .cells l _ => some l
  | .row _ _ _ _ l => some l
  | _ => none
theorem rowHead_cells {w : World} {b : Nat} {t : TypeId} {k n cap : Nat} {xs : List Value} {R : Assn} (h : Sat w (rowHead b t k n cap xs * R)) : ∀ j u, xs[j]? = some u → w.cell? ⟨b, j, none⟩ = some u := by
  obtain ⟨cur, h⟩ := h.ex_mul
  rw [Assn.mul_assoc] at h
  obtain ⟨⟨h0, h1, h2, h3, h4⟩, h⟩ := h.pure_mul
  exact rowK_cell h h0 h4
theorem SO.known_cell {w : World} {ν : Nat → Nat} {b : Nat} {R : Assn} {o : SO E} {l : List SC} (hk : o.known = some l) (h : Sat w (o.den ν b * R)) (j : Nat) (x : SC) (hx : l[j]? = some x) : w.cell? ⟨b, j, none⟩ = some (x.den ν) := by
  have hv : (SC.denL ν l)[j]? = some (x.den ν) := by rw [denL_map, List.getElem?_map, hx]; rfl
  cases o with
  | cells l' t =>
    simp only [SO.known, Option.some.injEq] at hk
    subst hk
    simp only [SO.den] at h
    rw [h.cell]
    simpa using hv
  | row t k n cap l' =>
    simp only [SO.known, Option.some.injEq] at hk
    subst hk
    simp only [SO.den] at h
    exact rowHead_cells h j _ hv
  | _ => simp [SO.known] at hk

def SO.ty : SO E → Option TypeId
  | .cells _ t | .row t _ _ _ _ | .ints t _ _ _ _ | .vals t _ _ _ _ => some t
  | _ => none

/-- A number that the old memory has, within its kind's bounds. -/
def seenInt (k : IntKind) (W : World) (a : Option Addr) : Int := match a with
  | some x => match W.cell? x with
    | some (.int _ n) => max k.min (min n k.max)
    | _ => 0
  | none => 0
theorem seenInt_bd (k : IntKind) (W : World) (a : Option Addr) : k.min ≤ seenInt k W a ∧ seenInt k W a ≤ k.max := by
  have h0 : k.min ≤ 0 ∧ 0 ≤ k.max := by cases k <;> decide
  unfold seenInt
  split
  · split
    · omega
    · exact h0
  · exact h0
/-- The old memory has such a number there. -/
def Seen (k : IntKind) (W : World) (a : Option Addr) : Prop := ∃ x, a = some x ∧ W.cell? x = some (.int k (seenInt k W a))
/-- The old memory, as it is known. -/
def seenOf : SH E → Option World
  | [] => none
  | (_, .seen W) :: _ => some W
  | _ :: h => seenOf h
theorem seenOf_cell {W : World} {ν : Nat → Nat} {w : World} {x : Addr} {v : Value} (hv : W.cell? x = some v) : ∀ {h : SH E} {R : Assn}, seenOf h = some W → Sat w (h.den ν * R) → w.cell? x = some v
  | [], R, h, _ => by simp [seenOf] at h
  | (n, o) :: h, R, hs, H => by
    have next : seenOf h = some W → w.cell? x = some v := fun hs => seenOf_cell (R := o.den ν (ν n) * R) hv hs (by
      simp only [SH.den] at H
      exact H.cast (by ac_rfl))
    cases o with
    | seen W' =>
      simp only [seenOf, Option.some.injEq] at hs
      subst hs
      simp only [SH.den, SO.den] at H
      rw [Assn.mul_assoc] at H
      obtain ⟨p, ⟨q, r, ha, rfl, hq, _⟩, hk⟩ := H
      have hq' : q = fun i => W'.heap[i]? := hq
      subst hq'
      unfold World.cell? at *
      cases hb : W'.heap[x.block]? with
      | none => rw [hb] at hv; cases hv
      | some ob =>
        have := hk x.block ob (by simp [Part.join, hb])
        rw [this]
        rw [hb] at hv
        exact hv
    | _ => exact next hs
/-- A load. -/
def loadV (P : Program) (h : SH E) (t : TypeId) (a : SV) : PV :=
  match a with
  | .c (.ptr n o) =>
    match h.get n with
    | some ob =>
      match ob.known with
      | some l =>
        match aggT P t with
        | some false => match l[o]? with
          | some x => .ok (.c x)
          | none => .no 31
        | some true => match sizeT P t with
          | some s => bif ((l.drop o).take s).length == s then .ok (.agg ((l.drop o).take s)) else .no 32
          | none => .no 33
        | none => .no 34
      | none =>
        match ob, aggT P t with
        | .ints _ k m _ f, some false => .need (o < m) (.c (.int false k (f o)))
        | .vals _ k m _ f, some false => match k with
          | 0 => .no 35
          | k + 1 => match (f (o / (k + 1)))[o % (k + 1)]? with
            | some v => .need (o / (k + 1) < m) (.c (SC.ofR v))
            | none => .no 36
        | .vals _ k m _ f, some true => match sizeT P t with
          | some s => bif s == k && (o % k == 0) then .need (o / k < m) (.agg ((f (o / k)).map SC.ofR)) else .no 37
          | none => .no 38
        | _, _ => .no 39
    | none => .no 40
  | .c (.elp n i k f0) =>
    match h.get n with
    | some (.ints _ kd m _ f) => match aggT P t with
      | some false => bif k == 1 && f0 == 0 then .need (i < m) (.c (.int false kd (f i))) else .no 41
      | _ => .no 42
    | some (.vals _ k' m _ f) => match aggT P t with
      | some false => match (f i)[f0]? with
        | some v => bif k == k' && Nat.blt f0 k then .need (i < m) (.c (SC.ofR v)) else .no 43
        | none => .no 44
      | some true => match sizeT P t with
        | some s => bif s == k && k == k' && f0 == 0 then .need (i < m) (.agg ((f i).map SC.ofR)) else .no 45
        | none => .no 46
      | none => .no 47
    | _ => .no 48
  | .c (.ptv a) => match seenOf h with
    | some W => match aggT P t with
      | some false => match P.underlying t with
        | some (.int k) => .need (Seen k W a) (.c (.int false k (seenInt k W a) (.w _ _ (seenInt_bd k W a))))
        | _ => .no 49
      | _ => .no 49
    | none => .no 49
  | _ => .no 49

theorem intsOf_get (k : IntKind) (n : Nat) (f : Nat → Int) (i : Nat) (h : i < n) : (intsOf k n f)[i]? = some (.int k (f i)) := by
  simp [intsOf, h]
theorem valsOf_succ (n : Nat) (f : Nat → List Value) : valsOf (n + 1) f = valsOf n f ++ f n := by
  simp [valsOf, List.range_succ]
theorem valsOf_len (k : Nat) : ∀ (n : Nat) (f : Nat → List Value), (∀ i, i < n → (f i).length = k) → (valsOf n f).length = n * k
  | 0, f, _ => by simp [valsOf]
  | n + 1, f, h => by
    rw [valsOf_succ, List.length_append, valsOf_len k n f fun i hi => h i (Nat.lt_succ_of_lt hi), h n (Nat.lt_succ_self n), Nat.succ_mul]
theorem valsOf_get (k : Nat) : ∀ (n : Nat) (f : Nat → List Value), (∀ i, i < n → (f i).length = k) → ∀ (i j : Nat), i < n → j < k → (valsOf n f)[i * k + j]? = (f i)[j]?
  | 0, f, _, i, j, h, _ => by omega
  | n + 1, f, h, i, j, hi, hj => by
    rw [valsOf_succ]
    have hl := valsOf_len k n f fun i hi => h i (Nat.lt_succ_of_lt hi)
    by_cases hin : i < n
    · have hlt : i * k + j < (valsOf n f).length := by
        rw [hl]
        have : (i + 1) * k ≤ n * k := Nat.mul_le_mul_right k hin
        rw [Nat.succ_mul] at this
        omega
      rw [List.getElem?_append_left hlt]
      exact valsOf_get k n f (fun i hi => h i (Nat.lt_succ_of_lt hi)) i j hin hj
    · obtain rfl : i = n := by omega
      rw [List.getElem?_append_right (by rw [hl]; omega), hl]
      congr 1
      omega

theorem ints_cell {w : World} {ν : Nat → Nat} {b : Nat} {R : Assn} {t : TypeId} {k : IntKind} {n cap : Nat} {f : Nat → Int} (h : Sat w ((SO.ints (E := E) t k n cap f).den ν b * R)) (i : Nat) (hi : i < n) : w.cell? ⟨b, i, none⟩ = some (.int k (f i)) :=
  rowHead_cells h i _ (intsOf_get k n f i hi)
theorem vals_len {w : World} {ν : Nat → Nat} {b : Nat} {R : Assn} {t : TypeId} {k n cap : Nat} {f : Nat → List Value} (h : Sat w ((SO.vals (E := E) t k n cap f).den ν b * R)) : ∀ i, i < n → (f i).length = k := by
  simp only [SO.den] at h
  rw [Assn.mul_assoc] at h
  exact h.pure_mul.1
theorem vals_cell {w : World} {ν : Nat → Nat} {b : Nat} {R : Assn} {t : TypeId} {k n cap : Nat} {f : Nat → List Value} (h : Sat w ((SO.vals (E := E) t k n cap f).den ν b * R)) (i j : Nat) (hi : i < n) (v : Value) (hv : (f i)[j]? = some v) : w.cell? ⟨b, i * k + j, none⟩ = some v := by
  have hl := vals_len h
  simp only [SO.den] at h
  rw [Assn.mul_assoc] at h
  have hj : j < k := by
    rw [← hl i hi]
    rcases Nat.lt_or_ge j (f i).length with h' | h'
    · exact h'
    · rw [List.getElem?_eq_none h'] at hv; cases hv
  exact rowHead_cells h.pure_mul.2 _ _ ((valsOf_get k n f hl i j hi hj).trans hv)

theorem loadV_sound {h : SH E} {t : TypeId} {a : SV} {v : SV} (hg : (loadV P h t a).gives v) {ν : Nat → Nat} {w : World} {R : Assn} (H : Sat w (h.den ν * R)) :
    (Instr.loadAt t (a.den ν)).run P w = .ok (v.den ν) w := by
  unfold loadV at hg
  split at hg
  · rename_i n o
    simp only [SV.den, SC.den]
    split at hg
    · rename_i ob hob
      rw [SH.den_get ν hob, Assn.mul_assoc] at H
      split at hg
      · rename_i l hl
        split at hg
        · rename_i ha
          split at hg
          · rename_i x hx
            simp only [PV.gives] at hg
            subst hg
            exact run_loadAt_one ha w _ _ (SO.known_cell hl H o x hx)
          · exact hg.elim
        · rename_i ha
          split at hg
          · rename_i s hs
            cases hlen : ((l.drop o).take s).length == s <;> rw [hlen] at hg <;> simp only [cond_true, cond_false, PV.gives] at hg
            subst hg
            have hlen := eq_of_beq hlen
            refine run_loadAt_many ha w (ν n) o _ ?_ ?_
            · rw [hs, denL_map, List.length_map, hlen]
            · intro j u hu
              rw [denL_map, List.getElem?_map] at hu
              cases hx : ((l.drop o).take s)[j]? with
              | none => rw [hx] at hu; cases hu
              | some x =>
                rw [hx] at hu
                simp only [Option.map_some, Option.some.injEq] at hu
                subst hu
                refine SO.known_cell hl H (o + j) x ?_
                rw [List.getElem?_take] at hx
                split at hx
                · rw [List.getElem?_drop] at hx; exact hx
                · cases hx
          · exact hg.elim
        · exact hg.elim
      · split at hg
        · rename_i ha _
          simp only [PV.gives] at hg
          obtain ⟨hm, rfl⟩ := hg
          exact run_loadAt_one ha w _ _ (ints_cell H o hm)
        · rename_i ha _
          split at hg
          · exact hg.elim
          · rename_i k' _
            split at hg
            · rename_i u hu
              simp only [PV.gives] at hg
              obtain ⟨hm, rfl⟩ := hg
              simp only [SV.den, SC.den_ofR]
              have := vals_cell H _ _ hm u hu
              rw [Nat.mul_comm, Nat.div_add_mod] at this
              exact run_loadAt_one ha w _ _ this
            · exact hg.elim
        · rename_i tt k m cp f ha hkn
          split at hg
          · rename_i s hs
            cases hc : s == k && (o % k == 0) <;> rw [hc] at hg <;> simp only [cond_true, cond_false, PV.gives] at hg
            obtain ⟨hm, rfl⟩ := hg
            simp only [Bool.and_eq_true, beq_iff_eq] at hc
            obtain ⟨rfl, hc⟩ := hc
            simp only [SV.den]
            rw [denL_ofR]
            refine run_loadAt_many ha w (ν n) o _ ?_ ?_
            · rw [hs, vals_len H _ hm]
            · intro j u hu
              have := vals_cell H _ _ hm u hu
              have e : o / s * s = o := by have := Nat.div_add_mod o s; rw [hc, Nat.mul_comm] at this; omega
              rw [e] at this
              exact this
          · exact hg.elim
        · exact hg.elim
    · exact hg.elim
  · rename_i n i k f0
    simp only [SV.den, SC.den]
    split at hg
    · rename_i kd m _ f hob
      rw [SH.den_get ν hob, Assn.mul_assoc] at H
      split at hg
      · rename_i ha
        cases hc : k == 1 && f0 == 0 <;> rw [hc] at hg <;> simp only [cond_true, cond_false, PV.gives] at hg
        obtain ⟨hm, rfl⟩ := hg
        simp only [Bool.and_eq_true, beq_iff_eq] at hc
        obtain ⟨rfl, rfl⟩ := hc
        simp only [Nat.mul_one, Nat.add_zero]
        exact run_loadAt_one ha w _ _ (ints_cell H i hm)
      · exact hg.elim
    · rename_i k' m _ f hob
      rw [SH.den_get ν hob, Assn.mul_assoc] at H
      split at hg
      · rename_i ha
        split at hg
        · rename_i u hu
          cases hc : k == k' && Nat.blt f0 k <;> rw [hc] at hg <;> simp only [cond_true, cond_false, PV.gives] at hg
          obtain ⟨hm, rfl⟩ := hg
          simp only [Bool.and_eq_true, beq_iff_eq] at hc
          obtain ⟨rfl, _⟩ := hc
          simp only [SV.den, SC.den_ofR]
          exact run_loadAt_one ha w _ _ (vals_cell H _ _ hm u hu)
        · exact hg.elim
      · rename_i ha
        split at hg
        · rename_i s hs
          cases hc : s == k && k == k' && f0 == 0 <;> rw [hc] at hg <;> simp only [cond_true, cond_false, PV.gives] at hg
          obtain ⟨hm, rfl⟩ := hg
          simp only [Bool.and_eq_true, beq_iff_eq] at hc
          obtain ⟨⟨rfl, rfl⟩, rfl⟩ := hc
          simp only [SV.den]
          rw [denL_ofR]
          refine run_loadAt_many ha w (ν n) _ _ ?_ ?_
          · rw [hs, vals_len H _ hm]
          · intro j u hu
            have := vals_cell H _ _ hm u hu
            simpa using this
        · exact hg.elim
      · exact hg.elim
    · exact hg.elim
  · split at hg <;> try exact hg.elim
    rename_i W hW
    split at hg <;> try exact hg.elim
    rename_i ha
    split at hg <;> try exact hg.elim
    simp only [PV.gives] at hg
    obtain ⟨⟨x, rfl, hc⟩, rfl⟩ := hg
    simp only [SV.den, SC.den]
    exact run_loadAt_one ha w _ _ (seenOf_cell hc hW H)
  · exact hg.elim
end
end Go.Proofs.Ytgiakcepgbpchaa
namespace Go.Proofs.Ytgiakcepgbpchaa
open Go Go.RowKit

section
variable {E : EXT} {P : Program}

def fieldAddrV (P : Program) (s : TypeId) (x : SV) (i : Nat) : PV :=
  match P.underlying s with
  | some (.struct fs) => match fs[i]? with
    | some F => match sizeT P F.type with
      | some (_ + 1) => match x with
        | .c (.ptr n o) => .ok (.c (.ptr n (o + F.offset)))
        | .c (.elp n i k f) => .ok (.c (.elp n i k (f + F.offset)))
        | _ => .no 51
      | _ => .no 52
    | none => .no 53
  | _ => .no 54
theorem fieldAddrV_sound {s : TypeId} {x v : SV} {i : Nat} (hg : (fieldAddrV P s x i).gives v) (ν : Nat → Nat) (w : World) : (Instr.fieldAt s (x.den ν) i).run P w = .ok (v.den ν) w := by
  unfold fieldAddrV at hg
  split at hg <;> try exact hg.elim
  rename_i fs hu
  split at hg <;> try exact hg.elim
  rename_i F hF
  split at hg <;> try exact hg.elim
  rename_i m hs
  have h1 : ∀ b o, (fieldPlace ⟨b, o, none⟩ F).run P w = .ok ⟨b, o + F.offset, none⟩ w := by
    intro b o
    simp [fieldPlace, run_sizeOf_T hs, Addr.add_mid]
  split at hg <;> try exact hg.elim
  all_goals
    simp only [PV.gives] at hg
    subst hg
    simp [Instr.fieldAt, run_underlying hu, hF, SV.den, SC.den, Instr.sureAddr, h1, Nat.add_assoc]

def fieldV (P : Program) (s : TypeId) (x : SV) (i : Nat) : PV :=
  match P.underlying s with
  | some (.struct fs) => match fs[i]? with
    | some F => match x with
      | .agg l => match aggT P F.type with
        | some true => match sizeT P F.type with
          | some m => .ok (.agg ((l.drop F.offset).take m))
          | none => .no 61
        | some false => match l[F.offset]? with
          | some x => .ok (.c x)
          | none => .no 62
        | none => .no 63
      | _ => .no 64
    | none => .no 65
  | _ => .no 66
theorem denL_get (ν : Nat → Nat) (l : List SC) (i : Nat) : (SC.denL ν l)[i]? = (l[i]?).map (SC.den ν) := by rw [denL_map, List.getElem?_map]
theorem denL_take (ν : Nat → Nat) (l : List SC) (i m : Nat) : (SC.denL ν l).toArray.extract i (i + m) = (SC.denL ν ((l.drop i).take m)).toArray := by
  rw [denL_map, denL_map]
  simp [List.map_take, List.map_drop, List.extract_eq_take_drop]
theorem fieldV_sound {s : TypeId} {x v : SV} {i : Nat} (hg : (fieldV P s x i).gives v) (ν : Nat → Nat) (w : World) : (Instr.field s (x.den ν) i).run P w = .ok (v.den ν) w := by
  unfold fieldV at hg
  split at hg <;> try exact hg.elim
  rename_i fs hu
  split at hg <;> try exact hg.elim
  rename_i F hF
  split at hg <;> try exact hg.elim
  rename_i l
  split at hg <;> try exact hg.elim
  · rename_i ha
    split at hg <;> try exact hg.elim
    rename_i m hs
    simp only [PV.gives] at hg
    subst hg
    simp [Instr.field, run_underlying hu, hF, SV.den, asAgg, part, run_isAgg_T ha, run_sizeOf_T hs, ← denL_take]
  · rename_i ha
    split at hg <;> try exact hg.elim
    rename_i u hl
    simp only [PV.gives] at hg
    subst hg
    have : (SC.denL ν l)[F.offset]? = some (u.den ν) := by rw [denL_get, hl]; rfl
    simp [Instr.field, run_underlying hu, hF, SV.den, asAgg, part, run_isAgg_T ha, this]

/-- An offset, where it begins at nothing. -/
def addO (known : Bool) (o i : Nat) : Nat := match known, o with
  | true, 0 => i
  | _, o => o + i
theorem addO_eq (b : Bool) (o i : Nat) : addO b o i = o + i := by unfold addO; split <;> omega

def atNat (i : Int) (n : Nat) (K : Nat → PV) : PV := match i with
  | .ofNat m => K m
  | _ => .no n
theorem atNat_gives {i : Int} {n : Nat} {K : Nat → PV} {v : SV} (h : (atNat i n K).gives v) : ∃ m, i = .ofNat m ∧ (K m).gives v := by
  unfold atNat at h
  split at h
  · rename_i m; exact ⟨m, rfl, h⟩
  · exact h.elim
/-- Is it surely an index below n? -/
def idxOk {i : Int} (b : Bd i) (n : Nat) : Bool := match b with
  | .w lo hi _ => leI 0 lo && leI (hi + 1) (n : Int)
  | .any => false
theorem idxOk_sound {i : Int} {b : Bd i} {n : Nat} (h : idxOk b n = true) : 0 ≤ i ∧ i < n := by
  unfold idxOk at h
  split at h
  · simp only [Bool.and_eq_true] at h
    have h1 := leI_le h.1
    have h2 := leI_le h.2
    omega
  · cases h
def addOpt (a : Option Addr) (n : Nat) : Option Addr := a.map fun x => x.add n
def indexAddrV (P : Program) (t : TypeId) (x ix : SV) : PV :=
  match ix with
  | .c (.int li _ i bi) => match P.underlying t with
    | some (.slice e) => match x with
      | .c (.sli n ks lo o ll len _) => match sizeT P e with
        | some s => bif s == ks then
            (bif li && lo && ll then atNat i 71 (fun m => bif Nat.blt m len then .ok (.c (.ptr n ((o + m) * ks))) else .no 70)
            else bif ll && idxOk bi len then .ok (.c (.elp n (addO lo o i.toNat) ks 0)) else .need (0 ≤ i ∧ i < len) (.c (.elp n (addO lo o i.toNat) ks 0))) else .no 72
        | none => .no 73
      | .c (.sliv a _ len _) => match sizeT P e with
        | some s => bif s == 1 then .need (0 ≤ i ∧ i < len ∧ a.isSome = true) (.c (.ptv (addOpt a i.toNat))) else .no 72
        | none => .no 73
      | _ => .no 74
    | some (.array len e) => match sizeT P e with
      | some s => atNat i 78 fun m => bif li then (bif Nat.blt m len then (match x with
            | .c (.ptr n o) => .ok (.c (.ptr n (o + m * s)))
            | .c (.elp n j k f) => .ok (.c (.elp n j k (f + m * s)))
            | _ => .no 75) else .no 76) else .no 77
      | none => .no 79
    | _ => .no 80
  | _ => .no 81
theorem indexAddrV_sound {t : TypeId} {x ix v : SV} (hg : (indexAddrV P t x ix).gives v) (ν : Nat → Nat) (w : World) : (Instr.indexAt t (x.den ν) (ix.den ν)).run P w = .ok (v.den ν) w := by
  unfold indexAddrV at hg
  split at hg <;> try exact hg.elim
  rename_i li k i bi
  split at hg <;> try exact hg.elim
  · rename_i e hu
    split at hg <;> try exact hg.elim
    rotate_left
    · rename_i a _ len _
      split at hg <;> try exact hg.elim
      rename_i s hs
      cases hk : s == 1
      · rw [hk] at hg; exact hg.elim
      rw [hk] at hg
      simp only [cond_true, PV.gives] at hg
      have hk := eq_of_beq hk
      subst hk
      obtain ⟨⟨h0, h1, h2⟩, rfl⟩ := hg
      obtain ⟨x, rfl⟩ := Option.isSome_iff_exists.1 h2
      simp [Instr.indexAt, run_underlying hu, SV.den, SC.den, asIntOf, h0, h1, run_sizeOf_T hs, addOpt]
    rename_i n ks lo o ll len cap
    split at hg <;> try exact hg.elim
    rename_i s hs
    cases hk : s == ks
    · rw [hk] at hg; exact hg.elim
    rw [hk] at hg
    simp only [cond_true] at hg
    have hk := eq_of_beq hk
    subst hk
    cases hl : li && lo && ll <;> rw [hl] at hg
    · have hg : (0 ≤ i ∧ i < len) ∧ v = .c (.elp n (addO lo o i.toNat) s 0) := by
        cases hd : ll && idxOk bi len <;> rw [hd] at hg <;> simp only [cond_true, cond_false, PV.gives] at hg
        · exact hg
        · simp only [Bool.and_eq_true] at hd
          exact ⟨idxOk_sound hd.2, hg⟩
      obtain ⟨⟨h0, h1⟩, rfl⟩ := hg
      simp [Instr.indexAt, run_underlying hu, SV.den, SC.den, asIntOf, h0, h1, run_sizeOf_T hs, Addr.add_mid, addO_eq, Nat.add_mul]
    · simp only [cond_true] at hg
      obtain ⟨m, rfl, hg'⟩ := atNat_gives hg
      clear hg
      have hg := hg'
      · cases hm : Nat.blt m len
        · rw [hm] at hg; exact hg.elim
        rw [hm] at hg
        simp only [cond_true, PV.gives] at hg
        subst hg
        have hm : m < len := by simpa [Nat.blt_eq] using hm
        simp [Instr.indexAt, run_underlying hu, SV.den, SC.den, asIntOf, hm, run_sizeOf_T hs, Addr.add_mid, Nat.add_mul]
  · rename_i len e hu
    split at hg <;> try exact hg.elim
    rename_i s hs
    obtain ⟨m, rfl, hg'⟩ := atNat_gives hg
    clear hg
    have hg := hg'
    cases hl : li
    · rw [hl] at hg; exact hg.elim
    rw [hl] at hg
    simp only [cond_true] at hg
    cases hm : Nat.blt m len
    · rw [hm] at hg; exact hg.elim
    rw [hm] at hg
    simp only [cond_true] at hg
    have hm : m < len := by simpa [Nat.blt_eq] using hm
    split at hg <;> try exact hg.elim
    all_goals
      simp only [PV.gives] at hg
      subst hg
      simp [Instr.indexAt, run_underlying hu, SV.den, SC.den, asIntOf, Instr.sureAddr, hm, run_sizeOf_T hs, Addr.add_mid, Nat.add_assoc]

def nilCheckV (x : SV) : PV :=
  match x with
  | .c (.ptr n o) => .ok (.c (.ptr n o))
  | .c (.elp n i k f) => .ok (.c (.elp n i k f))
  | .c (.fn (.func f) a c) => .ok (.c (.fn (.func f) a c))
  | _ => .no 90
theorem nilCheckV_sound {x v : SV} (hg : (nilCheckV x).gives v) (ν : Nat → Nat) (w : World) (f : SF) (o : Oper) (y : Operand) (ho : o.op = .nilCheck y) (hy : f.opv y = x) :
    (execOp (actOf ν f).eval o).run P w = .ok (.value (v.den ν)) w := by
  have he : (actOf ν f).eval y = x.den ν := by rw [eval_opv, hy]
  unfold nilCheckV at hg
  split at hg <;> try exact hg.elim
  all_goals
    simp only [PV.gives] at hg
    subst hg
    simp [execOp, ho, he, SV.den, SC.den]

def convV (P : Program) (wr : Bool) (s d : TypeId) (x : SV) : PV :=
  match P.underlying s with
  | some _ => match P.underlying d with
    | some (.int k) => match x with
      | .c (.int l _ n b) => arithV wr k l n b
      | _ => .no 95
    | _ => .no 96
  | none => .no 97
theorem convV_sound {wr : Bool} {s d : TypeId} {x v : SV} (hg : (convV P wr s d x).gives v) (ν : Nat → Nat) (w : World) : (convert s d (x.den ν)).run P w = .ok (v.den ν) w := by
  unfold convV at hg
  split at hg <;> try exact hg.elim
  rename_i ds hs
  split at hg <;> try exact hg.elim
  rename_i k hd
  split at hg <;> try exact hg.elim
  rw [arithV_den hg]
  simp only [convert, Sem.run_bind, run_underlying hs, run_underlying hd, Result.andThen_ok, SV.den, SC.den, Conv.intToInt]
  simp

def unV (wr : Bool) (op : UnOp) (x : SV) : PV :=
  match op, x with
  | .not, .c (.boo l b) => bif l then .ok (litB (!b)) else .ok (.c (.boo false (!b)))
  | .neg, .c (.int l k n b) => arithV wr k l (0 - n) (Bd.sub (.w 0 0 ⟨Int.le_refl 0, Int.le_refl 0⟩) b)
  | _, _ => .no 100
theorem unV_sound {wr : Bool} {op : UnOp} {x v : SV} (hg : (unV wr op x).gives v) (ν : Nat → Nat) (w : World) : (Op.unary op (x.den ν)).run P w = .ok (v.den ν) w := by
  unfold unV at hg
  split at hg
  · rename_i l b
    cases l <;> simp only [cond_true, cond_false, PV.gives] at hg <;> subst hg
    · simp [Op.unary, SV.den, SC.den]
    · rw [litB_den]; simp [Op.unary, SV.den, SC.den]
  · rename_i l k n b
    rw [arithV_den hg]
    simp [Op.unary, SV.den, SC.den, Op.intArith]
  · exact hg.elim

def extractV (x : SV) (i : Nat) : PV :=
  match x with
  | .tup l => match l[i]? with
    | some (true, c) => .ok (.agg c)
    | some (false, [y]) => .ok (.c y)
    | _ => .no 105
  | _ => .no 106
theorem extractV_sound {x v : SV} {i : Nat} (hg : (extractV x i).gives v) (ν : Nat → Nat) (w : World) : (Instr.extract (x.den ν) i).run P w = .ok (v.den ν) w := by
  unfold extractV at hg
  split at hg <;> try exact hg.elim
  rename_i l
  split at hg <;> try exact hg.elim
  all_goals
    rename_i hl
    simp only [PV.gives] at hg
    subst hg
    simp [Instr.extract, SV.den, hl, partDen]

/-- Shifts. -/
theorem pow_bd {b lo hi : Int} (h : lo ≤ b ∧ b ≤ hi) (c : (leI 0 hi && leI hi 64) = true) : (1 : Int) ≤ ((2 ^ b.toNat : Nat) : Int) ∧ ((2 ^ b.toNat : Nat) : Int) ≤ ((2 ^ hi.toNat : Nat) : Int) := by
  simp only [Bool.and_eq_true] at c
  have := leI_le c.1
  have h1 : 2 ^ b.toNat ≤ 2 ^ hi.toNat := Nat.pow_le_pow_right (by omega) (by omega)
  have h2 : 1 ≤ 2 ^ b.toNat := Nat.one_le_two_pow
  omega
/-- Bounds of a power. -/
def Bd.pow {b : Int} (y : Bd b) : Bd ((2 ^ b.toNat : Nat) : Int) := match y with
  | .w _ hi h => onTrue (leI 0 hi && leI hi 64) (fun c => .w 1 ((2 ^ hi.toNat : Nat) : Int) (pow_bd h c)) .any
  | .any => .any
def Bd.upTo {b : Int} (y : Bd b) (n : Nat) : Bool := match y with
  | .w lo hi _ => leI 0 lo && leI hi (n : Int)
  | .any => false
theorem Bd.upTo_sound {b : Int} {y : Bd b} {n : Nat} (h : y.upTo n = true) : 0 ≤ b ∧ b ≤ n := by
  unfold Bd.upTo at h
  split at h
  · simp only [Bool.and_eq_true] at h
    have h1 := leI_le h.1
    have h2 := leI_le h.2
    omega
  · cases h
def Bd.lit (n : Int) : Bd n := .w n n ⟨Int.le_refl n, Int.le_refl n⟩
def shiftV (wr : Bool) (op : BinOp) (k : IntKind) (la : Bool) (a : Int) (lb : Bool) (b : Int) (x : Bd a) (y : Bd b) : PV :=
  match op with
  | .shl => bif lb then atNat b 110 (fun m => arithV wr k la (a * ((2 ^ (min m k.bits) : Nat) : Int)) (x.mul (.lit _)))
    else bif y.upTo k.bits && (x.mul y.pow).fit k then .ok (.c (.int false k (a * ((2 ^ b.toNat : Nat) : Int)) (x.mul y.pow))) else .need (0 ≤ b ∧ b ≤ k.bits ∧ inR k (a * ((2 ^ b.toNat : Nat) : Int))) (.c (.int false k (a * ((2 ^ b.toNat : Nat) : Int)) (x.mul y.pow)))
  | .shr => bif lb then atNat b 111 (fun m => bif la then .ok (litI k (a / ((2 ^ (min m k.bits) : Nat) : Int))) else .ok (.c (.int false k (a / ((2 ^ (min m k.bits) : Nat) : Int)) (x.div (.lit _)))))
    else bif y.upTo k.bits then .ok (.c (.int false k (a / ((2 ^ b.toNat : Nat) : Int)) (x.div y.pow))) else .need (0 ≤ b ∧ b ≤ k.bits) (.c (.int false k (a / ((2 ^ b.toNat : Nat) : Int)) (x.div y.pow)))
  | _ => .no 112
theorem run_shl (k k' : IntKind) (a b : Int) (t : TypeId) (w : World) (h : 0 ≤ b) : (binOp .shl t (.int k a) (.int k' b)).run P w = .ok (.int k (k.wrap (a * ((2 ^ (min b.toNat k.bits) : Nat) : Int)))) w := by
  have hneg : ¬ b < 0 := by omega
  have hp : ((2 ^ (min b.toNat k.bits) : Nat) : Int) = (2 : Int) ^ (min b.toNat k.bits) := by simp
  rw [hp]
  simp only [binOp, Op.shift, hneg, if_false]
  rfl
theorem run_shr (k k' : IntKind) (a b : Int) (t : TypeId) (w : World) (h : 0 ≤ b) : (binOp .shr t (.int k a) (.int k' b)).run P w = .ok (.int k (a / ((2 ^ (min b.toNat k.bits) : Nat) : Int))) w := by
  have hneg : ¬ b < 0 := by omega
  have hp : ((2 ^ (min b.toNat k.bits) : Nat) : Int) = (2 : Int) ^ (min b.toNat k.bits) := by simp
  have hd : a / ((2 ^ (min b.toNat k.bits) : Nat) : Int) = a.fdiv (2 ^ (min b.toNat k.bits)) := by
    rw [← hp, Int.fdiv_eq_ediv_of_nonneg]; exact Int.natCast_nonneg _
  rw [hd]
  simp only [binOp, Op.shift, hneg, if_false]
  rfl
theorem shiftV_sound {wr : Bool} {op : BinOp} {k k' : IntKind} {la lb : Bool} {a b : Int} {x : Bd a} {y : Bd b} {v : SV} (hg : (shiftV wr op k la a lb b x y).gives v) (ν : Nat → Nat) (t : TypeId) (w : World) :
    (binOp op t (.int k a) (.int k' b)).run P w = .ok (v.den ν) w := by
  unfold shiftV at hg
  split at hg
  · cases lb
    · have hg : (0 ≤ b ∧ b ≤ k.bits ∧ inR k (a * ((2 ^ b.toNat : Nat) : Int))) ∧ v = .c (.int false k (a * ((2 ^ b.toNat : Nat) : Int)) (x.mul y.pow)) := by
        cases hd : y.upTo k.bits && (x.mul y.pow).fit k <;> rw [hd] at hg <;> simp only [cond_true, cond_false, PV.gives] at hg
        · exact hg
        · simp only [Bool.and_eq_true] at hd
          exact ⟨⟨(Bd.upTo_sound hd.1).1, (Bd.upTo_sound hd.1).2, Bd.fit_inR hd.2⟩, hg⟩
      obtain ⟨⟨h0, h1, h2⟩, rfl⟩ := hg
      have e : min b.toNat k.bits = b.toNat := by omega
      rw [run_shl k k' a b t w h0, e, wrap_inR h2]
      rfl
    · simp only [cond_true] at hg
      obtain ⟨m, rfl, hg'⟩ := atNat_gives hg
      clear hg
      have hg := hg'
      rw [arithV_den hg, run_shl k k' a (.ofNat m) t w (Int.natCast_nonneg m)]
      rfl
  · cases lb
    · have hg : (0 ≤ b ∧ b ≤ k.bits) ∧ v = .c (.int false k (a / ((2 ^ b.toNat : Nat) : Int)) (x.div y.pow)) := by
        cases hd : y.upTo k.bits <;> rw [hd] at hg <;> simp only [cond_true, cond_false, PV.gives] at hg
        · exact hg
        · exact ⟨Bd.upTo_sound hd, hg⟩
      obtain ⟨⟨h0, h1⟩, rfl⟩ := hg
      have e : min b.toNat k.bits = b.toNat := by omega
      rw [run_shr k k' a b t w h0, e]
      rfl
    · simp only [cond_true] at hg
      obtain ⟨m, rfl, hg'⟩ := atNat_gives hg
      clear hg
      have hg := hg'
      rw [run_shr k k' a (.ofNat m) t w (Int.natCast_nonneg m)]
      cases la <;> simp only [cond_true, cond_false, PV.gives] at hg <;> subst hg
      · rfl
      · rw [litI_den]; rfl
  · exact hg.elim
end
end Go.Proofs.Ytgiakcepgbpchaa
