/- An executor of the program's code over symbolic values, which leaves what is to be shown as one plain proposition. This text: the values, the memory, what they mean. No program in sight. -/
import Derived.Test.YtohijcgbfcahhaaRowK
import Derived.Orders
import Derived.Deep.Quiet
import Derived.KernelRfl
namespace Go.Proofs.Ytohijcgbfcahhaa
open Go Go.RowKit

/-- Bounds of a number, as far as they are known. -/
inductive Bd (n : Int) where
  | any
  | w (lo hi : Int) (h : lo ≤ n ∧ n ≤ hi)

/-- A cell's value. The first mark of a number says that it is known (a hint for the executor alone). -/
inductive SC where
  | int (l : Bool) (k : IntKind) (n : Int) (bd : Bd n := .any)
  | boo (l : Bool) (b : Bool)
  | ptr (n o : Nat)
  | elp (n i k f : Nat)
  | sli (n k : Nat) (lo : Bool) (o : Nat) (ll : Bool) (len cap : Nat)
  | nls
  | map (n : Nat)
  | fn (f : Fn) (a c : List SC)
  | ifc (t : TypeId) (x : SC)
  | sliv (a : Option Addr) (ll : Bool) (len cap : Nat)
  | ptv (a : Option Addr)
  | raw (v : Value)

mutual
def SC.den (ν : Nat → Nat) : SC → Value
  | .int _ k n _ => .int k n
  | .boo _ b => .bool b
  | .ptr n o => .pointer (some ⟨ν n, o, none⟩)
  | .elp n i k f => .pointer (some ⟨ν n, i * k + f, none⟩)
  | .sli n k _ o _ len cap => .slice (some ⟨ν n, o * k, none⟩) len cap
  | .nls => .slice none 0 0
  | .map n => .map (some (ν n))
  | .fn f a c => .func f (SC.denL ν a).toArray (SC.denL ν c).toArray
  | .ifc t x => .iface t (x.den ν)
  | .sliv a _ len cap => .slice a len cap
  | .ptv a => .pointer a
  | .raw v => v
termination_by structural x => x
def SC.denL (ν : Nat → Nat) : List SC → List Value
  | [] => []
  | x :: l => x.den ν :: SC.denL ν l
termination_by structural l => l
end
mutual
def SC.names : SC → List Nat
  | .ptr n _ => [n]
  | .elp n _ _ _ => [n]
  | .sli n _ _ _ _ _ _ => [n]
  | .map n => [n]
  | .fn _ a c => SC.namesL a ++ SC.namesL c
  | .ifc _ x => x.names
  | _ => []
termination_by structural x => x
def SC.namesL : List SC → List Nat
  | [] => []
  | x :: l => x.names ++ SC.namesL l
termination_by structural l => l
end
theorem denL_map (ν : Nat → Nat) (l : List SC) : SC.denL ν l = l.map (SC.den ν) := by
  induction l with
  | nil => simp [SC.denL]
  | cons x l ih => simp [SC.denL, ih]
mutual
theorem SC.den_eq {ν μ : Nat → Nat} : ∀ (x : SC), (∀ n ∈ x.names, ν n = μ n) → x.den ν = x.den μ
  | .int _ _ _ _, _ => by simp [SC.den]
  | .boo _ _, _ => by simp [SC.den]
  | .ptr n _, h => by simp [SC.den, h n (by simp [SC.names])]
  | .elp n _ _ _, h => by simp [SC.den, h n (by simp [SC.names])]
  | .sli n _ _ _ _ _ _, h => by simp [SC.den, h n (by simp [SC.names])]
  | .nls, _ => by simp [SC.den]
  | .map n, h => by simp [SC.den, h n (by simp [SC.names])]
  | .fn f a c, h => by
    simp only [SC.names, List.mem_append] at h
    simp only [SC.den]
    rw [SC.denL_eq a fun n hn => h n (.inl hn), SC.denL_eq c fun n hn => h n (.inr hn)]
  | .ifc t x, h => by
    simp only [SC.names] at h
    simp only [SC.den]
    rw [SC.den_eq x h]
  | .sliv _ _ _ _, _ => by simp [SC.den]
  | .ptv _, _ => by simp [SC.den]
  | .raw _, _ => by simp [SC.den]
theorem SC.denL_eq {ν μ : Nat → Nat} : ∀ (l : List SC), (∀ n ∈ SC.namesL l, ν n = μ n) → SC.denL ν l = SC.denL μ l
  | [], _ => by simp [SC.denL]
  | x :: l, h => by
    simp only [SC.namesL, List.mem_append] at h
    simp only [SC.denL]
    rw [SC.den_eq x fun n hn => h n (.inl hn), SC.denL_eq l fun n hn => h n (.inr hn)]
end

/-- A temporary's value: one cell, some cells, or the parts of a call's result (of each: is it an aggregate?, its cells). -/
inductive SV where
  | c (x : SC)
  | agg (l : List SC)
  | tup (l : List (Bool × List SC))
def partDen (ν : Nat → Nat) (p : Bool × List SC) : Value :=
  match p with
  | (true, l) => .agg (SC.denL ν l).toArray
  | (false, [x]) => x.den ν
  | _ => undef
def SV.den (ν : Nat → Nat) : SV → Value
  | .c x => x.den ν
  | .agg l => .agg (SC.denL ν l).toArray
  | .tup l => .tuple (l.map (partDen ν)).toArray
def SV.names : SV → List Nat
  | .c x => x.names
  | .agg l => SC.namesL l
  | .tup l => l.flatMap fun p => SC.namesL p.2
def SV.und : SV := .tup []
theorem SV.den_und (ν : Nat → Nat) : SV.und.den ν = undef := rfl
theorem partDen_eq {ν μ : Nat → Nat} (p : Bool × List SC) (h : ∀ n ∈ SC.namesL p.2, ν n = μ n) : partDen ν p = partDen μ p := by
  obtain ⟨b, l⟩ := p
  cases b with
  | true => simp only [partDen]; rw [SC.denL_eq l h]
  | false =>
    match l, h with
    | [], _ => rfl
    | [x], h => simp only [partDen]; exact SC.den_eq x fun n hn => h n (by simp [SC.namesL, hn])
    | _ :: _ :: _, _ => rfl
theorem SV.den_eq {ν μ : Nat → Nat} (x : SV) (h : ∀ n ∈ x.names, ν n = μ n) : x.den ν = x.den μ := by
  cases x with
  | c x => exact SC.den_eq x h
  | agg l => simp only [SV.den]; rw [SC.denL_eq l h]
  | tup l =>
    simp only [SV.den]
    congr 2
    apply List.map_congr_left
    intro p hp
    exact partDen_eq p fun n hn => h n (by simp only [SV.names, List.mem_flatMap]; exact ⟨p, hp, hn⟩)

/-- What else may stand for a block: abstract predicates. -/
structure EXT where
  X : Type
  den : (Nat → Nat) → Nat → X → Assn
  names : X → List Nat
  ren : (Nat → Nat) → X → X
  law : ∀ (ν μ : Nat → Nat) (b : Nat) (x : X), (∀ n ∈ names x, ν n = μ n) → den ν b x = den μ b x
  rlaw : ∀ (τ ν : Nat → Nat) (b : Nat) (x : X), den ν b (ren τ x) = den (ν ∘ τ) b x

/-- What a block holds: cells known one by one; a row of n integers (room for cap), given by a function; a row of n elements of k cells each; a map; an abstract predicate. -/
inductive SO (E : EXT) where
  | cells (l : List SC) (t : TypeId)
  | ints (t : TypeId) (k : IntKind) (n cap : Nat) (f : Nat → Int)
  | vals (t : TypeId) (k n cap : Nat) (f : Nat → List Value)
  | row (t : TypeId) (k n cap : Nat) (l : List SC)
  | mp (l : List (Int × Value))
  | ext (x : E.X)

/-- A row of cells at the head of a block, whatever lies behind them. -/
def rowHead (b : Nat) (t : TypeId) (k n cap : Nat) (xs : List Value) : Assn :=
  Assn.ex fun cur : Array Value => Assn.pure (xs.length = n * k ∧ n ≤ cap ∧ cap ≤ maxLen ∧ cur.size = cap * k ∧ cur.toList.take (n * k) = xs) * own b (.cells cur t (0, 0))
def intsOf (k : IntKind) (n : Nat) (f : Nat → Int) : List Value := (List.range n).map fun i => .int k (f i)
def valsOf (n : Nat) (f : Nat → List Value) : List Value := (List.range n).flatMap f
def SO.den {E : EXT} (ν : Nat → Nat) (b : Nat) : SO E → Assn
  | .cells l t => own b (.cells (SC.denL ν l).toArray t (0, 0))
  | .ints t k n cap f => rowHead b t 1 n cap (intsOf k n f)
  | .vals t k n cap f => Assn.pure (∀ i, i < n → (f i).length = k) * rowHead b t k n cap (valsOf n f)
  | .row t k n cap l => rowHead b t k n cap (SC.denL ν l)
  | .mp l => mapAt b l
  | .ext x => E.den ν b x
def SO.names {E : EXT} : SO E → List Nat
  | .cells l _ => SC.namesL l
  | .row _ _ _ _ l => SC.namesL l
  | .ext x => E.names x
  | _ => []
theorem SO.den_eq {E : EXT} {ν μ : Nat → Nat} {b : Nat} (x : SO E) (h : ∀ n ∈ x.names, ν n = μ n) : x.den ν b = x.den μ b := by
  cases x with
  | cells l t => simp only [SO.den]; rw [SC.denL_eq l h]
  | ints => rfl
  | vals => rfl
  | row t k n cap l => simp only [SO.den]; rw [SC.denL_eq l h]
  | mp => rfl
  | ext x => exact E.law ν μ b x h

/-- The memory that is known: names of blocks, and what they hold. -/
abbrev SH (E : EXT) : Type := List (Nat × SO E)
def SH.get {E : EXT} : SH E → Nat → Option (SO E)
  | [], _ => none
  | (m, o) :: h, n => if m = n then some o else SH.get h n
def SH.set {E : EXT} : SH E → Nat → SO E → SH E
  | [], _, _ => []
  | (m, o) :: h, n, p => if m = n then (m, p) :: h else (m, o) :: SH.set h n p
def SH.del {E : EXT} : SH E → Nat → SH E
  | [], _ => []
  | (m, o) :: h, n => if m = n then h else (m, o) :: SH.del h n
/-- A new one, at its place by its number. -/
def SH.put {E : EXT} : SH E → Nat → SO E → SH E
  | [], n, p => [(n, p)]
  | (m, o) :: h, n, p => if n < m then (n, p) :: (m, o) :: h else (m, o) :: SH.put h n p
def SH.den {E : EXT} (ν : Nat → Nat) : SH E → Assn
  | [] => 1
  | (m, o) :: h => o.den ν (ν m) * SH.den ν h
def SH.names {E : EXT} : SH E → List Nat
  | [] => []
  | (m, o) :: h => m :: (o.names ++ SH.names h)
theorem SH.den_eq {E : EXT} {ν μ : Nat → Nat} : ∀ (h : SH E), (∀ n ∈ h.names, ν n = μ n) → h.den ν = h.den μ
  | [], _ => rfl
  | (m, o) :: h, e => by
    simp only [SH.names, List.mem_cons, List.mem_append] at e
    simp only [SH.den]
    rw [e m (.inl rfl), SO.den_eq o fun n hn => e n (.inr (.inl hn)), SH.den_eq h fun n hn => e n (.inr (.inr hn))]
theorem SH.den_get {E : EXT} (ν : Nat → Nat) {n : Nat} {o : SO E} : ∀ {h : SH E}, h.get n = some o → h.den ν = o.den ν (ν n) * (h.del n).den ν
  | [], e => by simp [SH.get] at e
  | (m, p) :: h, e => by
    simp only [SH.get] at e
    split at e
    · rename_i hm
      cases e
      simp [SH.den, SH.del, hm]
    · rename_i hm
      simp only [SH.den, SH.del, if_neg hm]
      rw [SH.den_get ν e, Assn.mul_left_comm]
theorem SH.den_set {E : EXT} (ν : Nat → Nat) {n : Nat} {o p : SO E} : ∀ {h : SH E}, h.get n = some o → (h.set n p).den ν = p.den ν (ν n) * (h.del n).den ν
  | [], e => by simp [SH.get] at e
  | (m, q) :: h, e => by
    simp only [SH.get] at e
    split at e
    · rename_i hm
      simp [SH.den, SH.del, SH.set, hm]
    · rename_i hm
      simp only [SH.den, SH.del, SH.set, if_neg hm]
      rw [SH.den_set ν e, Assn.mul_left_comm]
theorem SH.den_put {E : EXT} (ν : Nat → Nat) (n : Nat) (p : SO E) : ∀ (h : SH E), (h.put n p).den ν = p.den ν (ν n) * h.den ν
  | [] => rfl
  | (m, q) :: h => by
    simp only [SH.put]
    split
    · rfl
    · simp only [SH.den]
      rw [SH.den_put ν n p h, Assn.mul_left_comm]

def upd (ν : Nat → Nat) (n b : Nat) : Nat → Nat := fun m => if m = n then b else ν m
theorem upd_same (ν : Nat → Nat) (n b : Nat) : upd ν n b n = b := by simp [upd]
theorem upd_other {ν : Nat → Nat} {n b m : Nat} (h : m ≠ n) : upd ν n b m = ν m := by simp [upd, h]
/-- The two agree on all names below n. -/
def Agree (n : Nat) (ν μ : Nat → Nat) : Prop := ∀ m, m < n → μ m = ν m
theorem Agree.refl (n : Nat) (ν : Nat → Nat) : Agree n ν ν := fun _ _ => rfl
theorem Agree.trans {n m : Nat} {a b c : Nat → Nat} (h : Agree n a b) (k : Agree m b c) (hn : n ≤ m) : Agree n a c := fun i hi => (k i (Nat.lt_of_lt_of_le hi hn)).trans (h i hi)
theorem Agree.upd {n m : Nat} {ν : Nat → Nat} (h : n ≤ m) (b : Nat) : Agree n ν (upd ν m b) := fun _ hi => upd_other (Nat.ne_of_lt (Nat.lt_of_lt_of_le hi h))

/-- A frame's temporaries: a tree (the first one at its root, the odd ones to the left). -/
inductive ST where
  | nil
  | node (v : SV) (l r : ST)
def ST.get : ST → Nat → SV
  | .nil, _ => SV.und
  | .node v _ _, 0 => v
  | .node _ l r, n + 1 => bif Nat.beq (n % 2) 0 then l.get (n / 2) else r.get (n / 2)
def ST.one (v : SV) : Nat → Nat → ST
  | 0, _ => .node v .nil .nil
  | _ + 1, 0 => .node v .nil .nil
  | k + 1, n + 1 => bif Nat.beq (n % 2) 0 then .node SV.und (ST.one v k (n / 2)) .nil else .node SV.und .nil (ST.one v k (n / 2))
def ST.put (v : SV) : ST → Nat → ST
  | .nil, n => ST.one v n n
  | .node _ l r, 0 => .node v l r
  | .node u l r, n + 1 => bif Nat.beq (n % 2) 0 then .node u (l.put v (n / 2)) r else .node u l (r.put v (n / 2))
def ST.build (g : Nat → SV) (n : Nat) : Nat → Nat → Nat → ST
  | 0, _, _ => .nil
  | d + 1, a, b => bif Nat.ble n a then .nil else .node (g a) (ST.build g n d (a + b) (2 * b)) (ST.build g n d (a + 2 * b) (2 * b))
theorem par (n : Nat) : (Nat.beq (n % 2) 0 = true ∧ n = 2 * (n / 2)) ∨ (Nat.beq (n % 2) 0 = false ∧ n = 2 * (n / 2) + 1) := by
  rcases Nat.mod_two_eq_zero_or_one n with h | h <;> rw [h]
  · exact .inl ⟨rfl, by omega⟩
  · exact .inr ⟨rfl, by omega⟩
theorem ST.get_one (v : SV) : ∀ (k n m : Nat), n ≤ k → (ST.one v k n).get m = if m = n then v else SV.und
  | 0, n, m, h => by
    obtain rfl : n = 0 := by omega
    cases m <;> simp [ST.one, ST.get]
  | k + 1, 0, m, h => by cases m <;> simp [ST.one, ST.get]
  | k + 1, n + 1, m, h => by
    cases m with
    | zero => rcases par n with ⟨e, _⟩ | ⟨e, _⟩ <;> simp [ST.one, e, ST.get]
    | succ m =>
      rcases par n with ⟨e, hn⟩ | ⟨e, hn⟩ <;> rcases par m with ⟨e', hm⟩ | ⟨e', hm⟩ <;> simp only [ST.one, e, ST.get, e', cond_true, cond_false]
      · rw [ST.get_one v k (n / 2) (m / 2) (by omega)]
        by_cases h : m = n
        · subst h; simp
        · rw [if_neg (by omega), if_neg (by omega)]
      · rw [if_neg (by omega)]
      · rw [if_neg (by omega)]
      · rw [ST.get_one v k (n / 2) (m / 2) (by omega)]
        by_cases h : m = n
        · subst h; simp
        · rw [if_neg (by omega), if_neg (by omega)]
theorem ST.get_put (v : SV) : ∀ (t : ST) (n m : Nat), (t.put v n).get m = if m = n then v else t.get m
  | .nil, n, m => by simp only [ST.put, ST.get]; exact ST.get_one v n n m (Nat.le_refl _)
  | .node u l r, 0, m => by cases m <;> simp [ST.put, ST.get]
  | .node u l r, n + 1, m => by
    cases m with
    | zero => rcases par n with ⟨e, _⟩ | ⟨e, _⟩ <;> simp [ST.put, e, ST.get]
    | succ m =>
      rcases par n with ⟨e, hn⟩ | ⟨e, hn⟩ <;> rcases par m with ⟨e', hm⟩ | ⟨e', hm⟩ <;> simp only [ST.put, e, ST.get, e', cond_true, cond_false]
      · rw [ST.get_put v l (n / 2) (m / 2)]
        by_cases h : m = n
        · subst h; simp
        · rw [if_neg (by omega), if_neg (by omega)]
      · rw [if_neg (by omega)]
      · rw [if_neg (by omega)]
      · rw [ST.get_put v r (n / 2) (m / 2)]
        by_cases h : m = n
        · subst h; simp
        · rw [if_neg (by omega), if_neg (by omega)]
theorem ST.get_build (g : Nat → SV) (n : Nat) : ∀ (d a b i : Nat), a + b * i < n → i + 1 < 2 ^ d → (ST.build g n d a b).get i = g (a + b * i)
  | 0, a, b, i, _, h => by simp at h
  | d + 1, a, b, i, h1, h2 => by
    have ha : Nat.ble n a = false := by
      cases h : Nat.ble n a
      · rfl
      · rw [Nat.ble_eq] at h
        have := Nat.le_add_right a (b * i)
        omega
    rw [Nat.pow_succ] at h2
    cases i with
    | zero => simp [ST.build, ha, ST.get]
    | succ i =>
      rcases par i with ⟨e, hi⟩ | ⟨e, hi⟩ <;> simp only [ST.build, ha, ST.get, e, cond_true, cond_false]
      · have hx : a + b + 2 * b * (i / 2) = a + b * (i + 1) := by
          have : 2 * b * (i / 2) = b * i := by rw [Nat.mul_assoc, Nat.mul_left_comm, ← hi]
          rw [this, Nat.mul_succ]; omega
        rw [ST.get_build g n d (a + b) (2 * b) (i / 2) (by rw [hx]; exact h1) (by omega), hx]
      · have hx : a + 2 * b + 2 * b * (i / 2) = a + b * (i + 1) := by
          have : b * i = 2 * b * (i / 2) + b := by
            conv => lhs; rw [hi]
            rw [Nat.mul_succ, Nat.mul_left_comm, Nat.mul_assoc]
          rw [Nat.mul_succ, this]; omega
        rw [ST.get_build g n d (a + 2 * b) (2 * b) (i / 2) (by rw [hx]; exact h1) (by omega), hx]
def ST.names : ST → List Nat
  | .nil => []
  | .node v l r => v.names ++ (l.names ++ r.names)
theorem ST.names_get : ∀ (t : ST) (i : Nat), ∀ x ∈ (t.get i).names, x ∈ t.names
  | .nil, _, x, h => by simp [ST.get, SV.und, SV.names] at h
  | .node v l r, 0, x, h => by
    simp only [ST.get] at h
    simp only [ST.names, List.mem_append]
    exact .inl h
  | .node v l r, n + 1, x, h => by
    simp only [ST.get] at h
    simp only [ST.names, List.mem_append]
    cases e : Nat.beq (n % 2) 0 <;> rw [e] at h
    · exact .inr (.inr (ST.names_get r _ x h))
    · exact .inr (.inl (ST.names_get l _ x h))
structure SF where
  n : Nat
  t : ST
def SF.names (f : SF) : List Nat := f.t.names
def SF.toL (f : SF) : List SV := (List.range f.n).map f.t.get
def SF.tab (n : Nat) (g : Nat → SV) : SF := ⟨n, ST.build g n (Nat.log2 n + 1) 0 1⟩
theorem SF.tab_get {n : Nat} {g : Nat → SV} {i : Nat} (h : i < n) : (SF.tab n g).t.get i = g i := by
  have h2 : n < 2 ^ (Nat.log2 n + 1) := Nat.lt_log2_self
  have := ST.get_build g n (Nat.log2 n + 1) 0 1 i (by omega) (by omega)
  rw [Nat.one_mul, Nat.zero_add] at this
  exact this
def actOf (ν : Nat → Nat) (f : SF) : Act := ⟨(f.toL.map (SV.den ν)).toArray, []⟩
theorem actOf_of {ν μ : Nat → Nat} {f g : SF} (hn : f.n = g.n) (h : ∀ i, i < f.n → (f.t.get i).den ν = (g.t.get i).den μ) : actOf ν f = actOf μ g := by
  unfold actOf SF.toL
  rw [← hn]
  congr 2
  rw [List.map_map, List.map_map]
  apply List.map_congr_left
  intro i hi
  exact h i (List.mem_range.1 hi)
theorem actOf_eq {ν μ : Nat → Nat} (f : SF) (h : ∀ n ∈ f.names, ν n = μ n) : actOf ν f = actOf μ f :=
  actOf_of rfl fun i _ => SV.den_eq _ fun x hx => h x (ST.names_get _ _ x hx)
def SF.at (f : SF) (t : Nat) : SV := bif Nat.blt t f.n then f.t.get t else SV.und
def SF.set (f : SF) (d : Option Nat) (v : SV) : SF := match d with | some d => ⟨f.n, f.t.put v d⟩ | none => f
theorem actOf_tmp (ν : Nat → Nat) (f : SF) (i : Nat) : (actOf ν f).tmps[i]? = if i < f.n then some ((f.t.get i).den ν) else none := by
  unfold actOf SF.toL
  by_cases h : i < f.n
  · simp [h]
  · rw [if_neg h]; simp; omega
theorem SF.at_lt {f : SF} {i : Nat} (h : i < f.n) : f.at i = f.t.get i := by
  unfold SF.at
  have : Nat.blt i f.n = true := by simpa [Nat.blt_eq] using h
  rw [this]; rfl
theorem SF.at_ge {f : SF} {i : Nat} (h : ¬ i < f.n) : f.at i = SV.und := by
  unfold SF.at
  have : Nat.blt i f.n = false := by
    cases e : Nat.blt i f.n
    · rfl
    · rw [Nat.blt_eq] at e; exact absurd e h
  rw [this]; rfl
theorem actOf_put (ν : Nat → Nat) (f : SF) (d : Option Nat) (v : SV) : (actOf ν f).put d (v.den ν) = actOf ν (f.set d v) := by
  cases d with
  | none => rfl
  | some d =>
    simp only [Act.put]
    have : ((actOf ν f).tmps.setIfInBounds d (v.den ν)) = (actOf ν (f.set (some d) v)).tmps := by
      apply Array.ext_getElem?
      intro i
      rw [actOf_tmp, Array.getElem?_setIfInBounds, actOf_tmp]
      simp only [SF.set]
      rw [ST.get_put]
      have hs : (actOf ν f).tmps.size = f.n := by simp [actOf, SF.toL]
      rw [hs]
      by_cases h : d = i
      · subst h; simp
      · rw [if_neg h, if_neg (Ne.symm h)]; rfl
    rw [this]
    rfl

/-- A plain value that the program's text names. -/
def SC.ofV : Value → SC
  | .int k n => .int true k n
  | .bool b => .boo true b
  | .slice none 0 0 => .nls
  | v => .raw v
/-- A value out of a row that is told of as plain values. -/
def SC.ofR : Value → SC
  | .int k n => .int false k n
  | .bool b => .boo false b
  | .slice a n c => .sliv a false n c
  | .pointer a => .ptv a
  | v => .raw v
theorem SC.den_ofV (ν : Nat → Nat) (v : Value) : (SC.ofV v).den ν = v := by
  unfold SC.ofV; split <;> simp [SC.den]
theorem SC.den_ofR (ν : Nat → Nat) (v : Value) : (SC.ofR v).den ν = v := by
  unfold SC.ofR; split <;> simp [SC.den]
def SV.ofV : Value → SV
  | .agg a => .agg (a.toList.map SC.ofV)
  | v => .c (SC.ofV v)
theorem denL_ofV (ν : Nat → Nat) (l : List Value) : SC.denL ν (l.map SC.ofV) = l := by
  rw [denL_map, List.map_map]
  have : (SC.den ν ∘ SC.ofV) = id := funext fun v => SC.den_ofV ν v
  rw [this, List.map_id]
theorem denL_ofR (ν : Nat → Nat) (l : List Value) : SC.denL ν (l.map SC.ofR) = l := by
  rw [denL_map, List.map_map]
  have : (SC.den ν ∘ SC.ofR) = id := funext fun v => SC.den_ofR ν v
  rw [this, List.map_id]
theorem SV.den_ofV (ν : Nat → Nat) (v : Value) : (SV.ofV v).den ν = v := by
  unfold SV.ofV
  split
  · simp only [SV.den]; rw [denL_ofV]
  · exact SC.den_ofV ν v
def SF.opv (f : SF) : Operand → SV
  | .tmp t => f.at t
  | .const v => SV.ofV v
  | .global g => .c (.raw (.pointer (some ⟨g, 0, none⟩)))
  | .func n => .c (.fn (.func n) [] [])
theorem eval_opv (ν : Nat → Nat) (f : SF) (x : Operand) : (actOf ν f).eval x = (f.opv x).den ν := by
  cases x with
  | tmp t =>
    simp only [Act.eval, SF.opv]
    rw [Array.getD_eq_getD_getElem?, actOf_tmp]
    by_cases h : t < f.n
    · rw [if_pos h, SF.at_lt h]; rfl
    · rw [if_neg h, SF.at_ge h, SV.den_und]; rfl
  | const v => simp only [Act.eval, SF.opv]; rw [SV.den_ofV]
  | global g => rfl
  | func n => rfl
end Go.Proofs.Ytohijcgbfcahhaa
