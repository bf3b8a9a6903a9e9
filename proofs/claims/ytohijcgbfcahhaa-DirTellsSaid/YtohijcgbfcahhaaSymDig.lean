/- The executor: what is to be known of a region's operations for their order, as sets of bits, reckoned once. -/
import Derived.Test.YtohijcgbfcahhaaAnyL
import Derived.Test.YtohijcgbfcahhaaSymSame
namespace Go.Proofs.Ytohijcgbfcahhaa
open Go Go.RowKit

def isLoad (o : Oper) : Bool := match o.op with | .load _ _ => true | _ => false
def waitsB (o : Oper) (i : Nat) : Bool := o.after.any fun e => Region.binds .any e && e.on == i
/-- Is there a load for which number j does not wait? -/
def loose (ops : Array Oper) (j : Nat) : Bool :=
  match ops[j]? with
  | some oj => (List.range ops.size).any fun i => match ops[i]? with
    | some oi => isLoad oi && !(i == j) && !(waitsB oj i)
    | none => false
  | none => true

def hasB (m k : Nat) : Bool := Nat.beq (Nat.land (Nat.shiftRight m k) 1) 1
theorem hasB_test (m k : Nat) : hasB m k = Nat.testBit m k := by
  have e : Nat.land (Nat.shiftRight m k) 1 = (m >>> k) &&& 1 := rfl
  unfold hasB
  rw [e, Nat.and_comm]
  unfold Nat.testBit
  rw [Nat.one_and_eq_mod_two]
  rcases Nat.mod_two_eq_zero_or_one (m >>> k) with h | h <;> rw [h] <;> rfl
def orB (k m : Nat) : Nat := Nat.lor (Nat.shiftLeft 1 k) m
theorem hasB_zero (k : Nat) : hasB 0 k = false := by simp [hasB_test]
theorem hasB_orB (k m j : Nat) : hasB (orB k m) j = (decide (k = j) || hasB m j) := by
  simp only [hasB_test]
  unfold orB
  have : Nat.lor (Nat.shiftLeft 1 k) m = (1 <<< k) ||| m := rfl
  rw [this, Nat.testBit_or, Nat.one_shiftLeft, Nat.testBit_two_pow]
def covers (L d : Nat) : Bool := Nat.beq (Nat.land d L) d
theorem covers_has {L d : Nat} : covers L d = true ↔ ∀ k, hasB d k = true → hasB L k = true := by
  simp only [hasB_test]
  unfold covers
  have e : Nat.land d L = d &&& L := rfl
  rw [Nat.beq_eq, e]
  constructor
  · intro h k hk
    rw [← h, Nat.testBit_and] at hk
    simp only [Bool.and_eq_true] at hk
    exact hk.2
  · intro h
    refine Nat.eq_of_testBit_eq fun k => ?_
    rw [Nat.testBit_and]
    cases hd : d.testBit k
    · rfl
    · rw [h k hd]; rfl
def maskOf : List Nat → Nat
  | [] => 0
  | d :: l => orB d (maskOf l)
theorem hasB_maskOf {k : Nat} : ∀ {l : List Nat}, hasB (maskOf l) k = true ↔ k ∈ l
  | [] => by simp [maskOf, hasB_zero]
  | d :: l => by
    simp only [maskOf, hasB_orB, Bool.or_eq_true, decide_eq_true_eq, List.mem_cons, hasB_maskOf]
    constructor <;> rintro (h | h)
    · exact .inl h.symm
    · exact .inr h
    · exact .inl h.symm
    · exact .inr h
def edgeM : List Edge → Nat
  | [] => 0
  | e :: l => bif Region.binds .any e then orB e.on (edgeM l) else edgeM l
theorem hasB_edgeM {k : Nat} : ∀ {l : List Edge}, hasB (edgeM l) k = true ↔ ∃ e ∈ l, Region.binds .any e = true ∧ e.on = k
  | [] => by simp [edgeM, hasB_zero]
  | e :: l => by
    simp only [edgeM]
    cases hb : Region.binds .any e
    · simp only [cond_false, hasB_edgeM, List.mem_cons]
      constructor
      · rintro ⟨x, hx, h⟩; exact ⟨x, .inr hx, h⟩
      · rintro ⟨x, rfl | hx, h⟩
        · rw [hb] at h; cases h.1
        · exact ⟨x, hx, h⟩
    · simp only [cond_true, hasB_orB, Bool.or_eq_true, decide_eq_true_eq, hasB_edgeM, List.mem_cons]
      constructor
      · rintro (h | ⟨x, hx, h⟩)
        · exact ⟨e, .inl rfl, hb, h⟩
        · exact ⟨x, .inr hx, h⟩
      · rintro ⟨x, rfl | hx, h⟩
        · exact .inl h.2
        · exact .inr ⟨x, hx, h⟩
/-- An operation: what it waits for, looks at, writes; is it a load? -/
inductive Rw where
  | mk (dep look dst : Nat) (load : Bool)
def Rw.dep : Rw → Nat | .mk d _ _ _ => d
def Rw.look : Rw → Nat | .mk _ l _ _ => l
def Rw.dst : Rw → Nat | .mk _ _ d _ => d
def Rw.load : Rw → Bool | .mk _ _ _ l => l
def dstM : Option Nat → Nat
  | some d => orB d 0
  | none => 0
def rawOf (ops : Array Oper) (o : Oper) : Rw := .mk (edgeM o.after.toList) (maskOf (o.looksAt ops)) (dstM o.dst) (isLoad o)
def apartM (x y : Rw) : Bool := Nat.beq (Nat.land x.dst (Nat.lor y.look y.dst)) 0 && Nat.beq (Nat.land y.dst x.look) 0
theorem land_zero {a b k : Nat} (h : Nat.beq (Nat.land a b) 0 = true) (ha : hasB a k = true) : hasB b k = false := by
  rw [Nat.beq_eq] at h
  have e : Nat.land a b = a &&& b := rfl
  rw [e] at h
  simp only [hasB_test] at *
  have := congrArg (fun m => Nat.testBit m k) h
  simp only [Nat.testBit_and, Nat.zero_testBit, ha, Bool.true_and] at this
  exact this
theorem hasB_dstM {d : Nat} : hasB (dstM (some d)) d = true := by simp [dstM, hasB_orB]
theorem apartM_apart {ops : Array Oper} {x y : Oper} (h : apartM (rawOf ops x) (rawOf ops y) = true) : x.apart ops y = true := by
  unfold apartM at h
  simp only [rawOf, Rw.dst, Rw.look, Bool.and_eq_true] at h
  obtain ⟨h1, h2⟩ := h
  unfold Oper.apart
  rw [Bool.and_eq_true]
  constructor
  · split
    · rename_i d hd
      rw [hd] at h1
      have := land_zero h1 hasB_dstM
      have e : ∀ a b : Nat, Nat.lor a b = a ||| b := fun _ _ => rfl
      rw [e] at this
      simp only [hasB_test] at this
      rw [Nat.testBit_or, Bool.or_eq_false_iff] at this
      obtain ⟨k1, k2⟩ := this
      rw [Bool.and_eq_true]
      constructor
      · cases hc : (y.looksAt ops).contains d
        · rfl
        · have : hasB (maskOf (y.looksAt ops)) d = true := hasB_maskOf.2 (List.contains_iff_mem.1 hc)
          simp only [hasB_test] at this
          rw [k1] at this; cases this
      · rw [bne_iff_ne]
        intro e
        rw [e] at k2
        have := hasB_dstM (d := d)
        simp only [hasB_test] at this
        rw [k2] at this; cases this
    · rfl
  · split
    · rename_i d hd
      rw [hd] at h2
      have := land_zero h2 hasB_dstM
      cases hc : (x.looksAt ops).contains d
      · rfl
      · have h3 : hasB (maskOf (x.looksAt ops)) d = true := hasB_maskOf.2 (List.contains_iff_mem.1 hc)
        rw [this] at h3; cases h3
    · rfl
def confM (i : Nat) (x : Rw) : List Rw → Nat → Nat
  | [], _ => 0
  | y :: l, j => bif Nat.beq i j || hasB y.dep i || apartM x y then confM i x l (j + 1) else orB j (confM i x l (j + 1))
theorem confM_spec {i : Nat} {x : Rw} : ∀ {l : List Rw} {j k : Nat} {y : Rw}, l[k]? = some y → i ≠ j + k → hasB y.dep i = false → hasB (confM i x l j) (j + k) = false → apartM x y = true
  | [], _, _, _, h, _, _, _ => by simp at h
  | z :: l, j, 0, y, h, hne, hd, hc => by
    simp only [List.getElem?_cons_zero, Option.some.injEq] at h
    subst h
    cases ha : apartM x z
    · exfalso
      have hij : Nat.beq i j = false := by
        cases hb : Nat.beq i j
        · rfl
        · rw [Nat.beq_eq] at hb; exact absurd hb (by simpa using hne)
      simp only [confM, hij, hd, ha, Bool.or_self, cond_false, hasB_orB, Nat.add_zero, decide_true, Bool.true_or] at hc
      cases hc
    · rfl
  | z :: l, j, k + 1, y, h, hne, hd, hc => by
    simp only [List.getElem?_cons_succ] at h
    have e : j + (k + 1) = (j + 1) + k := by omega
    refine confM_spec (j := j + 1) h (by omega) hd ?_
    rw [← e]
    simp only [confM] at hc
    cases hb : (Nat.beq i j || hasB z.dep i || apartM x z) <;> rw [hb] at hc
    · simp only [cond_false, hasB_orB, Bool.or_eq_false_iff] at hc
      exact hc.2
    · exact hc
def looseM (i dep : Nat) : List Rw → Nat → Bool
  | [], _ => false
  | y :: l, j => (y.load && !(Nat.beq i j) && !(hasB dep j)) || looseM i dep l (j + 1)
theorem looseM_iff {i dep : Nat} : ∀ {l : List Rw} {j : Nat}, looseM i dep l j = true ↔ ∃ k y, l[k]? = some y ∧ y.load = true ∧ i ≠ j + k ∧ hasB dep (j + k) = false
  | [], j => by simp [looseM]
  | y :: l, j => by
    simp only [looseM, Bool.or_eq_true, Bool.and_eq_true, Bool.not_eq_true', looseM_iff (l := l)]
    constructor
    · rintro (⟨⟨h1, h2⟩, h3⟩ | ⟨k, z, hz, h⟩)
      · refine ⟨0, y, rfl, h1, ?_, h3⟩
        intro e
        rw [Nat.add_zero] at e
        rw [e] at h2
        simp at h2
      · exact ⟨k + 1, z, by simpa using hz, h.1, by omega, by rw [← h.2.2]; congr 1; omega⟩
    · rintro ⟨k, z, hz, h⟩
      cases k with
      | zero =>
        simp only [List.getElem?_cons_zero, Option.some.injEq] at hz
        subst hz
        refine .inl ⟨⟨h.1, ?_⟩, h.2.2⟩
        cases hb : Nat.beq i j
        · rfl
        · rw [Nat.beq_eq] at hb; exact absurd hb h.2.1
      | succ k =>
        simp only [List.getElem?_cons_succ] at hz
        exact .inr ⟨k, z, hz, h.1, by omega, by rw [← h.2.2]; congr 1; omega⟩
/-- An operation's row: what it waits for; which operations must be listed for it to be free; is a load loose behind it? -/
inductive Dg where
  | mk (dep conf : Nat) (lo : Bool)
def Dg.dep : Dg → Nat | .mk d _ _ => d
def Dg.conf : Dg → Nat | .mk _ c _ => c
def Dg.lo : Dg → Bool | .mk _ _ l => l
def dgs (all : List Rw) : Nat → List Rw → List Dg
  | _, [] => []
  | i, x :: l => .mk x.dep (confM i x all 0) (looseM i x.dep all 0) :: dgs all (i + 1) l
theorem dgs_get {all : List Rw} : ∀ {l : List Rw} {i k : Nat}, (dgs all i l)[k]? = (l[k]?).map fun x => Dg.mk x.dep (confM (i + k) x all 0) (looseM (i + k) x.dep all 0)
  | [], _, _ => by simp [dgs]
  | x :: l, i, 0 => by simp [dgs]
  | x :: l, i, k + 1 => by
    simp only [dgs, List.getElem?_cons_succ, dgs_get (l := l)]
    have e : i + 1 + k = i + (k + 1) := by omega
    rw [e]
def raws (ops : Array Oper) : List Rw := ops.toList.map (rawOf ops)
def digest (ops : Array Oper) : List Dg := dgs (raws ops) 0 (raws ops)
theorem digest_length (ops : Array Oper) : (digest ops).length = ops.size := by
  unfold digest
  have h : ∀ all l i, (dgs all i l).length = l.length := by
    intro all l
    induction l with
    | nil => intro i; rfl
    | cons x l ih => intro i; simp [dgs, ih]
  rw [h]
  simp [raws]
theorem raws_get {ops : Array Oper} {i : Nat} : (raws ops)[i]? = (ops[i]?).map (rawOf ops) := by
  simp [raws]
theorem digest_get {ops : Array Oper} {i : Nat} {o : Oper} (ho : ops[i]? = some o) : (digest ops)[i]? = some (.mk (edgeM o.after.toList) (confM i (rawOf ops o) (raws ops) 0) (looseM i (edgeM o.after.toList) (raws ops) 0)) := by
  unfold digest
  rw [dgs_get, raws_get, ho]
  simp [rawOf, Rw.dep]
theorem waitsB_has {o : Oper} {i : Nat} : hasB (edgeM o.after.toList) i = waitsB o i := by
  cases hw : waitsB o i
  · cases hb : hasB (edgeM o.after.toList) i
    · rfl
    · obtain ⟨e, he, h1, h2⟩ := hasB_edgeM.1 hb
      unfold waitsB at hw
      rw [Array.any_eq_false'] at hw
      exact absurd (by simp [h1, h2]) (hw e (Array.mem_toList_iff.1 he))
  · unfold waitsB at hw
    obtain ⟨e, he, hb⟩ := Array.any_eq_true'.1 hw
    simp only [Bool.and_eq_true, beq_iff_eq] at hb
    exact hasB_edgeM.2 ⟨e, Array.mem_toList_iff.2 he, hb⟩
theorem loose_has {ops : Array Oper} {i : Nat} {o : Oper} (ho : ops[i]? = some o) : looseM i (edgeM o.after.toList) (raws ops) 0 = loose ops i := by
  rw [Bool.eq_iff_iff, looseM_iff]
  unfold loose
  rw [ho]
  simp only [List.any_eq_true, List.mem_range]
  constructor
  · rintro ⟨k, y, hy, h1, h2, h3⟩
    rw [Nat.zero_add] at h2 h3
    rw [raws_get] at hy
    cases hk : ops[k]? with
    | none => rw [hk] at hy; cases hy
    | some ok =>
      rw [hk] at hy
      simp only [Option.map_some, Option.some.injEq] at hy
      subst hy
      refine ⟨k, (Array.getElem?_eq_some_iff.1 hk).1, ?_⟩
      rw [hk]
      rw [waitsB_has] at h3
      simp only [rawOf, Rw.load] at h1
      simp [h1, h3, Ne.symm h2]
  · rintro ⟨k, hk, h⟩
    cases hok : ops[k]? with
    | none => rw [hok] at h; cases h
    | some ok =>
      rw [hok] at h
      simp only [Bool.and_eq_true, Bool.not_eq_true', beq_eq_false_iff_ne] at h
      refine ⟨k, rawOf ops ok, by rw [raws_get, hok]; rfl, h.1.1, ?_, ?_⟩
      · rw [Nat.zero_add]; exact fun e => h.1.2 e.symm
      · rw [Nat.zero_add, waitsB_has]; exact h.2

/-- What is listed, as an array. -/
def listedOf (n L : Nat) : Array Bool := ((List.range n).map (hasB L)).toArray
theorem listedOf_getD {n L i : Nat} {d : Bool} : (listedOf n L).getD i d = if i < n then hasB L i else d := by
  unfold listedOf
  by_cases h : i < n <;> simp [h, Array.getD]
theorem listedOf_set {n L i : Nat} (hi : i < n) : (listedOf n L).setIfInBounds i true = listedOf n (orB i L) := by
  refine Array.ext (by simp [listedOf]) fun k h1 h2 => ?_
  have hk : k < n := by simpa [listedOf] using h2
  rw [Array.getElem_setIfInBounds]
  · simp only [listedOf, List.getElem_toArray, List.getElem_map, List.getElem_range, hasB_orB]
    split
    · rename_i e; simp [e]
    · rename_i e; simp [e]
  · simpa [listedOf] using hk
theorem listedOf_zero (n : Nat) : Array.replicate n false = listedOf n 0 := by
  refine Array.ext (by simp [listedOf]) fun k h1 h2 => ?_
  simp [listedOf, hasB_zero]
def readyB (L i : Nat) (d : Dg) : Bool := !(hasB L i) && covers L d.dep
def readyD (L : Nat) : List Dg → Nat → List Nat
  | [], _ => []
  | d :: l, i => bif readyB L i d then i :: readyD L l (i + 1) else readyD L l (i + 1)
theorem readyD_mem {L : Nat} : ∀ {l : List Dg} {i k : Nat}, k ∈ readyD L l i ↔ ∃ j d, l[j]? = some d ∧ k = i + j ∧ readyB L k d = true
  | [], i, k => by simp [readyD]
  | d :: l, i, k => by
    have key : k ∈ readyD L (d :: l) i ↔ (k = i ∧ readyB L i d = true) ∨ k ∈ readyD L l (i + 1) := by
      simp only [readyD]
      cases hb : readyB L i d <;> simp
    rw [key, readyD_mem]
    constructor
    · rintro (⟨rfl, h⟩ | ⟨j, e, he, hk, h⟩)
      · exact ⟨0, d, rfl, rfl, h⟩
      · exact ⟨j + 1, e, by simpa using he, by omega, h⟩
    · rintro ⟨j, e, he, hk, h⟩
      cases j with
      | zero =>
        simp only [List.getElem?_cons_zero, Option.some.injEq] at he
        subst he
        rw [Nat.add_zero] at hk
        subst hk
        exact .inl ⟨rfl, h⟩
      | succ j =>
        simp only [List.getElem?_cons_succ] at he
        exact .inr ⟨j, e, he, by omega, h⟩
theorem readyB_ready {ops : Array Oper} {L i : Nat} {d : Dg} (hL : ∀ k, ops.size ≤ k → hasB L k = false) (hd : (digest ops)[i]? = some d) (h : readyB L i d = true) : i ∈ Region.ready .any ops (listedOf ops.size L) := by
  have hi : i < ops.size := by
    rw [← digest_length]
    exact (List.getElem?_eq_some_iff.1 hd).1
  have ho : ops[i]? = some ops[i] := Array.getElem?_eq_getElem hi
  rw [digest_get ho] at hd
  simp only [Option.some.injEq] at hd
  subst hd
  simp only [readyB, Dg.dep, Bool.and_eq_true, Bool.not_eq_true'] at h
  rw [mem_ready]
  refine ⟨by rw [listedOf_getD, if_pos hi]; exact h.1, _, ho, fun e he hb => ?_⟩
  rw [listedOf_getD]
  have h2 := covers_has.1 h.2 e.on (hasB_edgeM.2 ⟨e, Array.mem_toList_iff.2 he, hb, rfl⟩)
  split
  · exact h2
  · rename_i hn
    rw [hL _ (Nat.le_of_not_lt hn)] at h2
    cases h2
theorem ready_readyD {ops : Array Oper} {L i : Nat} (h : i ∈ Region.ready .any ops (listedOf ops.size L)) : i ∈ readyD L (digest ops) 0 := by
  obtain ⟨h1, o, ho, h2⟩ := mem_ready.1 h
  have hi : i < ops.size := (Array.getElem?_eq_some_iff.1 ho).1
  rw [listedOf_getD, if_pos hi] at h1
  rw [readyD_mem]
  refine ⟨i, _, digest_get ho, by omega, ?_⟩
  simp only [readyB, Dg.dep, Bool.and_eq_true, Bool.not_eq_true']
  refine ⟨h1, covers_has.2 fun k hk => ?_⟩
  obtain ⟨e, he, hb, rfl⟩ := hasB_edgeM.1 hk
  have := h2 e (Array.mem_toList_iff.1 he) hb
  rw [listedOf_getD] at this
  split at this
  · exact this
  · cases this
theorem conf_free {ops : Array Oper} {L i : Nat} {d : Dg} {oi : Oper} (hd : (digest ops)[i]? = some d) (hoi : ops[i]? = some oi) (h : covers L d.conf = true) (j : Nat) (oj : Oper) (hj : ops[j]? = some oj) (hne : j ≠ i)
    (hun : (listedOf ops.size L).getD j true = false) (hno : ∀ e ∈ oj.after, Region.binds .any e = true → e.on ≠ i) : oi.apart ops oj = true := by
  rw [digest_get hoi] at hd
  simp only [Option.some.injEq] at hd
  subst hd
  simp only [Dg.conf] at h
  have hjs : j < ops.size := (Array.getElem?_eq_some_iff.1 hj).1
  rw [listedOf_getD, if_pos hjs] at hun
  refine apartM_apart (confM_spec (i := i) (j := 0) (k := j) (l := raws ops) (by rw [raws_get, hj]; rfl) (by omega) ?_ ?_)
  · simp only [rawOf, Rw.dep]
    rw [waitsB_has]
    unfold waitsB
    rw [Array.any_eq_false']
    intro e he hc
    simp only [Bool.and_eq_true, beq_iff_eq] at hc
    exact hno e he hc.1 hc.2
  · rw [Nat.zero_add]
    cases hb : hasB (confM i (rawOf ops oi) (raws ops) 0) j
    · rfl
    · rw [covers_has.1 h j hb] at hun; cases hun

-- written out
section
variable {α : Sort _}
def outN (n : Nat) (K : Nat → α) : α := match n with | 0 => K 0 | n + 1 => K (n + 1)
theorem outN_eq (n : Nat) (K : Nat → α) : outN n K = K n := by cases n <;> rfl
def outB (b : Bool) (K : Bool → α) : α := match b with | true => K true | false => K false
theorem outB_eq (b : Bool) (K : Bool → α) : outB b K = K b := by cases b <;> rfl
def outR (K : List Rw → α) : List Rw → α
  | [] => K []
  | .mk a b c d :: l => outN a fun a => outN b fun b => outN c fun c => outB d fun d => outR (fun l => K (.mk a b c d :: l)) l
theorem outR_eq : ∀ (l : List Rw) (K : List Rw → α), outR K l = K l
  | [], _ => rfl
  | .mk a b c d :: l, K => by simp only [outR, outN_eq, outB_eq, outR_eq l]
def outD (K : List Dg → α) : List Dg → α
  | [] => K []
  | .mk a b c :: l => outN a fun a => outN b fun b => outB c fun c => outD (fun l => K (.mk a b c :: l)) l
theorem outD_eq : ∀ (l : List Dg) (K : List Dg → α), outD K l = K l
  | [], _ => rfl
  | .mk a b c :: l, K => by simp only [outD, outN_eq, outB_eq, outD_eq l]
def digestK (ops : Array Oper) (K : List Dg → α) : α := outR (fun rs => outD K (dgs rs 0 rs)) (raws ops)
theorem digestK_eq (ops : Array Oper) (K : List Dg → α) : digestK ops K = K (digest ops) := by
  unfold digestK
  rw [outR_eq, outD_eq]
  rfl
end
end Go.Proofs.Ytohijcgbfcahhaa
