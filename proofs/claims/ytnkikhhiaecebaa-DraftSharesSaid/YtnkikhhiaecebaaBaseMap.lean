/- Assertions on memory that are joined side by side: which blocks there are, each told once. No program in sight. -/
import Derived.Below
import Derived.Laws.AppendOwn
import Derived.Laws.OwnMore
import Derived.WalkSmall
import Derived.Maps.OwnOps
import Derived.Maps.RangeWalk
set_option linter.all false
namespace Go.Proofs.Ytnkikhhiaecebaa
open Go Go.RowKit

/-- Some of a world's blocks. -/
def Part : Type := Nat → Option Obj
def Part.none : Part := fun _ => Option.none
def Part.one (b : Nat) (o : Obj) : Part := fun x => if x = b then some o else Option.none
def Part.join (g h : Part) : Part := fun x => match g x with | some o => some o | Option.none => h x
def Part.apart (g h : Part) : Prop := ∀ x, g x = Option.none ∨ h x = Option.none
/-- What is told of some blocks. -/
def Assn : Type := Part → Prop
def Assn.sep (P Q : Assn) : Assn := fun h => ∃ a b, Part.apart a b ∧ h = Part.join a b ∧ P a ∧ Q b
instance : Mul Assn := ⟨Assn.sep⟩
def Assn.emp : Assn := fun h => h = Part.none
instance : One Assn := ⟨Assn.emp⟩
/-- The block b holds the object o. -/
def own (b : Nat) (o : Obj) : Assn := fun h => h = Part.one b o
def Assn.ex {α : Type} (f : α → Assn) : Assn := fun h => ∃ a, f a h
def Assn.pure (p : Prop) : Assn := fun h => p ∧ h = Part.none
/-- All blocks that a world had. -/
def old (W : World) : Assn := fun h => h = fun x => W.heap[x]?

theorem Part.join_comm {g h : Part} (a : Part.apart g h) : Part.join g h = Part.join h g := by
  funext x
  rcases a x with e | e <;> simp only [Part.join, e]
  · cases h x <;> rfl
  · cases g x <;> rfl
theorem Part.apart_comm {g h : Part} (a : Part.apart g h) : Part.apart h g := fun x => (a x).symm
theorem Part.join_assoc (f g h : Part) : Part.join (Part.join f g) h = Part.join f (Part.join g h) := by
  funext x; simp only [Part.join]; cases f x <;> rfl
theorem Part.apart_join {f g h : Part} : Part.apart (Part.join f g) h ↔ Part.apart f h ∧ Part.apart g h := by
  constructor
  · intro a
    refine ⟨fun x => ?_, fun x => ?_⟩
    · rcases a x with e | e
      · simp only [Part.join] at e
        cases hf : f x with
        | none => exact .inl rfl
        | some o => rw [hf] at e; cases e
      · exact .inr e
    · rcases a x with e | e
      · simp only [Part.join] at e
        cases hf : f x with
        | none => rw [hf] at e; exact .inl e
        | some o => rw [hf] at e; cases e
      · exact .inr e
  · rintro ⟨a, b⟩ x
    rcases a x with e | e
    · rcases b x with e' | e'
      · left; simp only [Part.join, e, e']
      · exact .inr e'
    · exact .inr e
theorem Part.apart_join' {f g h : Part} : Part.apart h (Part.join f g) ↔ Part.apart h f ∧ Part.apart h g :=
  ⟨fun a => let b := Part.apart_join.1 (Part.apart_comm a); ⟨Part.apart_comm b.1, Part.apart_comm b.2⟩, fun a => Part.apart_comm (Part.apart_join.2 ⟨Part.apart_comm a.1, Part.apart_comm a.2⟩)⟩
theorem Part.none_join (h : Part) : Part.join Part.none h = h := rfl
theorem Part.join_none (h : Part) : Part.join h Part.none = h := by funext x; simp only [Part.join, Part.none]; cases h x <;> rfl
theorem Part.apart_none (h : Part) : Part.apart Part.none h := fun _ => .inl rfl

theorem Assn.mul_def (P Q : Assn) (h : Part) : (P * Q) h ↔ ∃ a b, Part.apart a b ∧ h = Part.join a b ∧ P a ∧ Q b := Iff.rfl
theorem Assn.ext {P Q : Assn} (h : ∀ x, P x ↔ Q x) : P = Q := funext fun x => propext (h x)
theorem Assn.mul_comm (P Q : Assn) : P * Q = Q * P := Assn.ext fun _ =>
  ⟨fun ⟨a, b, d, e, p, q⟩ => ⟨b, a, Part.apart_comm d, e.trans (Part.join_comm d), q, p⟩, fun ⟨a, b, d, e, p, q⟩ => ⟨b, a, Part.apart_comm d, e.trans (Part.join_comm d), q, p⟩⟩
theorem Assn.mul_assoc (P Q R : Assn) : P * Q * R = P * (Q * R) := Assn.ext fun h => by
  constructor
  · rintro ⟨ab, c, d, rfl, ⟨a, b, d', rfl, p, q⟩, r⟩
    obtain ⟨d1, d2⟩ := Part.apart_join.1 d
    exact ⟨a, Part.join b c, Part.apart_join'.2 ⟨d', d1⟩, Part.join_assoc _ _ _, p, b, c, d2, rfl, q, r⟩
  · rintro ⟨a, bc, d, rfl, p, b, c, d', rfl, q, r⟩
    obtain ⟨d1, d2⟩ := Part.apart_join'.1 d
    exact ⟨Part.join a b, c, Part.apart_join.2 ⟨d2, d'⟩, (Part.join_assoc _ _ _).symm, ⟨a, b, d1, rfl, p, q⟩, r⟩
theorem Assn.one_mul (P : Assn) : 1 * P = P := Assn.ext fun h => by
  constructor
  · rintro ⟨a, b, _, rfl, rfl, q⟩; exact q
  · intro q; exact ⟨Part.none, h, Part.apart_none _, rfl, rfl, q⟩
theorem Assn.mul_one (P : Assn) : P * 1 = P := by rw [Assn.mul_comm]; exact Assn.one_mul P
theorem Assn.mul_left_comm (P Q R : Assn) : P * (Q * R) = Q * (P * R) := by rw [← Assn.mul_assoc, Assn.mul_comm P Q, Assn.mul_assoc]
instance : Std.Associative (α := Assn) (· * ·) := ⟨Assn.mul_assoc⟩
instance : Std.Commutative (α := Assn) (· * ·) := ⟨Assn.mul_comm⟩
theorem Assn.ex_mul {α : Type} (f : α → Assn) (Q : Assn) : Assn.ex f * Q = Assn.ex fun a => f a * Q := Assn.ext fun _ =>
  ⟨fun ⟨a, b, d, e, ⟨x, p⟩, q⟩ => ⟨x, a, b, d, e, p, q⟩, fun ⟨x, a, b, d, e, p, q⟩ => ⟨a, b, d, e, ⟨x, p⟩, q⟩⟩
theorem Assn.mul_ex {α : Type} (f : α → Assn) (Q : Assn) : Q * Assn.ex f = Assn.ex fun a => Q * f a := by
  rw [Assn.mul_comm, Assn.ex_mul]; congr 1; funext a; exact Assn.mul_comm _ _

/-- The world has, among its blocks, what is told. -/
def Sat (w : World) (P : Assn) : Prop := ∃ h, P h ∧ ∀ b o, h b = some o → w.heap[b]? = some o

theorem Sat.cast {w : World} {P Q : Assn} (h : Sat w P) (e : P = Q) : Sat w Q := e ▸ h
theorem Sat.ex {w : World} {α : Type} {f : α → Assn} (h : Sat w (Assn.ex f)) : ∃ a, Sat w (f a) := by obtain ⟨h, ⟨a, p⟩, k⟩ := h; exact ⟨a, h, p, k⟩
theorem Sat.mk_ex {w : World} {α : Type} {f : α → Assn} (a : α) (h : Sat w (f a)) : Sat w (Assn.ex f) := by obtain ⟨h, p, k⟩ := h; exact ⟨h, ⟨a, p⟩, k⟩
theorem Sat.ex_mul {w : World} {α : Type} {f : α → Assn} {R : Assn} (h : Sat w (Assn.ex f * R)) : ∃ a, Sat w (f a * R) := (h.cast (Assn.ex_mul f R)).ex
theorem Sat.mk_ex_mul {w : World} {α : Type} {f : α → Assn} {R : Assn} (a : α) (h : Sat w (f a * R)) : Sat w (Assn.ex f * R) := (Sat.mk_ex (f := fun a => f a * R) a h).cast (Assn.ex_mul f R).symm
theorem Assn.pure_mul (p : Prop) (hp : p) (R : Assn) : Assn.pure p * R = R := Assn.ext fun h => by
  constructor
  · rintro ⟨a, b, _, rfl, ⟨_, rfl⟩, q⟩; exact q
  · intro q; exact ⟨Part.none, h, Part.apart_none _, rfl, ⟨hp, rfl⟩, q⟩
theorem Sat.pure_mul {w : World} {p : Prop} {R : Assn} (h : Sat w (Assn.pure p * R)) : p ∧ Sat w R := by
  obtain ⟨_, ⟨a, b, _, rfl, ⟨hp, rfl⟩, q⟩, k⟩ := h
  exact ⟨hp, b, q, k⟩
theorem Sat.mk_pure_mul {w : World} {p : Prop} {R : Assn} (hp : p) (h : Sat w R) : Sat w (Assn.pure p * R) := h.cast (Assn.pure_mul p hp R).symm
theorem Sat.mono {w : World} {P Q R : Assn} (h : Sat w (P * R)) (m : ∀ x, P x → Q x) : Sat w (Q * R) := by
  obtain ⟨x, ⟨a, b, d, e, p, q⟩, k⟩ := h
  exact ⟨x, ⟨a, b, d, e, m a p, q⟩, k⟩
/-- What is told beside may be forgotten. -/
theorem Sat.left {w : World} {P R : Assn} (h : Sat w (P * R)) : Sat w P := by
  obtain ⟨x, ⟨a, b, d, rfl, p, q⟩, k⟩ := h
  refine ⟨a, p, fun i o ha => k i o ?_⟩
  simp only [Part.join, ha]
theorem Sat.right {w : World} {P R : Assn} (h : Sat w (P * R)) : Sat w R := Sat.left (h.cast (Assn.mul_comm _ _))

theorem Sat.block {w : World} {b : Nat} {o : Obj} {R : Assn} (h : Sat w (own b o * R)) : w.heap[b]? = some o := by
  obtain ⟨x, p, k⟩ := h.left
  have p' : x = Part.one b o := p
  subst p'
  exact k b o (by simp [Part.one])
theorem Sat.lt {w : World} {b : Nat} {o : Obj} {R : Assn} (h : Sat w (own b o * R)) : b < w.heap.size := by
  have e := h.block
  rcases Nat.lt_or_ge b w.heap.size with h' | h'
  · exact h'
  · simp [Array.getElem?_eq_none h'] at e
theorem Sat.ne {w : World} {b c : Nat} {o p : Obj} {R : Assn} (h : Sat w (own b o * (own c p * R))) : b ≠ c := by
  rintro rfl
  obtain ⟨x, ⟨a, y, d, _, ha, e, z, _, he, hz, _⟩, _⟩ := h
  have ha' : a = Part.one b o := ha
  have hz' : e = Part.one b p := hz
  subst ha' hz'
  rcases d b with e | e
  · simp [Part.one] at e
  · rw [he] at e; simp [Part.join, Part.one] at e
theorem Sat.cell {w : World} {b : Nat} {c : Array Value} {t : TypeId} {f : Nat × Nat} {R : Assn} (h : Sat w (own b (.cells c t f) * R)) (i : Nat) : w.cell? ⟨b, i, none⟩ = c[i]? := by
  simp [World.cell?, h.block]
theorem Sat.free {w : World} {b : Nat} {c : Array Value} {t : TypeId} {R : Assn} (h : Sat w (own b (.cells c t (0, 0)) * R)) (i : Nat) : w.frozen? ⟨b, i, none⟩ = false := by
  simp [World.frozen?, h.block]

/-- A world of the same blocks, whatever was drawn. -/
theorem Sat.draws {w : World} {P : Assn} (h : Sat w P) (n : Nat) : Sat (w.drewN n) P := h
theorem Sat.drew {w : World} {P : Assn} (h : Sat w P) : Sat w.drew P := h
/-- Each block that is told of is one of the world's. -/
theorem Sat.alloc {w : World} {P : Assn} (h : Sat w P) (o : Obj) : Sat (w.alloc o) (own w.heap.size o * P) := by
  obtain ⟨x, p, k⟩ := h
  have hlt : ∀ i y, x i = some y → i < w.heap.size := fun i y e => by
    have := k i y e
    rcases Nat.lt_or_ge i w.heap.size with h' | h'
    · exact h'
    · simp [Array.getElem?_eq_none h'] at this
  have hd : Part.apart (Part.one w.heap.size o) x := fun i => by
    by_cases e : i = w.heap.size
    · right
      cases hx : x i with
      | none => rfl
      | some y => have := hlt i y hx; omega
    · left; simp [Part.one, e]
  refine ⟨Part.join (Part.one w.heap.size o) x, ⟨_, x, hd, rfl, rfl, p⟩, fun i y e => ?_⟩
  simp only [Part.join, Part.one] at e
  by_cases hi : i = w.heap.size
  · subst hi; simp at e; subst e; exact heap_alloc_new w o
  · simp [hi] at e
    rw [Below.heap_alloc _ _ _ (hlt i y e)]; exact k i y e
theorem Sat.upd {w w' : World} {b : Nat} {o o' : Obj} {R : Assn} (h : Sat w (own b o * R)) (hb : w'.heap[b]? = some o') (hr : ∀ i, i ≠ b → i < w.heap.size → w'.heap[i]? = w.heap[i]?) : Sat w' (own b o' * R) := by
  obtain ⟨x, ⟨a, y, d, rfl, ha, q⟩, k⟩ := h
  have ha' : a = Part.one b o := ha
  subst ha'
  have d' : Part.apart (Part.one b o') y := fun i => by
    rcases d i with e | e
    · left; simp only [Part.one] at e ⊢; split at e <;> simp_all
    · exact .inr e
  refine ⟨Part.join (Part.one b o') y, ⟨_, y, d', rfl, rfl, q⟩, fun i z e => ?_⟩
  simp only [Part.join, Part.one] at e
  by_cases hi : i = b
  · subst hi; simp at e; subst e; exact hb
  · simp [hi] at e
    have hz := k i z (by simp [Part.join, Part.one, hi, e])
    have hlt : i < w.heap.size := by
      rcases Nat.lt_or_ge i w.heap.size with h' | h'
      · exact h'
      · simp [Array.getElem?_eq_none h'] at hz
    rw [hr i hi hlt]; exact hz
theorem Sat.set {w : World} {b : Nat} {c : Array Value} {t : TypeId} {f : Nat × Nat} {R : Assn} (h : Sat w (own b (.cells c t f) * R)) (i : Nat) (v : Value) :
    Sat (w.setCell ⟨b, i, none⟩ v) (own b (.cells (c.setIfInBounds i v) t f) * R) := by
  have hb := h.block
  refine h.upd ?_ fun j hj hlt => Below.heap_setCell _ _ _ _ hj
  have hlt := h.lt
  have h' : w.heap[b] = .cells c t f := by simpa [Array.getElem?_eq_getElem hlt] using hb
  show (w.heap.modify b _)[b]? = _
  rw [Array.getElem?_eq_getElem (by simpa using hlt), Array.getElem_modify_self, h']
  rfl
/-- A store into a block that is not the first one told of: it goes by. -/
theorem Sat.swap {w : World} {P Q R : Assn} (h : Sat w (P * (Q * R))) : Sat w (Q * (P * R)) := h.cast (Assn.mul_left_comm P Q R)

/-- Behind a call that only adds blocks. -/
theorem Sat.below {w w' : World} {P : Assn} (h : Sat w P) (hb : Below w.heap.size w w') : Sat w' P := by
  obtain ⟨x, p, k⟩ := h
  refine ⟨x, p, fun i o e => ?_⟩
  have := k i o e
  have hlt : i < w.heap.size := by
    rcases Nat.lt_or_ge i w.heap.size with h' | h'
    · exact h'
    · simp [Array.getElem?_eq_none h'] at this
  rw [hb.block i hlt]; exact this
theorem Sat.old (W : World) : Sat W (old W) := ⟨_, rfl, fun _ _ e => e⟩

/-- A block without cells: nobody's. -/
def holeB : Option Obj → Bool
  | some (.cells c _ _) => Nat.beq c.size 0
  | _ => false
/-- The blocks that a world had, those without cells aside. -/
def seenA (W : World) : Assn := fun h => h = fun x => bif holeB W.heap[x]? then none else W.heap[x]?
def holesA (W : World) : Assn := fun h => h = fun x => bif holeB W.heap[x]? then W.heap[x]? else none
theorem old_split (W : World) : old W = seenA W * holesA W := Assn.ext fun h => by
  have key : (fun x => W.heap[x]?) = Part.join (fun x => bif holeB W.heap[x]? then none else W.heap[x]?) (fun x => bif holeB W.heap[x]? then W.heap[x]? else none) := by
    funext x
    simp only [Part.join]
    cases hb : holeB W.heap[x]?
    · simp only [cond_false]; cases W.heap[x]? <;> rfl
    · simp only [cond_true]
  constructor
  · intro e
    refine ⟨_, _, fun x => ?_, (show h = _ from e).trans key, rfl, rfl⟩
    cases hb : holeB W.heap[x]?
    · exact .inr (by simp)
    · exact .inl (by simp)
  · rintro ⟨a, b, _, rfl, ea, eb⟩
    have ea' : a = fun x => bif holeB W.heap[x]? then none else W.heap[x]? := ea
    have eb' : b = fun x => bif holeB W.heap[x]? then W.heap[x]? else none := eb
    subst ea' eb'
    exact key.symm
theorem hole_cell {W : World} {x : Addr} {v : Value} (h : W.cell? x = some v) : holeB W.heap[x.block]? = false ∧ ∃ o, W.heap[x.block]? = some o := by
  unfold World.cell? at h
  cases hb : W.heap[x.block]? with
  | none => rw [hb] at h; cases h
  | some o =>
    refine ⟨?_, o, rfl⟩
    rw [hb] at h
    cases o with
    | cells c t f =>
      simp only [holeB]
      cases hc : Nat.beq c.size 0
      · rfl
      · have h0 := Nat.eq_of_beq_eq_true hc
        simp only at h
        split at h
        · cases h
        · rw [Array.getElem?_eq_none (by omega)] at h; cases h
    | _ => rfl
theorem seenA_block {W w : World} {R : Assn} {b : Nat} {o : Obj} (h : Sat w (seenA W * R)) (hn : holeB W.heap[b]? = false) (ho : W.heap[b]? = some o) : w.heap[b]? = some o := by
  obtain ⟨p, ⟨q, r, ha, rfl, hq, _⟩, hk⟩ := h
  have hq' : q = fun i => bif holeB W.heap[i]? then none else W.heap[i]? := hq
  subst hq'
  refine hk b o ?_
  have e : (bif holeB W.heap[b]? then none else W.heap[b]?) = some o := by rw [hn, cond_false, ho]
  simp only [Part.join, e]
theorem seenA_cell {W w : World} {R : Assn} {x : Addr} {v : Value} (h : Sat w (seenA W * R)) (hv : W.cell? x = some v) : w.cell? x = some v := by
  obtain ⟨hn, o, ho⟩ := hole_cell hv
  have := seenA_block h hn ho
  unfold World.cell? at *
  rw [this]
  rw [ho] at hv
  exact hv
/-- A world that has what another had, and more. -/
structure Grow (W W' : World) : Prop where
  out : ∀ (b : Nat) (o : Obj), holeB W.heap[b]? = false → W.heap[b]? = some o → W'.heap[b]? = some o
theorem Grow.refl (W : World) : Grow W W := ⟨fun _ _ _ h => h⟩
theorem Grow.trans {a b c : World} (h : Grow a b) (k : Grow b c) : Grow a c := ⟨fun i o hn ho => k.out i o (by rw [h.out i o hn ho, ← ho]; exact hn) (h.out i o hn ho)⟩
theorem Grow.cell {W W' : World} (h : Grow W W') {x : Addr} {v : Value} (hv : W.cell? x = some v) : W'.cell? x = some v := by
  obtain ⟨hn, o, ho⟩ := hole_cell hv
  have := h.out _ _ hn ho
  unfold World.cell? at *
  rw [this]
  rw [ho] at hv
  exact hv
/-- A row that nobody turns any more is put with the old ones. -/
theorem seenA_freeze {W w : World} {R : Assn} {b : Nat} {c : Array Value} {t : TypeId} {f : Nat × Nat} (h : Sat w (seenA W * (own b (.cells c t f) * R))) :
    ∃ W', Grow W W' ∧ (∀ i v, c[i]? = some v → W'.cell? ⟨b, i, none⟩ = some v) ∧ Sat w (seenA W' * R) := by
  obtain ⟨p, ⟨q, r, ha, rfl, hq, s, z, hd, rfl, hs, hz⟩, hk⟩ := h
  have hq' : q = fun i => bif holeB W.heap[i]? then none else W.heap[i]? := hq
  have hs' : s = Part.one b (.cells c t f) := hs
  subst hq' hs'
  have hb : (bif holeB W.heap[b]? then none else W.heap[b]?) = none := by
    rcases ha b with h | h
    · exact h
    · simp [Part.join, Part.one] at h
  let hole : Obj := .cells #[] t (0, 0)
  let n := max W.heap.size (b + 1)
  let W' : World := { W with heap := Array.ofFn (n := n) fun i => if i.val = b then .cells c t f else (W.heap[i.val]?).getD hole }
  have hget : ∀ i, i < n → W'.heap[i]? = some (if i = b then .cells c t f else (W.heap[i]?).getD hole) := fun i hi => by
    show (Array.ofFn (n := n) fun i => if i.val = b then .cells c t f else (W.heap[i.val]?).getD hole)[i]? = _
    rw [Array.getElem?_eq_getElem (by simpa using hi)]
    simp
  have hbig : ∀ i, n ≤ i → W'.heap[i]? = none ∧ W.heap[i]? = none := fun i hi => by
    constructor
    · exact Array.getElem?_eq_none (by show (Array.ofFn (n := n) _).size ≤ i; simpa using hi)
    · exact Array.getElem?_eq_none (by omega)
  have hbn : b < n := by omega
  refine ⟨W', ⟨fun i o hn ho => ?_⟩, fun i v hv => ?_, ?_⟩
  · have hi : i < n := by
      rcases Nat.lt_or_ge i n with h' | h'
      · exact h'
      · rw [(hbig i h').2] at ho; cases ho
    have hne : i ≠ b := by
      rintro rfl
      rw [hn, ho] at hb
      cases hb
    rw [hget i hi, if_neg hne, ho]
    rfl
  · unfold World.cell?
    rw [hget b hbn, if_pos rfl]
    simpa using hv
  · have sub : ∀ i, (bif holeB W'.heap[i]? then none else W'.heap[i]?) = (if i = b then (bif Nat.beq c.size 0 then none else some (.cells c t f)) else bif holeB W.heap[i]? then none else W.heap[i]?) := fun i => by
      rcases Nat.lt_or_ge i n with hi | hi
      · rw [hget i hi]
        by_cases e : i = b
        · rw [if_pos e, if_pos e]; rfl
        · rw [if_neg e, if_neg e]
          cases hw : W.heap[i]? with
          | none => rfl
          | some o => rfl
      · rw [(hbig i hi).1, (hbig i hi).2, if_neg (by omega)]
    refine ⟨Part.join (fun i => bif holeB W'.heap[i]? then none else W'.heap[i]?) z, ⟨_, z, fun x => ?_, rfl, rfl, hz⟩, fun x o hx => ?_⟩
    · simp only [sub]
      by_cases e : x = b
      · rcases hd x with h | h
        · simp [Part.one, e] at h
        · exact .inr h
      · rw [if_neg e]
        rcases ha x with h | h
        · exact .inl h
        · refine .inr ?_
          simpa [Part.join, Part.one, e] using h
    · refine hk x o ?_
      simp only [Part.join, sub] at hx ⊢
      by_cases e : x = b
      · rw [if_pos e] at hx
        subst e
        rw [hb]
        simp only [Part.one, if_true]
        rcases hd x with h | h
        · simp [Part.one] at h
        · rw [h] at hx
          cases hc : Nat.beq c.size 0 <;> rw [hc] at hx
          · exact hx
          · cases hx
      · rw [if_neg e] at hx
        simp only [Part.one, if_neg e]
        exact hx
/-- All that a world had is there, if what it had grew, and its blocks without cells are there. -/
theorem Sat.old_of {W W' w : World} {P : Assn} (h : Sat w (seenA W' * (holesA W * P))) (g : Grow W W') : Sat w (1 * Go.Proofs.Ytnkikhhiaecebaa.old W) := by
  refine ⟨fun x => W.heap[x]?, ?_, fun x o hx => ?_⟩
  · rw [Assn.one_mul]; rfl
  · cases hb : holeB W.heap[x]?
    · have h1 := g.out x o hb hx
      exact seenA_block h (by rw [h1, ← hx]; exact hb) h1
    · obtain ⟨q, hq, hk⟩ := h.right.left
      have hq' : q = fun x => bif holeB W.heap[x]? then W.heap[x]? else none := hq
      subst hq'
      exact hk x o (by show (bif holeB W.heap[x]? then W.heap[x]? else none) = some o; rw [hb, cond_true]; exact hx)

/-- What a call never turns: the outside, the tape. -/
structure Kept (w w' : World) : Prop where
  os : w'.os = w.os
  tape : w'.tape = w.tape
  output : w'.output = w.output
theorem Kept.refl (w : World) : Kept w w := ⟨rfl, rfl, rfl⟩
theorem Kept.trans {a b c : World} (h : Kept a b) (k : Kept b c) : Kept a c := ⟨k.os.trans h.os, k.tape.trans h.tape, k.output.trans h.output⟩
theorem Kept.alloc {a w : World} (h : Kept a w) (o : Obj) : Kept a (w.alloc o) := ⟨h.os, h.tape, h.output⟩
theorem Kept.setCell {a w : World} (h : Kept a w) (p : Addr) (v : Value) : Kept a (w.setCell p v) := ⟨h.os, h.tape, h.output⟩
theorem Kept.draws {a w : World} (h : Kept a w) (n : Nat) : Kept a (w.drewN n) := ⟨h.os, h.tape, h.output⟩
theorem Kept.drew {a w : World} (h : Kept a w) : Kept a w.drew := ⟨h.os, h.tape, h.output⟩
theorem Kept.below {B : Nat} {a w w' : World} (h : Kept a w) (hb : Below B w w') : Kept a w' := h.trans ⟨hb.os, hb.tape, hb.output⟩
/-- At the end: all blocks that there were are there unturned. -/
theorem Below.of_old {W w : World} {P : Assn} (h : Sat w (P * old W)) (k : Kept W w) : Below W.heap.size W w := by
  obtain ⟨x, p, q⟩ := h.right
  have p' : x = fun i => W.heap[i]? := p
  subst p'
  have hb : ∀ i, i < W.heap.size → w.heap[i]? = W.heap[i]? := fun i hi => by
    have e : W.heap[i]? = some W.heap[i] := by simp
    rw [e]; exact q i _ e
  refine ⟨k.os, k.tape, k.output, ?_, hb⟩
  rcases Nat.eq_zero_or_pos W.heap.size with h0 | h0
  · omega
  · have e := hb (W.heap.size - 1) (by omega)
    rcases Nat.lt_or_ge (W.heap.size - 1) w.heap.size with h1 | h1
    · omega
    · rw [Array.getElem?_eq_none h1] at e
      have : W.heap[W.heap.size - 1]? = some W.heap[W.heap.size - 1] := by simp
      rw [this] at e; cases e
end Go.Proofs.Ytnkikhhiaecebaa

/- Maps from int to whatever, as lists of their entries: look-up, store, deletion. No program in sight. -/
namespace Go.Proofs.Ytnkikhhiaecebaa
open Go Go.RowKit

/-- The entries, in their order, as numbers and values. -/
def MapL (es : Array MapEntry) (clock : Nat) (l : List (Int × Value)) : Prop :=
  es.toList.map (fun e => (e.key, e.val)) = l.map (fun x => (Value.int .i64 x.1, x.2)) ∧ MapKept.Stamped es clock
def look (l : List (Int × Value)) (x : Int) : Option Value := (l.find? fun y => y.1 == x).map (·.2)

theorem findNow_int {x : Int} : ∀ (es : List MapEntry) (l : List (Int × Value)) (i : Nat), es.map (fun e => (e.key, e.val)) = l.map (fun x => (Value.int .i64 x.1, x.2)) →
    ∃ r, Instr.findNow (.int .i64) (.int .i64 x) es i = some r ∧ r.map (·.2) = look l x
  | [], [], i, _ => ⟨none, rfl, rfl⟩
  | e :: es, y :: l, i, h => by
    simp only [List.map_cons, List.cons.injEq, Prod.mk.injEq] at h
    obtain ⟨⟨h1, h2⟩, h3⟩ := h
    obtain ⟨r, hr, hl⟩ := findNow_int (x := x) es l (i + 1) h3
    unfold Instr.findNow
    rw [h1]
    by_cases hx : x = y.1
    · subst hx
      exact ⟨some (i, e.val), by simp [Instr.sameNow], by simp [look, h2]⟩
    · have e1 : (x == y.1) = false := by simpa using hx
      have e2 : (y.1 == x) = false := by simpa using fun h => hx h.symm
      exact ⟨r, by simp [Instr.sameNow, e1, hr], by rw [hl]; simp [look, List.find?_cons, e2]⟩
  | [], _ :: _, _, h => by simp at h
  | _ :: _, [], _, h => by simp at h

theorem lookup_ok {P : Program} {w : World} {b : Nat} {es : Array MapEntry} {clock : Nat} {l : List (Int × Value)} {t k e : TypeId} {z : Value}
    (hb : w.heap[b]? = some (.map es clock)) (hl : MapL es clock l) (ht : P.underlying t = some (.map k e)) (hk : P.underlying k = some (.int .i64)) (hz : (zeroValue e).run P w = .ok z w) (x : Int) :
    (Instr.lookup t (.map (some b)) (.int .i64 x) true).run P w = .ok (.tuple #[(look l x).getD z, .bool (look l x).isSome]) w := by
  obtain ⟨r, hr, hlk⟩ := findNow_int (x := x) es.toList l 0 hl.1
  rw [← hlk]
  cases r with
  | none => simp [Instr.lookup, run_underlying ht, MapKept.run_getObj_map hb, MapKept.run_checkKey hk (show MapKept.IsKey (.int .i64) (.int .i64 x) from rfl), MapKept.run_findKey hk hr, hz, Result.andThen]
  | some y => simp [Instr.lookup, run_underlying ht, MapKept.run_getObj_map hb, MapKept.run_checkKey hk (show MapKept.IsKey (.int .i64) (.int .i64 x) from rfl), MapKept.run_findKey hk hr, Result.andThen]
theorem lookup_bare {P : Program} {w : World} {b : Nat} {es : Array MapEntry} {clock : Nat} {l : List (Int × Value)} {t k e : TypeId} {z : Value}
    (hb : w.heap[b]? = some (.map es clock)) (hl : MapL es clock l) (ht : P.underlying t = some (.map k e)) (hk : P.underlying k = some (.int .i64)) (hz : (zeroValue e).run P w = .ok z w) (x : Int) :
    (Instr.lookup t (.map (some b)) (.int .i64 x) false).run P w = .ok ((look l x).getD z) w := by
  obtain ⟨r, hr, hlk⟩ := findNow_int (x := x) es.toList l 0 hl.1
  rw [← hlk]
  cases r with
  | none => simp [Instr.lookup, run_underlying ht, MapKept.run_getObj_map hb, MapKept.run_checkKey hk (show MapKept.IsKey (.int .i64) (.int .i64 x) from rfl), MapKept.run_findKey hk hr, hz, Result.andThen]
  | some y => simp [Instr.lookup, run_underlying ht, MapKept.run_getObj_map hb, MapKept.run_checkKey hk (show MapKept.IsKey (.int .i64) (.int .i64 x) from rfl), MapKept.run_findKey hk hr, Result.andThen]

theorem look_none {l : List (Int × Value)} {x : Int} (h : look l x = none) : ∀ y ∈ l, y.1 ≠ x := by
  intro y hy e
  simp only [look, Option.map_eq_none_iff, List.find?_eq_none] at h
  exact h y hy (by simpa using e)
theorem mapL_keys {es : Array MapEntry} {clock : Nat} {l : List (Int × Value)} (h : MapL es clock l) {x : MapEntry} (hx : x ∈ es.toList) : ∃ y ∈ l, x.key = .int .i64 y.1 ∧ x.val = y.2 := by
  have : (x.key, x.val) ∈ l.map (fun x => (Value.int .i64 x.1, x.2)) := by rw [← h.1]; exact List.mem_map.2 ⟨x, hx, rfl⟩
  obtain ⟨y, hy, e⟩ := List.mem_map.1 this
  simp only [Prod.mk.injEq] at e
  exact ⟨y, hy, e.1.symm, e.2.symm⟩

/-- A store of a key that was not there: one entry more, behind the others. -/
theorem update_new {P : Program} {w : World} {b : Nat} {es : Array MapEntry} {clock : Nat} {l : List (Int × Value)} {t k e : TypeId}
    (hb : w.heap[b]? = some (.map es clock)) (hl : MapL es clock l) (ht : P.underlying t = some (.map k e)) (hk : P.underlying k = some (.int .i64)) (x : Int) (v : Value) (hn : look l x = none) :
    ∃ w' es' clock', (Instr.mapUpdate t (.map (some b)) (.int .i64 x) v).run P w = .ok () w' ∧ MapL es' clock' (l ++ [(x, v)]) ∧ w'.heap[b]? = some (.map es' clock') ∧ (∀ i, i ≠ b → w'.heap[i]? = w.heap[i]?) ∧ Kept w w' ∧ w.heap.size = w'.heap.size := by
  obtain ⟨r, hr, hlk⟩ := findNow_int (x := x) es.toList l 0 hl.1
  rw [hn] at hlk
  cases r with
  | some y => simp at hlk
  | none =>
    refine ⟨{ w with heap := w.heap.setIfInBounds b (.map (es.push { key := .int .i64 x, val := v, born := clock }) (clock + 1)) }, es.push { key := .int .i64 x, val := v, born := clock }, clock + 1, ?_, ⟨?_, ?_⟩, (MapKept.heap_set hb).1, fun i hi => (MapKept.heap_set hb).2 i hi, ⟨rfl, rfl, rfl⟩, by simp⟩
    · simp [Instr.mapUpdate, run_underlying ht, MapKept.run_getObj_map hb, MapKept.run_checkKey hk (show MapKept.IsKey (.int .i64) (.int .i64 x) from rfl), MapKept.run_findKey hk hr, MapKept.run_setObj_map _ hb, Result.andThen]
    · simp [hl.1]
    · refine MapKept.stamped_push hl.2 fun y hy => ?_
      obtain ⟨z, hz, e1, _⟩ := mapL_keys hl hy
      rw [e1]
      intro e2
      simp at e2
      exact look_none hn z hz e2

/-- The block b is a map of these entries. -/
def mapAt (b : Nat) (l : List (Int × Value)) : Assn := Assn.ex fun p : Array MapEntry × Nat => Assn.pure (MapL p.1 p.2 l) * own b (.map p.1 p.2)
theorem mapAt_open {w : World} {b : Nat} {l : List (Int × Value)} {R : Assn} (h : Sat w (mapAt b l * R)) : ∃ es clock, MapL es clock l ∧ Sat w (own b (.map es clock) * R) := by
  obtain ⟨⟨es, clock⟩, h⟩ := h.ex_mul
  rw [Assn.mul_assoc] at h
  obtain ⟨hl, h⟩ := h.pure_mul
  exact ⟨es, clock, hl, h⟩
theorem mapAt_shut {w : World} {b : Nat} {l : List (Int × Value)} {R : Assn} {es : Array MapEntry} {clock : Nat} (hl : MapL es clock l) (h : Sat w (own b (.map es clock) * R)) : Sat w (mapAt b l * R) := by
  refine Sat.mk_ex_mul (es, clock) ?_
  rw [Assn.mul_assoc]
  exact Sat.mk_pure_mul hl h
theorem mapL_nil : MapL #[] 0 [] := ⟨rfl, MapKept.stamped_empty 0⟩
end Go.Proofs.Ytnkikhhiaecebaa

/- Maps from uint64 to whatever, as lists of their entries: look-up, store, deletion. No program in sight. -/
namespace Go.Proofs.Ytnkikhhiaecebaa
open Go Go.RowKit

/-- The entries, in their order, as numbers and values. -/
def MapLU (es : Array MapEntry) (clock : Nat) (l : List (Int × Value)) : Prop :=
  es.toList.map (fun e => (e.key, e.val)) = l.map (fun x => (Value.int .u64 x.1, x.2)) ∧ MapKept.Stamped es clock

theorem findNow_u {x : Int} : ∀ (es : List MapEntry) (l : List (Int × Value)) (i : Nat), es.map (fun e => (e.key, e.val)) = l.map (fun x => (Value.int .u64 x.1, x.2)) →
    ∃ r, Instr.findNow (.int .u64) (.int .u64 x) es i = some r ∧ r.map (·.2) = look l x
  | [], [], i, _ => ⟨none, rfl, rfl⟩
  | e :: es, y :: l, i, h => by
    simp only [List.map_cons, List.cons.injEq, Prod.mk.injEq] at h
    obtain ⟨⟨h1, h2⟩, h3⟩ := h
    obtain ⟨r, hr, hl⟩ := findNow_u (x := x) es l (i + 1) h3
    unfold Instr.findNow
    rw [h1]
    by_cases hx : x = y.1
    · subst hx
      exact ⟨some (i, e.val), by simp [Instr.sameNow], by simp [look, h2]⟩
    · have e1 : (x == y.1) = false := by simpa using hx
      have e2 : (y.1 == x) = false := by simpa using fun h => hx h.symm
      exact ⟨r, by simp [Instr.sameNow, e1, hr], by rw [hl]; simp [look, List.find?_cons, e2]⟩
  | [], _ :: _, _, h => by simp at h
  | _ :: _, [], _, h => by simp at h

theorem lookup_ok_u {P : Program} {w : World} {b : Nat} {es : Array MapEntry} {clock : Nat} {l : List (Int × Value)} {t k e : TypeId} {z : Value}
    (hb : w.heap[b]? = some (.map es clock)) (hl : MapLU es clock l) (ht : P.underlying t = some (.map k e)) (hk : P.underlying k = some (.int .u64)) (hz : (zeroValue e).run P w = .ok z w) (x : Int) :
    (Instr.lookup t (.map (some b)) (.int .u64 x) true).run P w = .ok (.tuple #[(look l x).getD z, .bool (look l x).isSome]) w := by
  obtain ⟨r, hr, hlk⟩ := findNow_u (x := x) es.toList l 0 hl.1
  rw [← hlk]
  cases r with
  | none => simp [Instr.lookup, run_underlying ht, MapKept.run_getObj_map hb, MapKept.run_checkKey hk (show MapKept.IsKey (.int .u64) (.int .u64 x) from rfl), MapKept.run_findKey hk hr, hz, Result.andThen]
  | some y => simp [Instr.lookup, run_underlying ht, MapKept.run_getObj_map hb, MapKept.run_checkKey hk (show MapKept.IsKey (.int .u64) (.int .u64 x) from rfl), MapKept.run_findKey hk hr, Result.andThen]
theorem lookup_bare_u {P : Program} {w : World} {b : Nat} {es : Array MapEntry} {clock : Nat} {l : List (Int × Value)} {t k e : TypeId} {z : Value}
    (hb : w.heap[b]? = some (.map es clock)) (hl : MapLU es clock l) (ht : P.underlying t = some (.map k e)) (hk : P.underlying k = some (.int .u64)) (hz : (zeroValue e).run P w = .ok z w) (x : Int) :
    (Instr.lookup t (.map (some b)) (.int .u64 x) false).run P w = .ok ((look l x).getD z) w := by
  obtain ⟨r, hr, hlk⟩ := findNow_u (x := x) es.toList l 0 hl.1
  rw [← hlk]
  cases r with
  | none => simp [Instr.lookup, run_underlying ht, MapKept.run_getObj_map hb, MapKept.run_checkKey hk (show MapKept.IsKey (.int .u64) (.int .u64 x) from rfl), MapKept.run_findKey hk hr, hz, Result.andThen]
  | some y => simp [Instr.lookup, run_underlying ht, MapKept.run_getObj_map hb, MapKept.run_checkKey hk (show MapKept.IsKey (.int .u64) (.int .u64 x) from rfl), MapKept.run_findKey hk hr, Result.andThen]

theorem mapLU_keys {es : Array MapEntry} {clock : Nat} {l : List (Int × Value)} (h : MapLU es clock l) {x : MapEntry} (hx : x ∈ es.toList) : ∃ y ∈ l, x.key = .int .u64 y.1 ∧ x.val = y.2 := by
  have : (x.key, x.val) ∈ l.map (fun x => (Value.int .u64 x.1, x.2)) := by rw [← h.1]; exact List.mem_map.2 ⟨x, hx, rfl⟩
  obtain ⟨y, hy, e⟩ := List.mem_map.1 this
  simp only [Prod.mk.injEq] at e
  exact ⟨y, hy, e.1.symm, e.2.symm⟩

/-- A store of a key that was not there: one entry more, behind the others. -/
theorem update_new_u {P : Program} {w : World} {b : Nat} {es : Array MapEntry} {clock : Nat} {l : List (Int × Value)} {t k e : TypeId}
    (hb : w.heap[b]? = some (.map es clock)) (hl : MapLU es clock l) (ht : P.underlying t = some (.map k e)) (hk : P.underlying k = some (.int .u64)) (x : Int) (v : Value) (hn : look l x = none) :
    ∃ w' es' clock', (Instr.mapUpdate t (.map (some b)) (.int .u64 x) v).run P w = .ok () w' ∧ MapLU es' clock' (l ++ [(x, v)]) ∧ w'.heap[b]? = some (.map es' clock') ∧ (∀ i, i ≠ b → w'.heap[i]? = w.heap[i]?) ∧ Kept w w' ∧ w.heap.size = w'.heap.size := by
  obtain ⟨r, hr, hlk⟩ := findNow_u (x := x) es.toList l 0 hl.1
  rw [hn] at hlk
  cases r with
  | some y => simp at hlk
  | none =>
    refine ⟨{ w with heap := w.heap.setIfInBounds b (.map (es.push { key := .int .u64 x, val := v, born := clock }) (clock + 1)) }, es.push { key := .int .u64 x, val := v, born := clock }, clock + 1, ?_, ⟨?_, ?_⟩, (MapKept.heap_set hb).1, fun i hi => (MapKept.heap_set hb).2 i hi, ⟨rfl, rfl, rfl⟩, by simp⟩
    · simp [Instr.mapUpdate, run_underlying ht, MapKept.run_getObj_map hb, MapKept.run_checkKey hk (show MapKept.IsKey (.int .u64) (.int .u64 x) from rfl), MapKept.run_findKey hk hr, MapKept.run_setObj_map _ hb, Result.andThen]
    · simp [hl.1]
    · refine MapKept.stamped_push hl.2 fun y hy => ?_
      obtain ⟨z, hz, e1, _⟩ := mapLU_keys hl hy
      rw [e1]
      intro e2
      simp at e2
      exact look_none hn z hz e2

/-- The block b is a map of these entries. -/
def mapUAt (b : Nat) (l : List (Int × Value)) : Assn := Assn.ex fun p : Array MapEntry × Nat => Assn.pure (MapLU p.1 p.2 l) * own b (.map p.1 p.2)
theorem mapUAt_open {w : World} {b : Nat} {l : List (Int × Value)} {R : Assn} (h : Sat w (mapUAt b l * R)) : ∃ es clock, MapLU es clock l ∧ Sat w (own b (.map es clock) * R) := by
  obtain ⟨⟨es, clock⟩, h⟩ := h.ex_mul
  rw [Assn.mul_assoc] at h
  obtain ⟨hl, h⟩ := h.pure_mul
  exact ⟨es, clock, hl, h⟩
theorem mapUAt_shut {w : World} {b : Nat} {l : List (Int × Value)} {R : Assn} {es : Array MapEntry} {clock : Nat} (hl : MapLU es clock l) (h : Sat w (own b (.map es clock) * R)) : Sat w (mapUAt b l * R) := by
  refine Sat.mk_ex_mul (es, clock) ?_
  rw [Assn.mul_assoc]
  exact Sat.mk_pure_mul hl h
theorem mapLU_nil : MapLU #[] 0 [] := ⟨rfl, MapKept.stamped_empty 0⟩
end Go.Proofs.Ytnkikhhiaecebaa

/- Maps from numbers as lists of their entries: any store, any deletion, how many there are. No program in sight. -/
namespace Go.Proofs.Ytnkikhhiaecebaa
open Go Go.RowKit

def updL : List (Int × Value) → Int → Value → List (Int × Value)
  | [], x, v => [(x, v)]
  | y :: l, x, v => if y.1 = x then (x, v) :: l else y :: updL l x v
def delL : List (Int × Value) → Int → List (Int × Value)
  | [], _ => []
  | y :: l, x => if y.1 = x then l else y :: delL l x
theorem look_cons {y : Int × Value} {l : List (Int × Value)} {x : Int} : look (y :: l) x = if y.1 = x then some y.2 else look l x := by
  unfold look
  rw [List.find?_cons]
  by_cases h : y.1 = x
  · rw [if_pos h]; simp [h]
  · rw [if_neg h]
    have : (y.1 == x) = false := by simpa using h
    rw [this]
theorem look_updL {l : List (Int × Value)} {x y : Int} {v : Value} : look (updL l x v) y = if x = y then some v else look l y := by
  induction l with
  | nil => simp only [updL]; rw [look_cons]
  | cons z l ih =>
    simp only [updL]
    split
    · rename_i h
      rw [look_cons, look_cons]
      by_cases e : x = y
      · rw [if_pos e, if_pos e]
      · rw [if_neg e, if_neg e, if_neg (by omega)]
    · rename_i h
      rw [look_cons, look_cons, ih]
      by_cases e : x = y
      · rw [if_pos e, if_neg (by omega), if_pos e]
      · rw [if_neg e, if_neg e]
theorem updL_len {l : List (Int × Value)} {x : Int} {v : Value} : (updL l x v).length = l.length + if (look l x).isSome then 0 else 1 := by
  induction l with
  | nil => rfl
  | cons z l ih =>
    simp only [updL]
    rw [look_cons]
    split
    · simp
    · rw [List.length_cons, ih, List.length_cons]; omega
/-- Every key once. -/
def Keys1 (l : List (Int × Value)) : Prop := (l.map (·.1)).Nodup
theorem look_in {l : List (Int × Value)} {x : Int} {v : Value} (h : look l x = some v) : (x, v) ∈ l := by
  induction l with
  | nil => cases h
  | cons z l ih =>
    rw [look_cons] at h
    split at h
    · rename_i e; cases h; subst e; exact List.mem_cons_self
    · exact List.mem_cons_of_mem _ (ih h)
theorem look_of_mem {l : List (Int × Value)} (hk : Keys1 l) {x : Int} {v : Value} (h : (x, v) ∈ l) : look l x = some v := by
  induction l with
  | nil => cases h
  | cons z l ih =>
    rw [look_cons]
    simp only [Keys1, List.map_cons, List.nodup_cons] at hk
    cases h with
    | head => rw [if_pos rfl]
    | tail _ h =>
      rw [if_neg, ih hk.2 h]
      intro e
      exact hk.1 (List.mem_map.2 ⟨(x, v), h, e.symm⟩)
theorem look_none_iff {l : List (Int × Value)} {x : Int} : look l x = none ↔ x ∉ l.map (·.1) := by
  induction l with
  | nil => simp [look]
  | cons z l ih =>
    rw [look_cons, List.map_cons, List.mem_cons]
    by_cases e : z.1 = x
    · rw [if_pos e]; simp [e]
    · rw [if_neg e, ih]
      simp only [not_or]
      exact ⟨fun h => ⟨fun e' => e e'.symm, h⟩, fun h => h.2⟩
theorem look_delL {l : List (Int × Value)} (hk : Keys1 l) {x y : Int} : look (delL l x) y = if x = y then none else look l y := by
  induction l with
  | nil => simp [delL, look]
  | cons z l ih =>
    simp only [Keys1, List.map_cons, List.nodup_cons] at hk
    simp only [delL]
    split
    · rename_i h
      rw [look_cons]
      by_cases e : x = y
      · rw [if_pos e, look_none_iff]
        rw [← e, ← h]
        exact hk.1
      · rw [if_neg e, if_neg (by omega)]
    · rename_i h
      rw [look_cons, look_cons, ih hk.2]
      by_cases e : x = y
      · rw [if_pos e, if_neg (by omega), if_pos e]
      · rw [if_neg e, if_neg e]
theorem delL_len {l : List (Int × Value)} {x : Int} : (delL l x).length = l.length - if (look l x).isSome then 1 else 0 := by
  induction l with
  | nil => rfl
  | cons z l ih =>
    simp only [delL]
    rw [look_cons]
    split
    · simp
    · rename_i h
      rw [List.length_cons, ih, List.length_cons]
      split
      · rename_i hs
        have : 0 < l.length := by
          cases l with
          | nil => cases hs
          | cons _ _ => simp
        omega
      · omega
theorem updL_keys {l : List (Int × Value)} {x : Int} {v : Value} : ∀ y, y ∈ (updL l x v).map (·.1) → y = x ∨ y ∈ l.map (·.1) := by
  induction l with
  | nil => intro y hy; simp [updL] at hy; exact .inl hy
  | cons z l ih =>
    intro y hy
    simp only [updL] at hy
    split at hy
    · rw [List.map_cons, List.mem_cons] at hy
      rcases hy with h | h
      · exact .inl h
      · exact .inr (by rw [List.map_cons]; exact List.mem_cons_of_mem _ h)
    · rw [List.map_cons, List.mem_cons] at hy
      rcases hy with h | h
      · exact .inr (by rw [List.map_cons, h]; exact List.mem_cons_self)
      · rcases ih y h with h | h
        · exact .inl h
        · exact .inr (by rw [List.map_cons]; exact List.mem_cons_of_mem _ h)
theorem updL_keys1 {l : List (Int × Value)} {x : Int} {v : Value} (hk : Keys1 l) : Keys1 (updL l x v) := by
  induction l with
  | nil => simp [updL, Keys1]
  | cons z l ih =>
    have hk' := hk
    simp only [Keys1, List.map_cons, List.nodup_cons] at hk
    simp only [updL]
    split
    · rename_i h
      simp only [Keys1, List.map_cons, List.nodup_cons]
      exact ⟨by rw [← h]; exact hk.1, hk.2⟩
    · rename_i h
      simp only [Keys1, List.map_cons, List.nodup_cons]
      refine ⟨fun hm => ?_, ih hk.2⟩
      rcases updL_keys _ hm with e | e
      · exact h e
      · exact hk.1 e
theorem delL_sub {l : List (Int × Value)} {x : Int} : (delL l x).Sublist l := by
  induction l with
  | nil => exact List.Sublist.refl _
  | cons z l ih =>
    simp only [delL]
    split
    · exact List.sublist_cons_self ..
    · exact ih.cons_cons _
theorem delL_keys1 {l : List (Int × Value)} {x : Int} (hk : Keys1 l) : Keys1 (delL l x) := List.Nodup.sublist (delL_sub.map _) hk

/-- The entries, in their order; of what kind the keys are is told. -/
def MapK (kd : IntKind) (es : Array MapEntry) (clock : Nat) (l : List (Int × Value)) : Prop :=
  es.toList.map (fun e => (e.key, e.val)) = l.map (fun x => (Value.int kd x.1, x.2)) ∧ MapKept.Stamped es clock
theorem mapK_keys1 {kd : IntKind} {es : Array MapEntry} {clock : Nat} {l : List (Int × Value)} (h : MapK kd es clock l) : Keys1 l := by
  have h1 : es.toList.map (·.key) = l.map (fun x => Value.int kd x.1) := by
    have := congrArg (List.map (·.1)) h.1
    rw [List.map_map, List.map_map] at this
    exact this
  have h2 : (es.toList.map (·.key)).Nodup := by
    have := ((MapKept.stamped_iff es clock).1 h.2).2.2
    rw [List.Nodup, List.pairwise_map]
    exact this
  rw [h1] at h2
  unfold Keys1
  have h3 : l.map (fun x => Value.int kd x.1) = (l.map (·.1)).map (Value.int kd) := by rw [List.map_map]; rfl
  rw [h3] at h2
  exact (List.pairwise_map.1 h2).imp fun hne e => hne (by rw [e])
theorem findK {kd : IntKind} {x : Int} : ∀ (es : List MapEntry) (l : List (Int × Value)) (i : Nat), es.map (fun e => (e.key, e.val)) = l.map (fun x => (Value.int kd x.1, x.2)) →
    (Instr.findNow (.int kd) (.int kd x) es i = some none ∧ look l x = none ∧ (∀ v, updL l x v = l ++ [(x, v)]) ∧ delL l x = l) ∨
    ∃ j e, Instr.findNow (.int kd) (.int kd x) es i = some (some (i + j, e.val)) ∧ es[j]? = some e ∧ e.key = .int kd x ∧ look l x = some e.val ∧ (∀ v, updL l x v = l.set j (x, v)) ∧ delL l x = l.eraseIdx j
  | [], [], i, _ => .inl ⟨rfl, rfl, fun _ => rfl, rfl⟩
  | e :: es, y :: l, i, h => by
    simp only [List.map_cons, List.cons.injEq, Prod.mk.injEq] at h
    obtain ⟨⟨h1, h2⟩, h3⟩ := h
    by_cases hx : y.1 = x
    · refine .inr ⟨0, e, ?_, rfl, by rw [h1, hx], by rw [look_cons, if_pos hx, h2], fun v => by simp only [updL]; rw [if_pos hx]; rfl, by simp only [delL]; rw [if_pos hx]; rfl⟩
      unfold Instr.findNow
      rw [h1, hx]
      simp [Instr.sameNow]
    · have e1 : (x == y.1) = false := by simpa using fun h => hx h.symm
      have hs : Instr.findNow (.int kd) (.int kd x) (e :: es) i = Instr.findNow (.int kd) (.int kd x) es (i + 1) := by
        conv => lhs; unfold Instr.findNow
        rw [h1]
        simp [Instr.sameNow, e1]
      rcases findK es l (i + 1) h3 with ⟨a1, a2, a3, a4⟩ | ⟨j, e', a1, a2, a3, a4, a5, a6⟩
      · refine .inl ⟨by rw [hs, a1], by rw [look_cons, if_neg hx, a2], fun v => by simp only [updL]; rw [if_neg hx, a3 v]; rfl, by simp only [delL]; rw [if_neg hx, a4]⟩
      · refine .inr ⟨j + 1, e', by rw [hs, a1, show i + 1 + j = i + (j + 1) by omega], by simpa using a2, a3, by rw [look_cons, if_neg hx, a4], fun v => by simp only [updL]; rw [if_neg hx, a5 v]; rfl, by simp only [delL]; rw [if_neg hx, a6]; rfl⟩
  | [], _ :: _, _, h => by simp at h
  | _ :: _, [], _, h => by simp at h
def kdOf (u : Bool) : IntKind := match u with
  | true => .u64
  | false => .i64
/-- A map as memory has it. -/
def mapG (u : Bool) (b : Nat) (l : List (Int × Value)) : Assn := bif u then mapUAt b l else mapAt b l
theorem mapG_open {u : Bool} {w : World} {b : Nat} {l : List (Int × Value)} {R : Assn} (h : Sat w (mapG u b l * R)) : ∃ es clock, MapK (kdOf u) es clock l ∧ Sat w (own b (.map es clock) * R) := by
  cases u
  · exact mapAt_open h
  · exact mapUAt_open h
theorem mapG_shut {u : Bool} {w : World} {b : Nat} {l : List (Int × Value)} {R : Assn} {es : Array MapEntry} {clock : Nat} (hl : MapK (kdOf u) es clock l) (h : Sat w (own b (.map es clock) * R)) : Sat w (mapG u b l * R) := by
  cases u
  · exact mapAt_shut hl h
  · exact mapUAt_shut hl h
theorem map_setI {α : Type} (l : List α) {β : Type} (f : α → β) (j : Nat) (a : α) : (l.set j a).map f = (l.map f).set j (f a) := by
  apply List.ext_getElem?
  intro i
  simp only [List.getElem?_map, List.getElem?_set, List.length_map]
  by_cases h : j = i
  · rw [if_pos h, if_pos h]; split <;> rfl
  · rw [if_neg h, if_neg h]
theorem map_modify {α β : Type} (f : α → β) (g : α → α) : ∀ (l : List α) (j : Nat) (a : α), l[j]? = some a → (l.modify j g).map f = (l.map f).set j (f (g a))
  | [], j, a, h => by simp at h
  | x :: l, 0, a, h => by
    simp only [List.getElem?_cons_zero, Option.some.injEq] at h
    subst h
    simp [List.modify]
  | x :: l, j + 1, a, h => by
    simp only [List.getElem?_cons_succ] at h
    have := map_modify f g l j a h
    simp only [List.modify_succ_cons, List.map_cons, List.set_cons_succ]
    rw [this]
theorem map_eraseIdx {α β : Type} (f : α → β) : ∀ (l : List α) (j : Nat), (l.eraseIdx j).map f = (l.map f).eraseIdx j
  | [], _ => rfl
  | x :: l, 0 => rfl
  | x :: l, j + 1 => by simp only [List.eraseIdx_cons_succ, List.map_cons]; rw [map_eraseIdx f l j]
theorem isKeyI (kd : IntKind) (x : Int) : MapKept.IsKey (.int kd) (.int kd x) := rfl
/-- A store into a map. -/
theorem mapG_update {P : Program} {u : Bool} {w w0 : World} {b : Nat} {l : List (Int × Value)} {R : Assn} {t k e : TypeId} (H : Sat w (mapG u b l * R)) (HK : Kept w0 w) (ht : P.underlying t = some (.map k e)) (hk : P.underlying k = some (.int (kdOf u))) (x : Int) (v : Value) :
    ∃ w', (Instr.mapUpdate t (.map (some b)) (.int (kdOf u) x) v).run P w = .ok () w' ∧ Sat w' (mapG u b (updL l x v) * R) ∧ Kept w0 w' := by
  obtain ⟨es, clock, hl, h5⟩ := mapG_open H
  have hb := h5.block
  rcases findK (x := x) es.toList l 0 hl.1 with ⟨a1, a2, a3, a4⟩ | ⟨j, e', a1, a2, a3, a4, a5, a6⟩
  · refine ⟨{ w with heap := w.heap.setIfInBounds b (.map (es.push { key := .int (kdOf u) x, val := v, born := clock }) (clock + 1)) }, ?_, ?_, ⟨HK.os, HK.tape, HK.output⟩⟩
    · simp [Instr.mapUpdate, run_underlying ht, MapKept.run_getObj_map hb, MapKept.run_checkKey hk (isKeyI _ x), MapKept.run_findKey hk a1, MapKept.run_setObj_map _ hb, Result.andThen]
    · rw [a3 v]
      refine mapG_shut ⟨?_, ?_⟩ (h5.upd (MapKept.heap_set hb).1 fun i hi _ => (MapKept.heap_set hb).2 i hi)
      · simp [hl.1]
      · refine MapKept.stamped_push hl.2 fun y hy e2 => ?_
        have h6 : (y.key, y.val) ∈ l.map (fun x => (Value.int (kdOf u) x.1, x.2)) := by rw [← hl.1]; exact List.mem_map.2 ⟨y, hy, rfl⟩
        obtain ⟨z, hz, e1⟩ := List.mem_map.1 h6
        simp only [Prod.mk.injEq] at e1
        rw [e2] at e1
        have e3 : z.1 = x := by have := e1.1; simpa using this
        exact look_none_iff.1 a2 (List.mem_map.2 ⟨z, hz, e3⟩)
  · rw [Nat.zero_add] at a1
    have hj : es[j]? = some e' := by rw [← Array.getElem?_toList]; exact a2
    refine ⟨{ w with heap := w.heap.setIfInBounds b (.map (es.modify j fun e => { e with key := .int (kdOf u) x, val := v }) clock) }, ?_, ?_, ⟨HK.os, HK.tape, HK.output⟩⟩
    · simp [Instr.mapUpdate, run_underlying ht, MapKept.run_getObj_map hb, MapKept.run_checkKey hk (isKeyI _ x), MapKept.run_findKey hk a1, hj, a3, MapKept.run_keyThatStays (isKeyI (kdOf u) x), MapKept.run_setObj_map _ hb, Result.andThen]
    · rw [a5 v]
      refine mapG_shut ⟨?_, ?_⟩ (h5.upd (MapKept.heap_set hb).1 fun i hi _ => (MapKept.heap_set hb).2 i hi)
      · rw [Array.toList_modify, map_modify _ _ _ _ _ a2, hl.1, map_setI]
      · exact MapKept.stamped_modify hl.2 _ _ (fun _ _ => rfl) fun e _ he => by rw [hj] at he; cases he; exact a3.symm
/-- A deletion. -/
theorem mapG_delete {P : Program} {u : Bool} {w w0 : World} {b : Nat} {l : List (Int × Value)} {R : Assn} {t k k' e ty : TypeId} (H : Sat w (mapG u b l * R)) (HK : Kept w0 w) (ht : P.underlying t = some (.map k e)) (hk : P.underlying k = some (.int (kdOf u))) (x : Int) :
    ∃ w', (Builtin.delete_ #[t, k'] ty #[.map (some b), .int (kdOf u) x]).run P w = .ok (.tuple #[]) w' ∧ Sat w' (mapG u b (delL l x) * R) ∧ Kept w0 w' := by
  obtain ⟨es, clock, hl, h5⟩ := mapG_open H
  have hb := h5.block
  rcases findK (x := x) es.toList l 0 hl.1 with ⟨a1, a2, a3, a4⟩ | ⟨j, e', a1, a2, a3, a4, a5, a6⟩
  · refine ⟨{ w with heap := w.heap.setIfInBounds b (.map es clock) }, ?_, ?_, ⟨HK.os, HK.tape, HK.output⟩⟩
    · simp [Builtin.delete_, run_underlying ht, MapKept.run_getObj_map hb, MapKept.run_checkKey hk (isKeyI _ x), MapKept.run_findKey hk a1, MapKept.run_setObj_map _ hb, Result.andThen]
    · rw [a4]
      exact mapG_shut hl (h5.upd (MapKept.heap_set hb).1 fun i hi _ => (MapKept.heap_set hb).2 i hi)
  · rw [Nat.zero_add] at a1
    have hj : es[j]? = some e' := by rw [← Array.getElem?_toList]; exact a2
    have hlt : j < es.size := by
      rcases Nat.lt_or_ge j es.size with h | h
      · exact h
      · rw [Array.getElem?_eq_none h] at hj; cases hj
    refine ⟨{ w with heap := w.heap.setIfInBounds b (.map (es.eraseIdxIfInBounds j) clock) }, ?_, ?_, ⟨HK.os, HK.tape, HK.output⟩⟩
    · simp [Builtin.delete_, run_underlying ht, MapKept.run_getObj_map hb, MapKept.run_checkKey hk (isKeyI _ x), MapKept.run_findKey hk a1, MapKept.run_setObj_map _ hb, Result.andThen]
    · rw [a6]
      refine mapG_shut ⟨?_, MapKept.stamped_erase hl.2 _⟩ (h5.upd (MapKept.heap_set hb).1 fun i hi _ => (MapKept.heap_set hb).2 i hi)
      rw [Array.eraseIdxIfInBounds, dif_pos hlt, Array.toList_eraseIdx, map_eraseIdx, hl.1, map_eraseIdx]
theorem mapG_nil {u : Bool} {w : World} {R : Assn} (H : Sat w R) : Sat (w.alloc (.map #[] 0)) (mapG u w.heap.size [] * R) :=
  mapG_shut ⟨rfl, MapKept.stamped_empty 0⟩ (H.alloc _)
end Go.Proofs.Ytnkikhhiaecebaa

/- A range over a map of int keys: what has come, what is left; told in assertions. No program in sight. -/
namespace Go.Proofs.Ytnkikhhiaecebaa
open Go Go.RowKit

/-- An entry as a number and a value. -/
def entOf (e : MapEntry) : Int × Value := (match e.key with | .int _ x => x | _ => 0, e.val)
theorem mapL_ents {es : Array MapEntry} {clock : Nat} {l : List (Int × Value)} (h : MapL es clock l) : l = es.toList.map entOf := by
  have h1 := congrArg (List.map fun p : Value × Value => ((match p.1 with | .int _ x => x | _ => 0 : Int), p.2)) h.1
  simp only [List.map_map] at h1
  have e1 : (List.map ((fun p : Value × Value => ((match p.1 with | .int _ x => x | _ => 0 : Int), p.2)) ∘ fun x : Int × Value => (Value.int .i64 x.1, x.2)) l) = l := by
    rw [show ((fun p : Value × Value => ((match p.1 with | .int _ x => x | _ => 0 : Int), p.2)) ∘ fun x : Int × Value => (Value.int .i64 x.1, x.2)) = id from rfl, List.map_id]
  rw [e1] at h1
  exact h1.symm
/-- What a range under way looks like in memory. -/
structure Ranging (es : Array MapEntry) (clock since c0 : Nat) (dn : List MapEntry) (l done : List (Int × Value)) : Prop where
  map : MapL es clock l
  elder : ∀ x ∈ es.toList, x.born < since
  s0 : since ≤ c0
  sc : since ≤ clock
  nodup : dn.Nodup
  sub : ∀ x ∈ dn, x ∈ es.toList
  done : done = dn.map entOf
def rangingAt (r b : Nat) (l done : List (Int × Value)) : Assn := Assn.ex fun p : Array MapEntry × Nat × Nat × Nat × List MapEntry =>
  Assn.pure (Ranging p.1 p.2.1 p.2.2.1 p.2.2.2.1 p.2.2.2.2 l done) * (own b (.map p.1 p.2.1) * own r (.mapIter (some b) p.2.2.1 (p.2.2.2.2.map (·.born)).toArray p.2.2.2.1))
theorem rangingAt_open {w : World} {r b : Nat} {l done : List (Int × Value)} {R : Assn} (h : Sat w (rangingAt r b l done * R)) : ∃ es clock since c0 dn, Ranging es clock since c0 dn l done ∧
    Sat w (own b (.map es clock) * (own r (.mapIter (some b) since (dn.map (·.born)).toArray c0) * R)) := by
  obtain ⟨⟨es, clock, since, c0, dn⟩, h⟩ := h.ex_mul
  rw [Assn.mul_assoc] at h
  obtain ⟨hi, h⟩ := h.pure_mul
  exact ⟨es, clock, since, c0, dn, hi, h.cast (by simp only [Assn.mul_assoc])⟩
theorem rangingAt_shut {w : World} {r b : Nat} {l done : List (Int × Value)} {R : Assn} {es : Array MapEntry} {clock since c0 : Nat} {dn : List MapEntry} (hi : Ranging es clock since c0 dn l done)
    (h : Sat w (own b (.map es clock) * (own r (.mapIter (some b) since (dn.map (·.born)).toArray c0) * R))) : Sat w (rangingAt r b l done * R) := by
  refine Sat.mk_ex_mul (es, clock, since, c0, dn) ?_
  rw [Assn.mul_assoc]
  exact Sat.mk_pure_mul hi (h.cast (by simp only [Assn.mul_assoc]))
/-- At its end a range leaves the map as it was. -/
theorem rangingAt_map {w : World} {r b : Nat} {l done : List (Int × Value)} {R : Assn} (h : Sat w (rangingAt r b l done * R)) : Sat w (mapAt b l * R) := by
  obtain ⟨es, clock, since, c0, dn, hi, h⟩ := rangingAt_open h
  refine mapAt_shut hi.map ?_
  exact (h.cast (Q := own r (.mapIter (some b) since (dn.map (·.born)).toArray c0) * (own b (.map es clock) * R)) (by ac_rfl)).right
theorem run_range {P : Program} {w : World} {b : Nat} {l : List (Int × Value)} {R : Assn} {t k e : TypeId} (ht : P.underlying t = some (.map k e)) (h : Sat w (mapAt b l * R)) :
    ∃ w', (Instr.range t (.map (some b))).run P w = .ok (.pointer (some ⟨w.heap.size, 0, none⟩)) w' ∧ Sat w' (rangingAt w.heap.size b l [] * R) ∧ Kept w w' ∧ Below w.heap.size w w' := by
  obtain ⟨es, clock, hl, h⟩ := mapAt_open h
  refine ⟨_, run_range_map w t k e b es clock ht h.block, ?_, (Kept.refl w).alloc _, (Below.refl _ w).alloc (Nat.le_refl _) _⟩
  refine rangingAt_shut (since := clock) (c0 := clock) (dn := []) ⟨hl, hl.2.1, Nat.le_refl _, Nat.le_refl _, List.nodup_nil, by simp, rfl⟩ ?_
  exact (h.alloc _).swap
theorem length_le_of_sub {α : Type} : ∀ (l m : List α), l.Nodup → (∀ x ∈ l, x ∈ m) → l.length ≤ m.length
  | [], _, _, _ => Nat.zero_le _
  | a :: l, m, hn, hs => by
    obtain ⟨m1, m2, rfl⟩ := List.append_of_mem (hs a (by simp))
    have := length_le_of_sub l (m1 ++ m2) (List.nodup_cons.1 hn).2 fun x hx => by
      have h1 := hs x (by simp [hx])
      have h2 : x ≠ a := fun e => (List.nodup_cons.1 hn).1 (e ▸ hx)
      simp only [List.mem_append, List.mem_cons] at h1 ⊢
      rcases h1 with h1 | h1 | h1
      · exact .inl h1
      · exact absurd h1 h2
      · exact .inr h1
    simp only [List.length_append, List.length_cons] at this ⊢
    omega
theorem born_inj_of {es : Array MapEntry} {clock : Nat} (h : MapKept.Stamped es clock) {x y : MapEntry} (hx : x ∈ es.toList) (hy : y ∈ es.toList) (e : x.born = y.born) : x = y :=
  born_inj ((MapKept.stamped_iff es clock).1 h).2.1 hx hy e
/-- The step: nothing is left, or one entry comes. -/
theorem run_next {P : Program} {w : World} {r b : Nat} {l done : List (Int × Value)} {R : Assn} (ty : TypeId) (h : Sat w (rangingAt r b l done * R)) :
    ((Instr.next (.pointer (some ⟨r, 0, none⟩)) false ty).run P w = .ok (.tuple #[.bool false]) w ∧ done.Perm l) ∨
    ∃ x v w', (Instr.next (.pointer (some ⟨r, 0, none⟩)) false ty).run P w = .ok (.tuple #[.bool true, .int .i64 x, v]) w' ∧ (x, v) ∈ l ∧ Sat w' (rangingAt r b l (done ++ [(x, v)]) * R) ∧ Kept w w' ∧ w'.heap.size = w.heap.size ∧ done.length < l.length ∧
      (Instr.entry (.pointer (some ⟨r, 0, none⟩))).run P w' = .ok (.tuple #[.int .i64 x, v]) w' := by
  obtain ⟨es, clock, since, c0, dn, hi, h⟩ := rangingAt_open h
  have hst := hi.map.2
  have hndb : (es.toList.map (·.born)).Nodup := ((MapKept.stamped_iff es clock).1 hst).2.1
  have hnd : es.toList.Nodup := List.Pairwise.of_map _ (fun a b (h : a.born ≠ b.born) e => h (congrArg MapEntry.born e)) hndb
  have hseen : ∀ x ∈ es.toList, (((dn.map (·.born)).toArray).contains x.born = true ↔ x ∈ dn) := by
    intro x hx
    simp only [List.contains_toArray, List.contains_iff_mem, List.mem_map]
    constructor
    · rintro ⟨y, hy, e⟩
      rw [← born_inj_of hst (hi.sub y hy) hx e]; exact hy
    · intro hx'; exact ⟨x, hx', rfl⟩
  rcases run_next_at (P := P) w ty r b since c0 (dn.map (·.born)).toArray es clock h.swap.block h.block hi.elder hi.s0 with ⟨h0, hrun⟩ | ⟨e, he, w1, hal, hrun⟩
  · refine .inl ⟨hrun, ?_⟩
    rw [hi.done, mapL_ents hi.map]
    refine List.Perm.map _ ((List.perm_ext_iff_of_nodup hi.nodup hnd).2 fun x => ⟨hi.sub x, fun hx => ?_⟩)
    refine (hseen x hx).1 ?_
    cases hc : ((dn.map (·.born)).toArray).contains x.born with
    | true => rfl
    | false =>
      have : x ∈ (leftOf es (dn.map (·.born)).toArray) := by
        unfold leftOf
        rw [Array.mem_filter]
        exact ⟨by simpa using hx, by simp only [hc, Bool.not_false]⟩
      rw [Array.eq_empty_of_size_eq_zero h0] at this
      simp at this
  · right
    have he' : e ∈ leftOf es (dn.map (·.born)).toArray := by simpa using he
    unfold leftOf at he'
    rw [Array.mem_filter] at he'
    have hem : e ∈ es.toList := by simpa using he'.1
    have hns : ((dn.map (·.born)).toArray).contains e.born = false := by simpa using he'.2
    have hnd' : e ∉ dn := fun hx => by rw [(hseen e hem).2 hx] at hns; cases hns
    obtain ⟨y, hy, ek, ev⟩ := mapL_keys hi.map hem
    have hs1 : Sat w1 (own b (.map es clock) * (own r (.mapIter (some b) since (dn.map (·.born)).toArray c0) * R)) := by rcases hal with rfl | rfl; exact h; exact h.drew
    have hk1 : Kept w w1 := by rcases hal with rfl | rfl; exact Kept.refl _; exact (Kept.refl w).drew
    have hz1 : w1.heap.size = w.heap.size := by rcases hal with rfl | rfl <;> rfl
    have hpush : ((dn.map (·.born)).toArray).push e.born = ((dn ++ [e]).map (·.born)).toArray := by simp
    have hset : (ChangeMaps.setBlock w1 r (.mapIter (some b) since (((dn.map (·.born)).toArray).push e.born) clock)).heap[r]? = some (.mapIter (some b) since (((dn.map (·.born)).toArray).push e.born) clock) ∧ ∀ i, i ≠ r → (ChangeMaps.setBlock w1 r (.mapIter (some b) since (((dn.map (·.born)).toArray).push e.born) clock)).heap[i]? = w1.heap[i]? := MapKept.heap_set hs1.swap.block
    have hs2 := hs1.swap.upd (o' := .mapIter (some b) since (((dn.map (·.born)).toArray).push e.born) clock) (w' := ChangeMaps.setBlock w1 r (.mapIter (some b) since (((dn.map (·.born)).toArray).push e.born) clock)) hset.1 (fun i hi _ => hset.2 i hi)
    refine ⟨y.1, y.2, ChangeMaps.setBlock w1 r (.mapIter (some b) since (((dn.map (·.born)).toArray).push e.born) clock), ?_, ?_, ?_, hk1.trans ⟨rfl, rfl, rfl⟩, by simp [ChangeMaps.setBlock, hz1], ?_, ?_⟩
    · rw [hrun, ek, ev]
    · exact hy
    · refine rangingAt_shut (since := since) (c0 := clock) (dn := dn ++ [e]) ⟨hi.map, hi.elder, hi.sc, hi.sc, ?_, ?_, ?_⟩ ?_
      · rw [List.nodup_append]
        refine ⟨hi.nodup, by simp, ?_⟩
        intro a ha b hb e'
        simp only [List.mem_singleton] at hb
        subst hb; subst e'; exact hnd' ha
      · intro x hx
        rcases List.mem_append.1 hx with hx | hx
        · exact hi.sub x hx
        · simp only [List.mem_singleton] at hx; subst hx; exact hem
      · rw [hi.done, List.map_append]
        congr 1
        simp only [List.map_cons, List.map_nil, entOf, ek, ev]
      · rw [← hpush]; exact hs2.swap
    · rw [hi.done, mapL_ents hi.map, List.length_map, List.length_map]
      have := length_le_of_sub (e :: dn) es.toList (List.nodup_cons.2 ⟨hnd', hi.nodup⟩) (fun x hx => by rcases List.mem_cons.1 hx with rfl | hx; exact hem; exact hi.sub x hx)
      simp only [List.length_cons] at this
      omega
    · have := run_entry_at (P := P) _ r b since (dn.map (·.born)).toArray es clock e hset.1 (hs2.swap.block) hem hndb
      rw [ek, ev] at this
      exact this

/-- A range that has just told an entry. -/
def ranging1At (r b : Nat) (l done : List (Int × Value)) : Assn := Assn.ex fun p : Array MapEntry × Nat × Nat × List MapEntry =>
  Assn.pure (Ranging p.1 p.2.1 p.2.2.1 p.2.1 p.2.2.2 l done) * (own b (.map p.1 p.2.1) * own r (.mapIter (some b) p.2.2.1 (p.2.2.2.map (·.born)).toArray p.2.1))
theorem ranging1At_open {w : World} {r b : Nat} {l done : List (Int × Value)} {R : Assn} (h : Sat w (ranging1At r b l done * R)) : ∃ es clock since dn, Ranging es clock since clock dn l done ∧
    Sat w (own b (.map es clock) * (own r (.mapIter (some b) since (dn.map (·.born)).toArray clock) * R)) := by
  obtain ⟨⟨es, clock, since, dn⟩, h⟩ := h.ex_mul
  rw [Assn.mul_assoc] at h
  obtain ⟨hi, h⟩ := h.pure_mul
  exact ⟨es, clock, since, dn, hi, h.cast (by simp only [Assn.mul_assoc])⟩
theorem ranging1At_shut {w : World} {r b : Nat} {l done : List (Int × Value)} {R : Assn} {es : Array MapEntry} {clock since : Nat} {dn : List MapEntry} (hi : Ranging es clock since clock dn l done)
    (h : Sat w (own b (.map es clock) * (own r (.mapIter (some b) since (dn.map (·.born)).toArray clock) * R))) : Sat w (ranging1At r b l done * R) := by
  refine Sat.mk_ex_mul (es, clock, since, dn) ?_
  rw [Assn.mul_assoc]
  exact Sat.mk_pure_mul hi (h.cast (by simp only [Assn.mul_assoc]))
theorem ranging1At_weak {w : World} {r b : Nat} {l done : List (Int × Value)} {R : Assn} (h : Sat w (ranging1At r b l done * R)) : Sat w (rangingAt r b l done * R) := by
  obtain ⟨es, clock, since, dn, hi, h⟩ := ranging1At_open h
  exact rangingAt_shut hi h
theorem run_next1 {P : Program} {w : World} {r b : Nat} {l done : List (Int × Value)} {R : Assn} (ty : TypeId) (h : Sat w (rangingAt r b l done * R)) :
    ((Instr.next (.pointer (some ⟨r, 0, none⟩)) false ty).run P w = .ok (.tuple #[.bool false]) w ∧ done.Perm l) ∨
    ∃ x v w', (Instr.next (.pointer (some ⟨r, 0, none⟩)) false ty).run P w = .ok (.tuple #[.bool true, .int .i64 x, v]) w' ∧ (x, v) ∈ l ∧ Sat w' (ranging1At r b l (done ++ [(x, v)]) * R) ∧ Kept w w' ∧ w'.heap.size = w.heap.size ∧ done.length < l.length ∧
      (Instr.entry (.pointer (some ⟨r, 0, none⟩))).run P w' = .ok (.tuple #[.int .i64 x, v]) w' := by
  obtain ⟨es, clock, since, c0, dn, hi, h⟩ := rangingAt_open h
  have hst := hi.map.2
  have hndb : (es.toList.map (·.born)).Nodup := ((MapKept.stamped_iff es clock).1 hst).2.1
  have hnd : es.toList.Nodup := List.Pairwise.of_map _ (fun a b (h : a.born ≠ b.born) e => h (congrArg MapEntry.born e)) hndb
  have hseen : ∀ x ∈ es.toList, (((dn.map (·.born)).toArray).contains x.born = true ↔ x ∈ dn) := by
    intro x hx
    simp only [List.contains_toArray, List.contains_iff_mem, List.mem_map]
    constructor
    · rintro ⟨y, hy, e⟩
      rw [← born_inj_of hst (hi.sub y hy) hx e]; exact hy
    · intro hx'; exact ⟨x, hx', rfl⟩
  rcases run_next_at (P := P) w ty r b since c0 (dn.map (·.born)).toArray es clock h.swap.block h.block hi.elder hi.s0 with ⟨h0, hrun⟩ | ⟨e, he, w1, hal, hrun⟩
  · refine .inl ⟨hrun, ?_⟩
    rw [hi.done, mapL_ents hi.map]
    refine List.Perm.map _ ((List.perm_ext_iff_of_nodup hi.nodup hnd).2 fun x => ⟨hi.sub x, fun hx => ?_⟩)
    refine (hseen x hx).1 ?_
    cases hc : ((dn.map (·.born)).toArray).contains x.born with
    | true => rfl
    | false =>
      have : x ∈ (leftOf es (dn.map (·.born)).toArray) := by
        unfold leftOf
        rw [Array.mem_filter]
        exact ⟨by simpa using hx, by simp only [hc, Bool.not_false]⟩
      rw [Array.eq_empty_of_size_eq_zero h0] at this
      simp at this
  · right
    have he' : e ∈ leftOf es (dn.map (·.born)).toArray := by simpa using he
    unfold leftOf at he'
    rw [Array.mem_filter] at he'
    have hem : e ∈ es.toList := by simpa using he'.1
    have hns : ((dn.map (·.born)).toArray).contains e.born = false := by simpa using he'.2
    have hnd' : e ∉ dn := fun hx => by rw [(hseen e hem).2 hx] at hns; cases hns
    obtain ⟨y, hy, ek, ev⟩ := mapL_keys hi.map hem
    have hs1 : Sat w1 (own b (.map es clock) * (own r (.mapIter (some b) since (dn.map (·.born)).toArray c0) * R)) := by rcases hal with rfl | rfl; exact h; exact h.drew
    have hk1 : Kept w w1 := by rcases hal with rfl | rfl; exact Kept.refl _; exact (Kept.refl w).drew
    have hz1 : w1.heap.size = w.heap.size := by rcases hal with rfl | rfl <;> rfl
    have hpush : ((dn.map (·.born)).toArray).push e.born = ((dn ++ [e]).map (·.born)).toArray := by simp
    have hset : (ChangeMaps.setBlock w1 r (.mapIter (some b) since (((dn.map (·.born)).toArray).push e.born) clock)).heap[r]? = some (.mapIter (some b) since (((dn.map (·.born)).toArray).push e.born) clock) ∧ ∀ i, i ≠ r → (ChangeMaps.setBlock w1 r (.mapIter (some b) since (((dn.map (·.born)).toArray).push e.born) clock)).heap[i]? = w1.heap[i]? := MapKept.heap_set hs1.swap.block
    have hs2 := hs1.swap.upd (o' := .mapIter (some b) since (((dn.map (·.born)).toArray).push e.born) clock) (w' := ChangeMaps.setBlock w1 r (.mapIter (some b) since (((dn.map (·.born)).toArray).push e.born) clock)) hset.1 (fun i hi _ => hset.2 i hi)
    refine ⟨y.1, y.2, ChangeMaps.setBlock w1 r (.mapIter (some b) since (((dn.map (·.born)).toArray).push e.born) clock), ?_, ?_, ?_, hk1.trans ⟨rfl, rfl, rfl⟩, by simp [ChangeMaps.setBlock, hz1], ?_, ?_⟩
    · rw [hrun, ek, ev]
    · exact hy
    · refine ranging1At_shut (since := since) (dn := dn ++ [e]) ⟨hi.map, hi.elder, hi.sc, hi.sc, ?_, ?_, ?_⟩ ?_
      · rw [List.nodup_append]
        refine ⟨hi.nodup, by simp, ?_⟩
        intro a ha b hb e'
        simp only [List.mem_singleton] at hb
        subst hb; subst e'; exact hnd' ha
      · intro x hx
        rcases List.mem_append.1 hx with hx | hx
        · exact hi.sub x hx
        · simp only [List.mem_singleton] at hx; subst hx; exact hem
      · rw [hi.done, List.map_append]
        congr 1
        simp only [List.map_cons, List.map_nil, entOf, ek, ev]
      · rw [← hpush]; exact hs2.swap
    · rw [hi.done, mapL_ents hi.map, List.length_map, List.length_map]
      have := length_le_of_sub (e :: dn) es.toList (List.nodup_cons.2 ⟨hnd', hi.nodup⟩) (fun x hx => by rcases List.mem_cons.1 hx with rfl | hx; exact hem; exact hi.sub x hx)
      simp only [List.length_cons] at this
      omega
    · have := run_entry_at (P := P) _ r b since (dn.map (·.born)).toArray es clock e hset.1 (hs2.swap.block) hem hndb
      rw [ek, ev] at this
      exact this

/-- The entry that came last. -/
theorem entry_last {P : Program} {w : World} {r b : Nat} {l done : List (Int × Value)} {x : Int} {v : Value} {R : Assn} (h : Sat w (ranging1At r b l (done ++ [(x, v)]) * R)) :
    (Instr.entry (.pointer (some ⟨r, 0, none⟩))).run P w = .ok (.tuple #[.int .i64 x, v]) w := by
  obtain ⟨es, clock, since, dn, hi, h⟩ := ranging1At_open h
  have hd := hi.done
  have hl : dn ≠ [] := fun e => by rw [e] at hd; simp at hd
  obtain ⟨dn', e, rfl⟩ : ∃ dn' e, dn = dn' ++ [e] := ⟨dn.dropLast, dn.getLast hl, (List.dropLast_concat_getLast hl).symm⟩
  rw [List.map_append, List.map_cons, List.map_nil] at hd
  have hd2 := (List.append_inj' hd rfl).2
  simp only [List.cons.injEq, and_true] at hd2
  have hem : e ∈ es.toList := hi.sub e (by simp)
  obtain ⟨y, hy, ek, ev⟩ := mapL_keys hi.map hem
  have hndb : (es.toList.map (·.born)).Nodup := ((MapKept.stamped_iff es clock).1 hi.map.2).2.1
  have hpush : ((dn'.map (·.born)).toArray).push e.born = ((dn' ++ [e]).map (·.born)).toArray := by simp
  have hr := h.swap.block
  rw [← hpush] at hr
  have := run_entry_at (P := P) w r b since (dn'.map (·.born)).toArray es clock e hr h.block hem hndb
  rw [this]
  have he : entOf e = (y.1, y.2) := by unfold entOf; rw [ek, ev]
  rw [he] at hd2
  simp only [Prod.mk.injEq] at hd2
  rw [ek, ev, hd2.1, hd2.2]
/-- No key comes twice. -/
theorem ranging_once {w : World} {r b : Nat} {l done : List (Int × Value)} {R : Assn} (h : Sat w (rangingAt r b l done * R)) : (done.map (·.1)).Nodup := by
  obtain ⟨es, clock, since, c0, dn, hi, h⟩ := rangingAt_open h
  have h3 := ((MapKept.stamped_iff es clock).1 hi.map.2).2.2
  rw [hi.done, List.map_map]
  have hinj : ∀ x ∈ dn, ∀ y ∈ dn, (entOf x).1 = (entOf y).1 → x = y := by
    intro x hx y hy e
    obtain ⟨x', _, ex, _⟩ := mapL_keys hi.map (hi.sub x hx)
    obtain ⟨y', _, ey, _⟩ := mapL_keys hi.map (hi.sub y hy)
    simp only [entOf, ex, ey] at e
    exact entry_eq_of_key h3 (hi.sub x hx) (hi.sub y hy) (by rw [ex, ey, e])
  have hn := hi.nodup
  generalize dn = l1 at hinj hn
  induction l1 with
  | nil => exact List.nodup_nil
  | cons a t ih =>
    rw [List.map_cons, List.nodup_cons]
    refine ⟨fun hm => ?_, ih (fun x hx y hy => hinj x (by simp [hx]) y (by simp [hy])) (List.nodup_cons.1 hn).2⟩
    obtain ⟨y, hy, e⟩ := List.mem_map.1 hm
    have := hinj y (by simp [hy]) a (by simp) e
    exact (List.nodup_cons.1 hn).1 (this ▸ hy)
/-- How many are left, read off memory. -/
def rLeft (w : World) (b r : Nat) : Nat := match w.heap[b]?, w.heap[r]? with
  | some (.map es _), some (.mapIter _ _ seen _) => es.size - seen.size
  | _, _ => 0
theorem rLeft_eq {w : World} {r b : Nat} {l done : List (Int × Value)} {R : Assn} (h : Sat w (rangingAt r b l done * R)) : rLeft w b r = l.length - done.length := by
  obtain ⟨es, clock, since, c0, dn, hi, h⟩ := rangingAt_open h
  unfold rLeft
  rw [h.block, h.swap.block, hi.done, mapL_ents hi.map]
  simp

section
variable {P : Program} (w : World) {ops : Array Oper} {rest : List Oper} {o : Oper} {a : Act} {Q : Exit → Act → World → Prop}
theorem wpList_range_at (hg : o.guard = none) (m : Operand) (t k e : TypeId) (hop : o.op = Op.range t m) (ht : P.underlying t = some (.map k e)) (b : Nat) (l : List (Int × Value)) {R : Assn} (hm : a.eval m = .map (some b)) (h : Sat w (mapAt b l * R))
    (hK : ∀ w', Sat w' (rangingAt w.heap.size b l [] * R) → Kept w w' → Below w.heap.size w w' → wpList P ops Q rest (a.put o.dst (.pointer (some ⟨w.heap.size, 0, none⟩))) w') : wpList P ops Q (o :: rest) a w := by
  refine wpList_plain hg fun K' hK' => ?_
  obtain ⟨w', hrun, r1, r2, r3⟩ := run_range ht h
  unfold Oper.wp
  simp [execOp, hop, hm, hrun, Result.andThen]
  exact hK' _ _ (hK w' r1 r2 r3)
theorem wpList_next_at (hg : o.guard = none) (it : Operand) (hop : o.op = Op.next it false) (r b : Nat) (l done : List (Int × Value)) {R : Assn} (hit : a.eval it = .pointer (some ⟨r, 0, none⟩)) (h : Sat w (rangingAt r b l done * R))
    (hDone : done.Perm l → wpList P ops Q rest (a.put o.dst (.tuple #[.bool false])) w)
    (hMore : ∀ x v w', (x, v) ∈ l → Sat w' (rangingAt r b l (done ++ [(x, v)]) * R) → Kept w w' → w'.heap.size = w.heap.size → done.length < l.length → (Instr.entry (.pointer (some ⟨r, 0, none⟩))).run P w' = .ok (.tuple #[.int .i64 x, v]) w' →
      wpList P ops Q rest (a.put o.dst (.tuple #[.bool true, .int .i64 x, v])) w') : wpList P ops Q (o :: rest) a w := by
  refine wpList_plain hg fun K' hK' => ?_
  unfold Oper.wp
  rcases run_next (P := P) o.type h with ⟨hrun, hp⟩ | ⟨x, v, w', hrun, hm, hs, hk, hz, hlt, hen⟩
  · simp [execOp, hop, hit, hrun, Result.andThen]
    exact hK' _ _ (hDone hp)
  · simp [execOp, hop, hit, hrun, Result.andThen]
    exact hK' _ _ (hMore x v w' hm hs hk hz hlt hen)
end
end Go.Proofs.Ytnkikhhiaecebaa
