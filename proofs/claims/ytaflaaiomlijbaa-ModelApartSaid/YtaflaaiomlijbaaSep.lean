/- Assertions on memory that are joined side by side: which blocks there are, each told once. No program in sight. -/
import Derived.Below
import Derived.Laws.AppendOwn
import Derived.Laws.OwnMore
import Derived.WalkSmall
set_option linter.all false
namespace Go.Proofs.Ytaflaaiomlijbaa
open Go Go.RowKit

/-- Some of a world's blocks. -/
def Part : Type := Nat → Option Obj
def Part.none : Part := fun _ => Option.none
def Part.one (b : Nat) (o : Obj) : Part := fun x => if x = b then some o else Option.none
def Part.join (g h : Part) : Part := fun x => match g x with | some o => some o | Option.none => h x
def Part.apart (g h : Part) : Prop := ∀ x, g x = Option.none ∨ h x = Option.none
/-- What is told of some blocks. -/
def Assn : Type := Part → Prop
def Assn.sep (P Q : Assn) : Assn := fun h => ∃ a b, Part.apart a b ∧ h = Part.join a b ∧ P a ∧ Q b
instance : Mul Assn := ⟨Assn.sep⟩
def Assn.emp : Assn := fun h => h = Part.none
instance : One Assn := ⟨Assn.emp⟩
/-- The block b holds the object o. -/
def own (b : Nat) (o : Obj) : Assn := fun h => h = Part.one b o
def Assn.ex {α : Type} (f : α → Assn) : Assn := fun h => ∃ a, f a h
def Assn.pure (p : Prop) : Assn := fun h => p ∧ h = Part.none
/-- All blocks that a world had. -/
def old (W : World) : Assn := fun h => h = fun x => W.heap[x]?

theorem Part.join_comm {g h : Part} (a : Part.apart g h) : Part.join g h = Part.join h g := by
  funext x
  rcases a x with e | e <;> simp only [Part.join, e]
  · cases h x <;> rfl
  · cases g x <;> rfl
theorem Part.apart_comm {g h : Part} (a : Part.apart g h) : Part.apart h g := fun x => (a x).symm
theorem Part.join_assoc (f g h : Part) : Part.join (Part.join f g) h = Part.join f (Part.join g h) := by
  funext x; simp only [Part.join]; cases f x <;> rfl
theorem Part.apart_join {f g h : Part} : Part.apart (Part.join f g) h ↔ Part.apart f h ∧ Part.apart g h := by
  constructor
  · intro a
    refine ⟨fun x => ?_, fun x => ?_⟩
    · rcases a x with e | e
      · simp only [Part.join] at e
        cases hf : f x with
        | none => exact .inl rfl
        | some o => rw [hf] at e; cases e
      · exact .inr e
    · rcases a x with e | e
      · simp only [Part.join] at e
        cases hf : f x with
        | none => rw [hf] at e; exact .inl e
        | some o => rw [hf] at e; cases e
      · exact .inr e
  · rintro ⟨a, b⟩ x
    rcases a x with e | e
    · rcases b x with e' | e'
      · left; simp only [Part.join, e, e']
      · exact .inr e'
    · exact .inr e
theorem Part.apart_join' {f g h : Part} : Part.apart h (Part.join f g) ↔ Part.apart h f ∧ Part.apart h g :=
  ⟨fun a => let b := Part.apart_join.1 (Part.apart_comm a); ⟨Part.apart_comm b.1, Part.apart_comm b.2⟩, fun a => Part.apart_comm (Part.apart_join.2 ⟨Part.apart_comm a.1, Part.apart_comm a.2⟩)⟩
theorem Part.none_join (h : Part) : Part.join Part.none h = h := rfl
theorem Part.join_none (h : Part) : Part.join h Part.none = h := by funext x; simp only [Part.join, Part.none]; cases h x <;> rfl
theorem Part.apart_none (h : Part) : Part.apart Part.none h := fun _ => .inl rfl

theorem Assn.mul_def (P Q : Assn) (h : Part) : (P * Q) h ↔ ∃ a b, Part.apart a b ∧ h = Part.join a b ∧ P a ∧ Q b := Iff.rfl
theorem Assn.ext {P Q : Assn} (h : ∀ x, P x ↔ Q x) : P = Q := funext fun x => propext (h x)
theorem Assn.mul_comm (P Q : Assn) : P * Q = Q * P := Assn.ext fun _ =>
  ⟨fun ⟨a, b, d, e, p, q⟩ => ⟨b, a, Part.apart_comm d, e.trans (Part.join_comm d), q, p⟩, fun ⟨a, b, d, e, p, q⟩ => ⟨b, a, Part.apart_comm d, e.trans (Part.join_comm d), q, p⟩⟩
theorem Assn.mul_assoc (P Q R : Assn) : P * Q * R = P * (Q * R) := Assn.ext fun h => by
  constructor
  · rintro ⟨ab, c, d, rfl, ⟨a, b, d', rfl, p, q⟩, r⟩
    obtain ⟨d1, d2⟩ := Part.apart_join.1 d
    exact ⟨a, Part.join b c, Part.apart_join'.2 ⟨d', d1⟩, Part.join_assoc _ _ _, p, b, c, d2, rfl, q, r⟩
  · rintro ⟨a, bc, d, rfl, p, b, c, d', rfl, q, r⟩
    obtain ⟨d1, d2⟩ := Part.apart_join'.1 d
    exact ⟨Part.join a b, c, Part.apart_join.2 ⟨d2, d'⟩, (Part.join_assoc _ _ _).symm, ⟨a, b, d1, rfl, p, q⟩, r⟩
theorem Assn.one_mul (P : Assn) : 1 * P = P := Assn.ext fun h => by
  constructor
  · rintro ⟨a, b, _, rfl, rfl, q⟩; exact q
  · intro q; exact ⟨Part.none, h, Part.apart_none _, rfl, rfl, q⟩
theorem Assn.mul_one (P : Assn) : P * 1 = P := by rw [Assn.mul_comm]; exact Assn.one_mul P
theorem Assn.mul_left_comm (P Q R : Assn) : P * (Q * R) = Q * (P * R) := by rw [← Assn.mul_assoc, Assn.mul_comm P Q, Assn.mul_assoc]
instance : Std.Associative (α := Assn) (· * ·) := ⟨Assn.mul_assoc⟩
instance : Std.Commutative (α := Assn) (· * ·) := ⟨Assn.mul_comm⟩
theorem Assn.ex_mul {α : Type} (f : α → Assn) (Q : Assn) : Assn.ex f * Q = Assn.ex fun a => f a * Q := Assn.ext fun _ =>
  ⟨fun ⟨a, b, d, e, ⟨x, p⟩, q⟩ => ⟨x, a, b, d, e, p, q⟩, fun ⟨x, a, b, d, e, p, q⟩ => ⟨a, b, d, e, ⟨x, p⟩, q⟩⟩
theorem Assn.mul_ex {α : Type} (f : α → Assn) (Q : Assn) : Q * Assn.ex f = Assn.ex fun a => Q * f a := by
  rw [Assn.mul_comm, Assn.ex_mul]; congr 1; funext a; exact Assn.mul_comm _ _

/-- The world has, among its blocks, what is told. -/
def Sat (w : World) (P : Assn) : Prop := ∃ h, P h ∧ ∀ b o, h b = some o → w.heap[b]? = some o

theorem Sat.cast {w : World} {P Q : Assn} (h : Sat w P) (e : P = Q) : Sat w Q := e ▸ h
theorem Sat.ex {w : World} {α : Type} {f : α → Assn} (h : Sat w (Assn.ex f)) : ∃ a, Sat w (f a) := by obtain ⟨h, ⟨a, p⟩, k⟩ := h; exact ⟨a, h, p, k⟩
theorem Sat.mk_ex {w : World} {α : Type} {f : α → Assn} (a : α) (h : Sat w (f a)) : Sat w (Assn.ex f) := by obtain ⟨h, p, k⟩ := h; exact ⟨h, ⟨a, p⟩, k⟩
theorem Sat.ex_mul {w : World} {α : Type} {f : α → Assn} {R : Assn} (h : Sat w (Assn.ex f * R)) : ∃ a, Sat w (f a * R) := (h.cast (Assn.ex_mul f R)).ex
theorem Sat.mk_ex_mul {w : World} {α : Type} {f : α → Assn} {R : Assn} (a : α) (h : Sat w (f a * R)) : Sat w (Assn.ex f * R) := (Sat.mk_ex (f := fun a => f a * R) a h).cast (Assn.ex_mul f R).symm
theorem Assn.pure_mul (p : Prop) (hp : p) (R : Assn) : Assn.pure p * R = R := Assn.ext fun h => by
  constructor
  · rintro ⟨a, b, _, rfl, ⟨_, rfl⟩, q⟩; exact q
  · intro q; exact ⟨Part.none, h, Part.apart_none _, rfl, ⟨hp, rfl⟩, q⟩
theorem Sat.pure_mul {w : World} {p : Prop} {R : Assn} (h : Sat w (Assn.pure p * R)) : p ∧ Sat w R := by
  obtain ⟨_, ⟨a, b, _, rfl, ⟨hp, rfl⟩, q⟩, k⟩ := h
  exact ⟨hp, b, q, k⟩
theorem Sat.mk_pure_mul {w : World} {p : Prop} {R : Assn} (hp : p) (h : Sat w R) : Sat w (Assn.pure p * R) := h.cast (Assn.pure_mul p hp R).symm
theorem Sat.mono {w : World} {P Q R : Assn} (h : Sat w (P * R)) (m : ∀ x, P x → Q x) : Sat w (Q * R) := by
  obtain ⟨x, ⟨a, b, d, e, p, q⟩, k⟩ := h
  exact ⟨x, ⟨a, b, d, e, m a p, q⟩, k⟩
/-- What is told beside may be forgotten. -/
theorem Sat.left {w : World} {P R : Assn} (h : Sat w (P * R)) : Sat w P := by
  obtain ⟨x, ⟨a, b, d, rfl, p, q⟩, k⟩ := h
  refine ⟨a, p, fun i o ha => k i o ?_⟩
  simp only [Part.join, ha]
theorem Sat.right {w : World} {P R : Assn} (h : Sat w (P * R)) : Sat w R := Sat.left (h.cast (Assn.mul_comm _ _))

theorem Sat.block {w : World} {b : Nat} {o : Obj} {R : Assn} (h : Sat w (own b o * R)) : w.heap[b]? = some o := by
  obtain ⟨x, p, k⟩ := h.left
  have p' : x = Part.one b o := p
  subst p'
  exact k b o (by simp [Part.one])
theorem Sat.lt {w : World} {b : Nat} {o : Obj} {R : Assn} (h : Sat w (own b o * R)) : b < w.heap.size := by
  have e := h.block
  rcases Nat.lt_or_ge b w.heap.size with h' | h'
  · exact h'
  · simp [Array.getElem?_eq_none h'] at e
theorem Sat.ne {w : World} {b c : Nat} {o p : Obj} {R : Assn} (h : Sat w (own b o * (own c p * R))) : b ≠ c := by
  rintro rfl
  obtain ⟨x, ⟨a, y, d, _, ha, e, z, _, he, hz, _⟩, _⟩ := h
  have ha' : a = Part.one b o := ha
  have hz' : e = Part.one b p := hz
  subst ha' hz'
  rcases d b with e | e
  · simp [Part.one] at e
  · rw [he] at e; simp [Part.join, Part.one] at e
theorem Sat.cell {w : World} {b : Nat} {c : Array Value} {t : TypeId} {f : Nat × Nat} {R : Assn} (h : Sat w (own b (.cells c t f) * R)) (i : Nat) : w.cell? ⟨b, i, none⟩ = c[i]? := by
  simp [World.cell?, h.block]
theorem Sat.free {w : World} {b : Nat} {c : Array Value} {t : TypeId} {R : Assn} (h : Sat w (own b (.cells c t (0, 0)) * R)) (i : Nat) : w.frozen? ⟨b, i, none⟩ = false := by
  simp [World.frozen?, h.block]

/-- A world of the same blocks, whatever was drawn. -/
theorem Sat.draws {w : World} {P : Assn} (h : Sat w P) (n : Nat) : Sat (w.drewN n) P := h
theorem Sat.drew {w : World} {P : Assn} (h : Sat w P) : Sat w.drew P := h
/-- Each block that is told of is one of the world's. -/
theorem Sat.alloc {w : World} {P : Assn} (h : Sat w P) (o : Obj) : Sat (w.alloc o) (own w.heap.size o * P) := by
  obtain ⟨x, p, k⟩ := h
  have hlt : ∀ i y, x i = some y → i < w.heap.size := fun i y e => by
    have := k i y e
    rcases Nat.lt_or_ge i w.heap.size with h' | h'
    · exact h'
    · simp [Array.getElem?_eq_none h'] at this
  have hd : Part.apart (Part.one w.heap.size o) x := fun i => by
    by_cases e : i = w.heap.size
    · right
      cases hx : x i with
      | none => rfl
      | some y => have := hlt i y hx; omega
    · left; simp [Part.one, e]
  refine ⟨Part.join (Part.one w.heap.size o) x, ⟨_, x, hd, rfl, rfl, p⟩, fun i y e => ?_⟩
  simp only [Part.join, Part.one] at e
  by_cases hi : i = w.heap.size
  · subst hi; simp at e; subst e; exact heap_alloc_new w o
  · simp [hi] at e
    rw [Below.heap_alloc _ _ _ (hlt i y e)]; exact k i y e
theorem Sat.upd {w w' : World} {b : Nat} {o o' : Obj} {R : Assn} (h : Sat w (own b o * R)) (hb : w'.heap[b]? = some o') (hr : ∀ i, i ≠ b → i < w.heap.size → w'.heap[i]? = w.heap[i]?) : Sat w' (own b o' * R) := by
  obtain ⟨x, ⟨a, y, d, rfl, ha, q⟩, k⟩ := h
  have ha' : a = Part.one b o := ha
  subst ha'
  have d' : Part.apart (Part.one b o') y := fun i => by
    rcases d i with e | e
    · left; simp only [Part.one] at e ⊢; split at e <;> simp_all
    · exact .inr e
  refine ⟨Part.join (Part.one b o') y, ⟨_, y, d', rfl, rfl, q⟩, fun i z e => ?_⟩
  simp only [Part.join, Part.one] at e
  by_cases hi : i = b
  · subst hi; simp at e; subst e; exact hb
  · simp [hi] at e
    have hz := k i z (by simp [Part.join, Part.one, hi, e])
    have hlt : i < w.heap.size := by
      rcases Nat.lt_or_ge i w.heap.size with h' | h'
      · exact h'
      · simp [Array.getElem?_eq_none h'] at hz
    rw [hr i hi hlt]; exact hz
theorem Sat.set {w : World} {b : Nat} {c : Array Value} {t : TypeId} {f : Nat × Nat} {R : Assn} (h : Sat w (own b (.cells c t f) * R)) (i : Nat) (v : Value) :
    Sat (w.setCell ⟨b, i, none⟩ v) (own b (.cells (c.setIfInBounds i v) t f) * R) := by
  have hb := h.block
  refine h.upd ?_ fun j hj hlt => Below.heap_setCell _ _ _ _ hj
  have hlt := h.lt
  have h' : w.heap[b] = .cells c t f := by simpa [Array.getElem?_eq_getElem hlt] using hb
  show (w.heap.modify b _)[b]? = _
  rw [Array.getElem?_eq_getElem (by simpa using hlt), Array.getElem_modify_self, h']
  rfl
/-- A store into a block that is not the first one told of: it goes by. -/
theorem Sat.swap {w : World} {P Q R : Assn} (h : Sat w (P * (Q * R))) : Sat w (Q * (P * R)) := h.cast (Assn.mul_left_comm P Q R)

/-- Behind a call that only adds blocks. -/
theorem Sat.below {w w' : World} {P : Assn} (h : Sat w P) (hb : Below w.heap.size w w') : Sat w' P := by
  obtain ⟨x, p, k⟩ := h
  refine ⟨x, p, fun i o e => ?_⟩
  have := k i o e
  have hlt : i < w.heap.size := by
    rcases Nat.lt_or_ge i w.heap.size with h' | h'
    · exact h'
    · simp [Array.getElem?_eq_none h'] at this
  rw [hb.block i hlt]; exact this
theorem Sat.old (W : World) : Sat W (old W) := ⟨_, rfl, fun _ _ e => e⟩

/-- What a call never turns: the outside, the tape. -/
structure Kept (w w' : World) : Prop where
  os : w'.os = w.os
  tape : w'.tape = w.tape
  output : w'.output = w.output
theorem Kept.refl (w : World) : Kept w w := ⟨rfl, rfl, rfl⟩
theorem Kept.trans {a b c : World} (h : Kept a b) (k : Kept b c) : Kept a c := ⟨k.os.trans h.os, k.tape.trans h.tape, k.output.trans h.output⟩
theorem Kept.alloc {a w : World} (h : Kept a w) (o : Obj) : Kept a (w.alloc o) := ⟨h.os, h.tape, h.output⟩
theorem Kept.setCell {a w : World} (h : Kept a w) (p : Addr) (v : Value) : Kept a (w.setCell p v) := ⟨h.os, h.tape, h.output⟩
theorem Kept.draws {a w : World} (h : Kept a w) (n : Nat) : Kept a (w.drewN n) := ⟨h.os, h.tape, h.output⟩
theorem Kept.drew {a w : World} (h : Kept a w) : Kept a w.drew := ⟨h.os, h.tape, h.output⟩
theorem Kept.below {B : Nat} {a w w' : World} (h : Kept a w) (hb : Below B w w') : Kept a w' := h.trans ⟨hb.os, hb.tape, hb.output⟩
/-- At the end: all blocks that there were are there unturned. -/
theorem Below.of_old {W w : World} {P : Assn} (h : Sat w (P * old W)) (k : Kept W w) : Below W.heap.size W w := by
  obtain ⟨x, p, q⟩ := h.right
  have p' : x = fun i => W.heap[i]? := p
  subst p'
  have hb : ∀ i, i < W.heap.size → w.heap[i]? = W.heap[i]? := fun i hi => by
    have e : W.heap[i]? = some W.heap[i] := by simp
    rw [e]; exact q i _ e
  refine ⟨k.os, k.tape, k.output, ?_, hb⟩
  rcases Nat.eq_zero_or_pos W.heap.size with h0 | h0
  · omega
  · have e := hb (W.heap.size - 1) (by omega)
    rcases Nat.lt_or_ge (W.heap.size - 1) w.heap.size with h1 | h1
    · omega
    · rw [Array.getElem?_eq_none h1] at e
      have : W.heap[W.heap.size - 1]? = some W.heap[W.heap.size - 1] := by simp
      rw [this] at e; cases e
end Go.Proofs.Ytaflaaiomlijbaa
