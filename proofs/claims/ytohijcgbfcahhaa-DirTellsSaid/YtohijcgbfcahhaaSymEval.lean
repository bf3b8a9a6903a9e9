/- The executor: one quiet operation, whichever. -/
import Derived.Test.YtohijcgbfcahhaaSymOp5
namespace Go.Proofs.Ytohijcgbfcahhaa
open Go Go.RowKit

section
variable {E : EXT} {P : Program}

def SF.cellsOf (f : SF) : List Operand → Option (List SC)
  | [] => some []
  | x :: l => match f.opv x with
    | .c y => match SF.cellsOf f l with
      | some r => some (y :: r)
      | none => none
    | _ => none
theorem cellsOf_den (ν : Nat → Nat) (f : SF) : ∀ (l : List Operand) (r : List SC), f.cellsOf l = some r → l.map (actOf ν f).eval = SC.denL ν r
  | [], r, h => by simp only [SF.cellsOf, Option.some.injEq] at h; subst h; rfl
  | x :: l, r, h => by
    simp only [SF.cellsOf] at h
    split at h <;> try cases h
    rename_i y hy
    split at h <;> try cases h
    rename_i r' hr
    rw [List.map_cons, cellsOf_den ν f l r' hr, eval_opv, hy]
    rfl
def concreteV (P : Program) (t : TypeId) : Bool := P.concrete t

/-- An operation that leaves the memory as it is: what it gives. -/
def evalOp (P : Program) (wr : Bool) (f : SF) (h : SH E) (o : Oper) : PV :=
  match o.op with
  | .move x => .ok (f.opv x)
  | .assign x => .ok (f.opv x)
  | .pick c a b => match f.opv c with
    | .c (.boo l q) => bif l then .ok (if q then f.opv a else f.opv b) else .split q (f.opv a) (f.opv b)
    | _ => .no 1
  | .load t a => loadV P h t (f.opv a)
  | .nilCheck x => nilCheckV (f.opv x)
  | .binOp op t x y _ => binV P wr op t (f.opv x) (f.opv y)
  | .unOp op _ x => unV wr op (f.opv x)
  | .convert s d x => convV P wr s d (f.opv x)
  | .extract x i => extractV (f.opv x) i
  | .fieldAddr s x i => fieldAddrV P s (f.opv x) i
  | .field s x i => fieldV P s (f.opv x) i
  | .indexAddr t x i => indexAddrV P t (f.opv x) (f.opv i)
  | .build t ps => match builtS P t (ps.toList.map fun p => (p.1, f.opv p.2)) with
    | some l => .ok (.agg l)
    | none => .no 2
  | .makeFunc g a c => match f.cellsOf a.toList with
    | some a => match f.cellsOf c.toList with
      | some c => .ok (.c (.fn g a c))
      | none => .no 3
    | none => .no 4
  | .slice t x lo hi none => sliceV P t (f.opv x) (lo.map f.opv) (hi.map f.opv)
  | .makeInterface t x => match f.opv x with
    | .c y => bif P.concrete t then .ok (.c (.ifc t y)) else .no 5
    | _ => .no 6
  | .call { callee := .builtin b, args := as, argTypes := ts } => match b with
    | .len => match as.toList with
      | [x] => lenV P ts (f.opv x)
      | _ => .no 7
    | .min => match as.toList with
      | [x, y] => mmV false (f.opv x) (f.opv y)
      | _ => .no 8
    | .max => match as.toList with
      | [x, y] => mmV true (f.opv x) (f.opv y)
      | _ => .no 9
    | _ => .no 11
  | _ => .no 11

theorem arr_one {α : Type} {a : Array α} {x : α} (h : a.toList = [x]) : a = #[x] := by cases a; simp at h; subst h; rfl
theorem arr_two {α : Type} {a : Array α} {x y : α} (h : a.toList = [x, y]) : a = #[x, y] := by cases a; simp at h; subst h; rfl
theorem evalOp_sound {wr : Bool} {f : SF} {h : SH E} {o : Oper} {v : SV} (hg : (evalOp P wr f h o).gives v) {ν : Nat → Nat} {w : World} {R : Assn} (H : Sat w (h.den ν * R)) :
    (execOp (actOf ν f).eval o).run P w = .ok (.value (v.den ν)) w := by
  unfold evalOp at hg
  split at hg
  case h_1 ho => simp only [PV.gives] at hg; subst hg; simp [execOp, ho, eval_opv]
  case h_2 ho => simp only [PV.gives] at hg; subst hg; simp [execOp, ho, eval_opv]
  case h_3 c a b ho =>
    split at hg <;> try exact hg.elim
    rename_i l q hc
    have e : (actOf ν f).eval c = .bool q := by rw [eval_opv, hc]; rfl
    cases l <;> simp only [cond_true, cond_false, PV.gives] at hg
    · rcases hg with ⟨hq, rfl⟩ | ⟨hq, rfl⟩ <;> simp [execOp, ho, e, hq, asBool, eval_opv]
    · subst hg
      cases q <;> simp [execOp, ho, e, asBool, eval_opv]
  case h_4 t a ho => simp only [execOp, ho, Sem.run_bind, eval_opv, loadV_sound hg H, Result.andThen_ok, Sem.run_pure]
  case h_5 x ho => exact nilCheckV_sound hg ν w f o x ho rfl
  case h_6 op t x y _ ho =>
    have := binV_sound hg ν w x y
    simp only [execOp, ho, Sem.run_bind, eval_opv, this.1, this.2, Result.andThen_ok, Sem.run_pure]
  case h_7 op _ x ho => simp only [execOp, ho, Sem.run_bind, eval_opv, unV_sound hg ν w, Result.andThen_ok, Sem.run_pure]
  case h_8 s d x ho => simp only [execOp, ho, Sem.run_bind, eval_opv, convV_sound hg ν w, Result.andThen_ok, Sem.run_pure]
  case h_9 x i ho => simp only [execOp, ho, Sem.run_bind, eval_opv, extractV_sound hg ν w, Result.andThen_ok, Sem.run_pure]
  case h_10 s x i ho => simp only [execOp, ho, Sem.run_bind, eval_opv, fieldAddrV_sound hg ν w, Result.andThen_ok, Sem.run_pure]
  case h_11 s x i ho => simp only [execOp, ho, Sem.run_bind, eval_opv, fieldV_sound hg ν w, Result.andThen_ok, Sem.run_pure]
  case h_12 t x i ho => simp only [execOp, ho, Sem.run_bind, eval_opv, indexAddrV_sound hg ν w, Result.andThen_ok, Sem.run_pure]
  case h_13 t ps ho =>
    split at hg <;> try exact hg.elim
    rename_i l hl
    simp only [PV.gives] at hg
    subst hg
    have hb := builtS_den hl ν
    have e : (ps.map fun p => (p.1, (actOf ν f).eval p.2)).toList = (ps.toList.map fun p => (p.1, f.opv p.2)).map fun p => (p.1, p.2.den ν) := by
      simp [eval_opv]
    rw [← e] at hb
    simp only [execOp, ho, Sem.run_bind]
    rw [run_build w t _ _ hb]
    rfl
  case h_14 g a c ho =>
    split at hg <;> try exact hg.elim
    rename_i a' ha
    split at hg <;> try exact hg.elim
    rename_i c' hc
    simp only [PV.gives] at hg
    subst hg
    have h1 := cellsOf_den ν f _ _ ha
    have h2 := cellsOf_den ν f _ _ hc
    have e1 : a.map (actOf ν f).eval = (SC.denL ν a').toArray := by rw [← h1, ← Array.toList_map, Array.toArray_toList]
    have e2 : c.map (actOf ν f).eval = (SC.denL ν c').toArray := by rw [← h2, ← Array.toList_map, Array.toArray_toList]
    simp only [execOp, ho, Instr.makeFunc, e1, e2]
    simp [SV.den, SC.den]
  case h_15 t x lo hi ho =>
    have := sliceV_sound hg ν w
    have e1 : ∀ z : Option Operand, (z.map f.opv).map (SV.den ν) = z.map (actOf ν f).eval := fun z => by cases z <;> simp [eval_opv]
    rw [e1, e1] at this
    simp only [execOp, ho, Sem.run_bind, eval_opv, Option.map_none, this, Result.andThen_ok, Sem.run_pure]
  case h_16 t x ho =>
    split at hg <;> try exact hg.elim
    rename_i y hy
    cases hc : P.concrete t <;> rw [hc] at hg
    · exact hg.elim
    · simp only [cond_true, PV.gives] at hg
      subst hg
      simp only [execOp, ho, Sem.run_bind, eval_opv, hy, run_makeInterface w t _ hc, Result.andThen_ok, Sem.run_pure]
      simp [SV.den, SC.den]
  case h_17 b as ts ho =>
    split at hg
    · split at hg <;> try exact hg.elim
      rename_i x hx
      obtain rfl := arr_one hx
      have := lenV_sound hg ν w o.type
      simp [execOp, ho, resolve, invoke, builtin, eval_opv, this]
    · split at hg <;> try exact hg.elim
      rename_i x y hx
      obtain rfl := arr_two hx
      obtain ⟨k, k', a, b, h1, h2, h3⟩ := mmV_den hg ν
      have := Lib.run_min_ints (P := P) w ts o.type k k' a b
      simp [execOp, ho, resolve, invoke, builtin, eval_opv, h1, h2, h3, this]
    · split at hg <;> try exact hg.elim
      rename_i x y hx
      obtain rfl := arr_two hx
      obtain ⟨k, k', a, b, h1, h2, h3⟩ := mmV_den hg ν
      have := Lib.run_max_ints (P := P) w ts o.type k k' a b
      simp [execOp, ho, resolve, invoke, builtin, eval_opv, h1, h2, h3, this]
    · exact hg.elim
  case h_18 => exact hg.elim
end
end Go.Proofs.Ytohijcgbfcahhaa
