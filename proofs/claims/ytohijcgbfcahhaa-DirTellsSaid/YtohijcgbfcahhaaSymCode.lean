/- The executor: operations, regions. -/
import Derived.Test.YtohijcgbfcahhaaSymApp
import Derived.Test.YtohijcgbfcahhaaAnyL
import Derived.LoopN
namespace Go.Proofs.Ytohijcgbfcahhaa
open Go Go.RowKit

structure Mem (E : EXT) where
  hp : SH E
  nx : Nat

/-- What the prover tells: of each test that is not decided which way it goes (or both); of each loop what holds at its head. -/
inductive Scr (E : EXT) : Type 1 where
  | nil
  | stop
  | t (s : Scr E)
  | f (s : Scr E)
  | both (a b : Scr E)
  | case (slot : Nat) (yes no : Scr E)
  | inv (dead : Nat → Bool) (use : List Nat) (Y : Type) (I : Nat → Y → List (Nat × SV) × List (Nat × SO E)) (mu : Y → Nat) (body : Y → Scr E)
  | cut (id : Nat) (dead : Nat → Bool) (use : List Nat) (Y : Type) (I : Nat → Y → List (Nat × SV) × List (Nat × SO E)) (first : Scr E) (rest : Y → Scr E)

abbrev KO (E : EXT) := SF → Mem E → Scr E → Prop
abbrev KV (E : EXT) := SV → Mem E → Scr E → Prop
abbrev CallF (E : EXT) := FuncId → List SV → Mem E → Scr E → KV E → Prop

section
variable {E : EXT} {P : Program}

def onTest (b : Bool) (s : Scr E) (yes no : Scr E → Prop) : Prop :=
  match s with
  | .t s => b = true ∧ yes s
  | .f s => b = false ∧ no s
  | .both x y => (b = true → yes x) ∧ (b = false → no y)
  | s => (b = true → yes s) ∧ (b = false → no s)
theorem onTest_sound {b : Bool} {s : Scr E} {yes no : Scr E → Prop} (h : onTest b s yes no) : (b = true ∧ ∃ s, yes s) ∨ (b = false ∧ ∃ s, no s) := by
  unfold onTest at h
  split at h
  · exact .inl ⟨h.1, _, h.2⟩
  · exact .inr ⟨h.1, _, h.2⟩
  · cases b
    · exact .inr ⟨rfl, _, h.2 rfl⟩
    · exact .inl ⟨rfl, _, h.1 rfl⟩
  · cases b
    · exact .inr ⟨rfl, _, h.2 rfl⟩
    · exact .inl ⟨rfl, _, h.1 rfl⟩

/-- Behind an operation, a region. -/
def GoodR (K : KO E) (n : Nat) (ν : Nat → Nat) (R : Assn) (w0 : World) (a : Act) (w : World) : Prop :=
  ∃ f m s μ, K f m s ∧ Agree n ν μ ∧ n ≤ m.nx ∧ a = actOf μ f ∧ Sat w (m.hp.den μ * R) ∧ Kept w0 w
def CallOk (P : Program) (call : CallF E) : Prop := ∀ g args m s K, call g args m s K → ∀ ν w R w0, Sat w (m.hp.den ν * R) → Kept w0 w →
  Calls P g (args.map (SV.den ν)).toArray w fun e w' => ∃ v m' s' μ, K v m' s' ∧ Agree m.nx ν μ ∧ m.nx ≤ m'.nx ∧ e = .returned (v.den μ) ∧ Sat w' (m'.hp.den μ * R) ∧ Kept w0 w'
/-- No function of the program is one that the model answers by itself. -/
def NamesOk (P : Program) : Prop := ∀ (g : Nat) (fn : Func), P.funcs[g]? = some fn → fn.body.isSome = true → (fn.name == "runtime.NumGoroutine") = false

def topOf (m : Mem E) (top : Nat) : Nat := if m.nx ≤ top then top else m.nx
theorem topOf_ge (m : Mem E) (top : Nat) : m.nx ≤ topOf m top ∧ top ≤ topOf m top := by unfold topOf; split <;> omega
def callE (P : Program) (call : CallF E) (f : SF) (m : Mem E) (s : Scr E) (top : Nat) (g : FuncId) (args : List SV) (d : Option Nat) (K : KO E) : Prop :=
  match P.funcs[g]? with
  | some fn => match fn.body with
    | some _ => bif f.names.all fun n => Nat.blt n (topOf m top) then call g args ⟨m.hp, topOf m top⟩ s fun v m' s' => K (f.set d v) m' s' else Stuck 340
    | none => Stuck 341
  | none => Stuck 342
def effE (P : Program) (call : CallF E) (f : SF) (m : Mem E) (s : Scr E) (nm top : Nat) (o : Oper) (K : KO E) : Prop :=
  match o.op with
  | .store t a v => storeE P f m.hp t (f.opv a) (f.opv v) fun f h => K (f.set o.dst .und) ⟨h, m.nx⟩ s
  | .alloc t => allocE P f m.hp nm t o.dst fun f h => K f ⟨h, m.nx⟩ s
  | .box t v => boxE f m.hp nm t (f.opv v) o.dst fun f h => K f ⟨h, m.nx⟩ s
  | .buildSlice t n ps => buildE P f m.hp nm t n (ps.toList.map fun p => (p.1, f.opv p.2)) o.dst fun f h => K f ⟨h, m.nx⟩ s
  | .makeSlice t l c => makeE P f m.hp nm t (f.opv l) (f.opv c) o.dst fun f h => K f ⟨h, m.nx⟩ s
  | .call { callee := .value x, args := as, argTypes := _ } => match f.opv x with
    | .c (.fn (.func g) a c) => callE P call f m s top g (a.map SV.c ++ (as.toList.map f.opv ++ c.map SV.c)) o.dst K
    | _ => Stuck 350
  | .call { callee := .builtin .append, args := as, argTypes := ts } => match as.toList with
    | [x, y] => match ts.toList with
      | [t, t'] => if t = t' then appendE P f m.hp nm t (f.opv x) (f.opv y) o.dst fun f h => K f ⟨h, m.nx⟩ s else Stuck 352
      | _ => Stuck 353
    | _ => Stuck 354
  | _ => Stuck 351
/-- One operation. -/
def opE (P : Program) (call : CallF E) (wr : Nat → Bool) (f : SF) (m : Mem E) (s : Scr E) (nm top : Nat) (o : Oper) (K : KO E) : Prop :=
  match evalOp P (wr (o.dst.getD 0)) f m.hp o with
  | .ok v => K (f.set o.dst v) m s
  | .need p v => p ∧ K (f.set o.dst v) m s
  | .split b x y => onTest b s (fun s => K (f.set o.dst x) m s) (fun s => K (f.set o.dst y) m s)
  | .no 11 => effE P call f m s nm top o K
  | .no n => Stuck n

theorem GoodR.of_goes {K : KO E} {m : Mem E} {s : Scr E} {n : Nat} (hn : n ≤ m.nx) {ν : Nat → Nat} {R : Assn} {w0 : World} {a : Act} {w : World} (h : Goes (fun f h => K f ⟨h, m.nx⟩ s) n ν R w0 a w) : GoodR K n ν R w0 a w := by
  obtain ⟨f, h, μ, k, ag, ha, hs, hk⟩ := h
  exact ⟨f, ⟨h, m.nx⟩, s, μ, k, ag, hn, ha, hs, hk⟩
theorem names_lt {l : List Nat} {n : Nat} (h : l.all (fun m => Nat.blt m n) = true) {ν μ : Nat → Nat} (ha : Agree n ν μ) : ∀ m ∈ l, ν m = μ m := fun m hm => by
  have := List.all_eq_true.1 h m hm
  simp only [Nat.blt_eq] at this
  exact (ha m this).symm
theorem callE_sound {call : CallF E} (hc : CallOk P call) (hf : NamesOk P) {f : SF} {m : Mem E} {s : Scr E} {n top : Nat} (hn : n ≤ m.nx) {g : FuncId} {args : List SV} {d : Option Nat} {K : KO E} (hk : callE P call f m s top g args d K)
    {ν : Nat → Nat} {w w0 : World} {R : Assn} (H : Sat w (m.hp.den ν * R)) (HK : Kept w0 w) :
    ∃ fn, P.funcs[g]? = some fn ∧ fn.body.isNone = false ∧ (fn.name == "runtime.NumGoroutine") = false ∧
      Calls P g (args.map (SV.den ν)).toArray w fun e w' => ∃ v, e = .returned v ∧ GoodR K n ν R w0 ((actOf ν f).put d v) w' := by
  unfold callE at hk
  split at hk <;> try exact hk.elim
  rename_i fn hfn
  split at hk <;> try exact hk.elim
  rename_i c hb
  refine ⟨fn, hfn, by simp [hb], hf g fn hfn (by simp [hb]), ?_⟩
  cases ht : f.names.all fun n => Nat.blt n (topOf m top) <;> rw [ht] at hk
  · exact hk.elim
  simp only [cond_true] at hk
  refine (hc _ _ _ _ _ hk ν w R w0 H HK).mono ?_
  rintro e w' ⟨v, m', s', μ, k, ag, hnx, rfl, hs, hk'⟩
  simp only at ag hnx
  refine ⟨_, rfl, _, m', s', μ, k, ?_, ?_, ?_, hs, hk'⟩
  · exact fun i hi => ag i (Nat.lt_of_lt_of_le hi (Nat.le_trans hn (topOf_ge m top).1))
  · exact Nat.le_trans hn (Nat.le_trans (topOf_ge m top).1 hnx)
  · rw [← actOf_put, actOf_eq f (names_lt ht ag)]

theorem opE_sound {call : CallF E} (hc : CallOk P call) (hf : NamesOk P) {wr : Nat → Bool} {f : SF} {m : Mem E} {s : Scr E} {n nm top : Nat} (hn : n ≤ m.nx) (hm : n ≤ nm) {o : Oper} {K : KO E} (hk : opE P call wr f m s nm top o K)
    {ν : Nat → Nat} {w w0 : World} {R : Assn} (H : Sat w (m.hp.den ν * R)) (HK : Kept w0 w) (Q : Exit → Act → World → Prop) : o.wp P (actOf ν f) w (GoodR K n ν R w0) Q := by
  have quiet : ∀ v s, (evalOp P (wr (o.dst.getD 0)) f m.hp o).gives v → K (f.set o.dst v) m s → o.wp P (actOf ν f) w (GoodR K n ν R w0) Q := by
    intro v s hg hk
    unfold Oper.wp
    rw [evalOp_sound hg H, Oper.upon_value, actOf_put]
    exact ⟨_, m, s, ν, hk, Agree.refl _ _, hn, rfl, H, HK⟩
  unfold opE at hk
  split at hk
  · rename_i v he; exact quiet v s (by rw [he]; rfl) hk
  · rename_i p v he; exact quiet v s (by rw [he]; exact ⟨hk.1, rfl⟩) hk.2
  · rename_i b x y he
    rcases onTest_sound hk with ⟨hb, s, hk⟩ | ⟨hb, s, hk⟩
    · exact quiet x s (by rw [he]; exact .inl ⟨hb, rfl⟩) hk
    · exact quiet y s (by rw [he]; exact .inr ⟨hb, rfl⟩) hk
  · clear quiet
    unfold effE at hk
    split at hk
    · rename_i t a v ho
      obtain ⟨w', hr, h', k, hs, hk'⟩ := storeE_sound hk H HK
      unfold Oper.wp
      simp only [execOp, ho, Sem.run_bind, eval_opv, hr, Result.andThen_ok, Sem.run_pure, Oper.upon_skip]
      refine ⟨_, ⟨h', m.nx⟩, s, ν, k, Agree.refl _ _, hn, ?_, hs, hk'⟩
      rw [← SV.den_und ν, actOf_put]
    · rename_i t ho
      obtain ⟨u, w', hr, hg⟩ := allocE_sound hk hm H HK (.tuple #[])
      unfold Oper.wp
      simp only [execOp, ho, Sem.run_bind, hr, Result.andThen_ok, Sem.run_pure, Oper.upon_value]
      exact GoodR.of_goes hn hg
    · rename_i t v ho
      obtain ⟨u, w', hr, hg⟩ := boxE_sound hk hm H HK
      unfold Oper.wp
      simp only [execOp, ho, eval_opv]
      rw [Sem.run_bind, hr]
      simp only [Result.andThen_ok, Sem.run_pure, Oper.upon_value]
      exact GoodR.of_goes hn hg
    · rename_i t l ps ho
      obtain ⟨u, w', hr, hg⟩ := buildE_sound hk hm H HK (ps.map fun p => (p.1, (actOf ν f).eval p.2)) (by simp [eval_opv])
      unfold Oper.wp
      simp only [execOp, ho, Sem.run_bind, hr, Result.andThen_ok, Sem.run_pure, Oper.upon_value]
      exact GoodR.of_goes hn hg
    · rename_i t l c ho
      obtain ⟨u, w', hr, hg⟩ := makeE_sound hk hm H HK
      unfold Oper.wp
      simp only [execOp, ho, Sem.run_bind, eval_opv, hr, Result.andThen_ok, Sem.run_pure, Oper.upon_value]
      exact GoodR.of_goes hn hg
    · rename_i x as ts ho
      split at hk <;> try exact hk.elim
      rename_i g a c hx
      obtain ⟨fn, h1, h2, h3, hcall⟩ := callE_sound hc hf hn hk H HK
      have hev : (actOf ν f).eval x = .func (.func g) (SC.denL ν a).toArray (SC.denL ν c).toArray := by rw [eval_opv, hx]; simp [SV.den, SC.den]
      have hargs : ((SC.denL ν a).toArray ++ as.map (actOf ν f).eval) ++ (SC.denL ν c).toArray = (List.map (SV.den ν) (a.map SV.c ++ (as.toList.map f.opv ++ c.map SV.c))).toArray := by
        have e1 : (SV.den ν ∘ SV.c) = SC.den ν := rfl
        have e2 : (SV.den ν ∘ f.opv) = (actOf ν f).eval := funext fun x => (eval_opv ν f x).symm
        rw [denL_map, denL_map]
        apply Array.ext'
        simp [e1, e2]
      unfold Oper.wp
      simp only [execOp, ho, resolve, hev, Deferred.ofValue, Sem.run_bind, Sem.run_pure, Result.andThen_ok, invoke, callFunc, run_program, h1, h2, h3, Bool.false_eq_true, if_false, Oper.upon_enter, hargs]
      refine hcall.mono ?_
      rintro e w' ⟨v, rfl, hg⟩
      exact hg
    · rename_i as ts ho
      split at hk <;> try exact hk.elim
      rename_i x y hx
      split at hk <;> try exact hk.elim
      rename_i t t' ht
      split at hk <;> try exact hk.elim
      rename_i htt
      subst htt
      obtain rfl := arr_two hx
      obtain rfl := arr_two ht
      obtain ⟨u, w', hr, hg⟩ := appendE_sound hk hm H HK o.type
      unfold Oper.wp
      have he : (execOp (actOf ν f).eval o).run P w = .ok (.value u) w' := by
        simp [execOp, ho, resolve, invoke, builtin, eval_opv, hr]
      rw [he, Oper.upon_value]
      exact GoodR.of_goes hn hg
    · exact hk.elim
  · exact hk.elim
end
end Go.Proofs.Ytohijcgbfcahhaa
