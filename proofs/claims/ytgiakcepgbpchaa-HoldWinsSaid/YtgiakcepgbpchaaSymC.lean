/- Regions that draw their order: an operation may be taken first if it yields its value in every world that meets S, where S is asked behind those operations alone that do not wait for it. After the kit's own law, which asks S behind every operation. No program in sight. The executor: operations, regions. The executor: two states of which the one is to be the other; what is known to be the same is left out of what is to be shown. The executor: what is to be known of a region's operations for their order, as sets of bits, reckoned once. The executor: guarded operations, regions in the text's order and in whichever. The executor: a region in whichever order is sound. -/
import Derived.OrdersHeld
import Derived.Test.YtgiakcepgbpchaaSymB
import Derived.LoopN
namespace Go.Proofs.Ytgiakcepgbpchaa
open Go

section
variable {P : Program} {ops : Array Oper} {Q : Exit → Act → World → Prop} {md : Region.Mode} {S : World → Prop} {J : Nat → Bool}

def wpAnyL (P : Program) (md : Region.Mode) (ops : Array Oper) (Q : Exit → Act → World → Prop) (S : World → Prop) (J : Nat → Bool) : Nat → Array Bool → Act → World → Prop
  | 0, listed, a, w => Region.ready md ops listed = [] ∧ Q .normal a w
  | fuel + 1, listed, a, w =>
    (Region.ready md ops listed = [] → Q .normal a w) ∧
    ∀ i ∈ Region.ready md ops listed, wpOp P ops Q i (fun a' w' => (S w → J i = true → S w') ∧ wpAnyL P md ops Q S J fuel (listed.setIfInBounds i true) a' w') a w
theorem wpAny_of_L : ∀ (fuel : Nat) (listed : Array Bool) (a : Act) (w : World), wpAnyL P md ops Q S J fuel listed a w → wpAny P md ops Q fuel listed a w
  | 0, _, _, _, h => h
  | fuel + 1, _, _, _, h => ⟨h.1, fun i hi => wpOp_mono (fun a' w' h' => wpAny_of_L fuel _ a' w' h'.2) (h.2 i hi)⟩

/-- A load: S holds, and is asked behind each operation that does not wait for it. -/
theorem wpAnyL_load {i : Nat} {oi : Oper} {v : Value} (hi : ops[i]? = some oi) (hsel : ∀ (j : Nat) (o : Oper) cs b, ops[j]? = some o → o.op ≠ .select cs b)
    (hQ : ∀ c a w, Q (.panic c) (a.put oi.dst v) w → Q (.panic c) a w)
    (hJ : ∀ j oj, ops[j]? = some oj → j ≠ i → (∀ e ∈ oj.after, Region.binds md e = true → e.on ≠ i) → J j = true) :
    ∀ (fuel : Nat) (listed : Array Bool) (a : Act) (w : World),
      (∀ j oj, ops[j]? = some oj → j ≠ i → listed.getD j true = false → (∀ e ∈ oj.after, Region.binds md e = true → e.on ≠ i) → oi.apart ops oj = true) →
      i ∈ Region.ready md ops listed → YieldsIf P ops S oi v a → S w →
      wpAnyL P md ops Q S J fuel (listed.setIfInBounds i true) (a.put oi.dst v) w → wpAnyL P md ops Q S J (fuel + 1) listed a w := by
  intro fuel
  induction fuel with
  | zero =>
    intro listed a w _ hr hy hS H
    refine ⟨fun h => (by rw [h] at hr; cases hr), fun j hj => ?_⟩
    by_cases hji : j = i
    · subst hji; exact hy.wpOp hi hS ⟨fun h _ => h, H⟩
    · have := ready_mono hj hji
      rw [H.1] at this
      cases this
  | succ fuel ih =>
    intro listed a w hfree hr hy hS H
    refine ⟨fun h => (by rw [h] at hr; cases hr), fun j hj => ?_⟩
    by_cases hji : j = i
    · subst hji; exact hy.wpOp hi hS ⟨fun h _ => h, H⟩
    · have h1 := H.2 j (ready_mono hj hji)
      obtain ⟨hjun, oj, hoj, hall⟩ := mem_ready.1 hj
      have hnot : ∀ e ∈ oj.after, Region.binds md e = true → e.on ≠ i := fun e he hb heq => by
        have h1 := hall e he hb
        have h0 := (mem_ready.1 hr).1
        rw [heq] at h1
        rcases Nat.lt_or_ge i listed.size with h' | h'
        · simp [h'] at h0 h1; rw [h0] at h1; cases h1
        · simp [Array.getElem?_eq_none h'] at h1
      have h2 := wpOp_putIf hoj (hfree j oj hoj hji hjun hnot) (fun cs b => hsel i oi cs b hi) (fun cs b => hsel j oj cs b hoj) hQ hy h1
      have hfree' : ∀ k ok, ops[k]? = some ok → k ≠ i → (listed.setIfInBounds j true).getD k true = false →
          (∀ e ∈ ok.after, Region.binds md e = true → e.on ≠ i) → oi.apart ops ok = true := fun k ok hk hki hun hno => by
        refine hfree k ok hk hki ?_ hno
        by_cases hjk : j = k
        · subst hjk; exact hjun
        · rw [getD_set_ne true hjk] at hun; exact hun
      have hJj := hJ j oj hoj hji hnot
      refine wpOp_mono (fun a' w' h3 => ⟨h3.2.1, ih (listed.setIfInBounds j true) a' w' hfree' (ready_mono hr (Ne.symm hji)) h3.1 (h3.2.1 hS hJj) ?_⟩) h2
      rw [Array.setIfInBounds_comm _ _ hji]
      exact h3.2.2

/-- What hangs on no world at all. -/
theorem wpAnyL_pure {i : Nat} {oi : Oper} {v : Value} (hi : ops[i]? = some oi) (hsel : ∀ (j : Nat) (o : Oper) cs b, ops[j]? = some o → o.op ≠ .select cs b)
    (hQ : ∀ c a w, Q (.panic c) (a.put oi.dst v) w → Q (.panic c) a w) :
    ∀ (fuel : Nat) (listed : Array Bool) (a : Act) (w : World),
      (∀ j oj, ops[j]? = some oj → j ≠ i → listed.getD j true = false → (∀ e ∈ oj.after, Region.binds md e = true → e.on ≠ i) → oi.apart ops oj = true) →
      i ∈ Region.ready md ops listed → YieldsIf P ops (fun _ => True) oi v a →
      wpAnyL P md ops Q S J fuel (listed.setIfInBounds i true) (a.put oi.dst v) w → wpAnyL P md ops Q S J (fuel + 1) listed a w := by
  intro fuel
  induction fuel with
  | zero =>
    intro listed a w _ hr hy H
    refine ⟨fun h => (by rw [h] at hr; cases hr), fun j hj => ?_⟩
    by_cases hji : j = i
    · subst hji; exact hy.wpOp hi trivial ⟨fun h _ => h, H⟩
    · have := ready_mono hj hji
      rw [H.1] at this
      cases this
  | succ fuel ih =>
    intro listed a w hfree hr hy H
    refine ⟨fun h => (by rw [h] at hr; cases hr), fun j hj => ?_⟩
    by_cases hji : j = i
    · subst hji; exact hy.wpOp hi trivial ⟨fun h _ => h, H⟩
    · have h1 := H.2 j (ready_mono hj hji)
      obtain ⟨hjun, oj, hoj, hall⟩ := mem_ready.1 hj
      have hnot : ∀ e ∈ oj.after, Region.binds md e = true → e.on ≠ i := fun e he hb heq => by
        have h1 := hall e he hb
        have h0 := (mem_ready.1 hr).1
        rw [heq] at h1
        rcases Nat.lt_or_ge i listed.size with h' | h'
        · simp [h'] at h0 h1; rw [h0] at h1; cases h1
        · simp [Array.getElem?_eq_none h'] at h1
      have h2 := wpOp_putIf hoj (hfree j oj hoj hji hjun hnot) (fun cs b => hsel i oi cs b hi) (fun cs b => hsel j oj cs b hoj) hQ hy h1
      have hfree' : ∀ k ok, ops[k]? = some ok → k ≠ i → (listed.setIfInBounds j true).getD k true = false →
          (∀ e ∈ ok.after, Region.binds md e = true → e.on ≠ i) → oi.apart ops ok = true := fun k ok hk hki hun hno => by
        refine hfree k ok hk hki ?_ hno
        by_cases hjk : j = k
        · subst hjk; exact hjun
        · rw [getD_set_ne true hjk] at hun; exact hun
      refine wpOp_mono (fun a' w' h3 => ⟨h3.2.1, ih (listed.setIfInBounds j true) a' w' hfree' (ready_mono hr (Ne.symm hji)) h3.1 ?_⟩) h2
      rw [Array.setIfInBounds_comm _ _ hji]
      exact h3.2.2
end
end Go.Proofs.Ytgiakcepgbpchaa
namespace Go.Proofs.Ytgiakcepgbpchaa
open Go Go.RowKit

structure Mem (E : EXT) where
  hp : SH E
  nx : Nat

/-- One of the shapes that a loop's state may have. -/
structure Emb (Y : Type) where
  Z : Type
  e : Z → Y
/-- What the prover tells: of each test that is not decided which way it goes (or both); of each loop what holds at its head. -/
inductive Scr (E : EXT) : Type 1 where
  | nil
  | stop
  | t (s : Scr E)
  | f (s : Scr E)
  | both (a b : Scr E)
  | case (slot : Nat) (yes no : Scr E)
  | inv (dead : Nat → Bool) (use : List Nat) (Y : Type) (I : Nat → Y → List (Nat × SV) × List (Nat × SO E)) (mu : Y → Nat) (body : Y → Scr E)
  | invs (dead : Nat → Bool) (use : List Nat) (Y : Type) (hs : List (Emb Y)) (sel : SF → SH E → Nat) (I : Nat → Y → List (Nat × SV) × List (Nat × SO E)) (mu : Y → Nat) (body : Y → Scr E)
  | cut (id : Nat) (dead : Nat → Bool) (use : List Nat) (Y : Type) (I : Nat → Y → List (Nat × SV) × List (Nat × SO E)) (first : Scr E) (rest : Y → Scr E)

abbrev KO (E : EXT) := SF → Mem E → Scr E → Prop
abbrev KV (E : EXT) := SV → Mem E → Scr E → Prop
abbrev CallF (E : EXT) := FuncId → List SV → Mem E → Scr E → KV E → Prop

section
variable {E : EXT} {P : Program}

def onTest (b : Bool) (s : Scr E) (yes no : Scr E → Prop) : Prop :=
  match s with
  | .t s => b = true ∧ yes s
  | .f s => b = false ∧ no s
  | .both x y => (b = true → yes x) ∧ (b = false → no y)
  | s => (b = true → yes s) ∧ (b = false → no s)
theorem onTest_sound {b : Bool} {s : Scr E} {yes no : Scr E → Prop} (h : onTest b s yes no) : (b = true ∧ ∃ s, yes s) ∨ (b = false ∧ ∃ s, no s) := by
  unfold onTest at h
  split at h
  · exact .inl ⟨h.1, _, h.2⟩
  · exact .inr ⟨h.1, _, h.2⟩
  · cases b
    · exact .inr ⟨rfl, _, h.2 rfl⟩
    · exact .inl ⟨rfl, _, h.1 rfl⟩
  · cases b
    · exact .inr ⟨rfl, _, h.2 rfl⟩
    · exact .inl ⟨rfl, _, h.1 rfl⟩

/-- Behind an operation, a region. -/
def GoodR (K : KO E) (n : Nat) (ν : Nat → Nat) (R : Assn) (w0 : World) (a : Act) (w : World) : Prop :=
  ∃ f m s μ, K f m s ∧ Agree n ν μ ∧ n ≤ m.nx ∧ a = actOf μ f ∧ Sat w (m.hp.den μ * R) ∧ Kept w0 w
def CallOk (P : Program) (call : CallF E) : Prop := ∀ g args m s K, call g args m s K → ∀ ν w R w0, Sat w (m.hp.den ν * R) → Kept w0 w →
  Calls P g (args.map (SV.den ν)).toArray w fun e w' => ∃ v m' s' μ, K v m' s' ∧ Agree m.nx ν μ ∧ m.nx ≤ m'.nx ∧ e = .returned (v.den μ) ∧ Sat w' (m'.hp.den μ * R) ∧ Kept w0 w'
/-- No function of the program is one that the model answers by itself. -/
def NamesOk (P : Program) : Prop := ∀ (g : Nat) (fn : Func), P.funcs[g]? = some fn → fn.body.isSome = true → (fn.name == "runtime.NumGoroutine") = false

def topOf (m : Mem E) (top : Nat) : Nat := if m.nx ≤ top then top else m.nx
theorem topOf_ge (m : Mem E) (top : Nat) : m.nx ≤ topOf m top ∧ top ≤ topOf m top := by unfold topOf; split <;> omega
def callE (P : Program) (call : CallF E) (f : SF) (m : Mem E) (s : Scr E) (top : Nat) (g : FuncId) (args : List SV) (d : Option Nat) (K : KO E) : Prop :=
  match P.funcs[g]? with
  | some fn => match fn.body with
    | some _ => bif f.names.all fun n => Nat.blt n (topOf m top) then call g args ⟨m.hp, topOf m top⟩ s fun v m' s' => K (f.set d v) m' s' else Stuck 340
    | none => Stuck 341
  | none => Stuck 342
def effE (P : Program) (call : CallF E) (f : SF) (m : Mem E) (s : Scr E) (nm top : Nat) (o : Oper) (K : KO E) : Prop :=
  match o.op with
  | .store t a v => storeE P f m.hp t (f.opv a) (f.opv v) fun f h => K (f.set o.dst .und) ⟨h, m.nx⟩ s
  | .alloc t => allocE P f m.hp nm t o.dst fun f h => K f ⟨h, m.nx⟩ s
  | .box t v => boxE f m.hp nm t (f.opv v) o.dst fun f h => K f ⟨h, m.nx⟩ s
  | .buildSlice t n ps => buildE P f m.hp nm t n (ps.toList.map fun p => (p.1, f.opv p.2)) o.dst fun f h => K f ⟨h, m.nx⟩ s
  | .makeSlice t l c => makeE P f m.hp nm t (f.opv l) (f.opv c) o.dst fun f h => K f ⟨h, m.nx⟩ s
  | .call { callee := .value x, args := as, argTypes := _ } => match f.opv x with
    | .c (.fn (.func g) a c) => callE P call f m s top g (a.map SV.c ++ (as.toList.map f.opv ++ c.map SV.c)) o.dst K
    | _ => Stuck 350
  | .call { callee := .builtin .append, args := as, argTypes := ts } => match as.toList with
    | [x, y] => match ts.toList with
      | [t, t'] => if t = t' then appendE P f m.hp nm t (f.opv x) (f.opv y) o.dst fun f h => K f ⟨h, m.nx⟩ s else Stuck 352
      | _ => Stuck 353
    | _ => Stuck 354
  | _ => Stuck 351
/-- One operation. -/
def opE (P : Program) (call : CallF E) (wr : Nat → Bool) (f : SF) (m : Mem E) (s : Scr E) (nm top : Nat) (o : Oper) (K : KO E) : Prop :=
  match evalOp P (wr (o.dst.getD 0)) f m.hp o with
  | .ok v => K (f.set o.dst v) m s
  | .need p v => p ∧ K (f.set o.dst v) m s
  | .split b x y => onTest b s (fun s => K (f.set o.dst x) m s) (fun s => K (f.set o.dst y) m s)
  | .no 11 => effE P call f m s nm top o K
  | .no n => Stuck n

theorem GoodR.of_goes {K : KO E} {m : Mem E} {s : Scr E} {n : Nat} (hn : n ≤ m.nx) {ν : Nat → Nat} {R : Assn} {w0 : World} {a : Act} {w : World} (h : Goes (fun f h => K f ⟨h, m.nx⟩ s) n ν R w0 a w) : GoodR K n ν R w0 a w := by
  obtain ⟨f, h, μ, k, ag, ha, hs, hk⟩ := h
  exact ⟨f, ⟨h, m.nx⟩, s, μ, k, ag, hn, ha, hs, hk⟩
theorem names_lt {l : List Nat} {n : Nat} (h : l.all (fun m => Nat.blt m n) = true) {ν μ : Nat → Nat} (ha : Agree n ν μ) : ∀ m ∈ l, ν m = μ m := fun m hm => by
  have := List.all_eq_true.1 h m hm
  simp only [Nat.blt_eq] at this
  exact (ha m this).symm
theorem callE_sound {call : CallF E} (hc : CallOk P call) (hf : NamesOk P) {f : SF} {m : Mem E} {s : Scr E} {n top : Nat} (hn : n ≤ m.nx) {g : FuncId} {args : List SV} {d : Option Nat} {K : KO E} (hk : callE P call f m s top g args d K)
    {ν : Nat → Nat} {w w0 : World} {R : Assn} (H : Sat w (m.hp.den ν * R)) (HK : Kept w0 w) :
    ∃ fn, P.funcs[g]? = some fn ∧ fn.body.isNone = false ∧ (fn.name == "runtime.NumGoroutine") = false ∧
      Calls P g (args.map (SV.den ν)).toArray w fun e w' => ∃ v, e = .returned v ∧ GoodR K n ν R w0 ((actOf ν f).put d v) w' := by
  unfold callE at hk
  split at hk <;> try exact hk.elim
  rename_i fn hfn
  split at hk <;> try exact hk.elim
  rename_i c hb
  refine ⟨fn, hfn, by simp [hb], hf g fn hfn (by simp [hb]), ?_⟩
  cases ht : f.names.all fun n => Nat.blt n (topOf m top) <;> rw [ht] at hk
  · exact hk.elim
  simp only [cond_true] at hk
  refine (hc _ _ _ _ _ hk ν w R w0 H HK).mono ?_
  rintro e w' ⟨v, m', s', μ, k, ag, hnx, rfl, hs, hk'⟩
  simp only at ag hnx
  refine ⟨_, rfl, _, m', s', μ, k, ?_, ?_, ?_, hs, hk'⟩
  · exact fun i hi => ag i (Nat.lt_of_lt_of_le hi (Nat.le_trans hn (topOf_ge m top).1))
  · exact Nat.le_trans hn (Nat.le_trans (topOf_ge m top).1 hnx)
  · rw [← actOf_put, actOf_eq f (names_lt ht ag)]

theorem opE_sound {call : CallF E} (hc : CallOk P call) (hf : NamesOk P) {wr : Nat → Bool} {f : SF} {m : Mem E} {s : Scr E} {n nm top : Nat} (hn : n ≤ m.nx) (hm : n ≤ nm) {o : Oper} {K : KO E} (hk : opE P call wr f m s nm top o K)
    {ν : Nat → Nat} {w w0 : World} {R : Assn} (H : Sat w (m.hp.den ν * R)) (HK : Kept w0 w) (Q : Exit → Act → World → Prop) : o.wp P (actOf ν f) w (GoodR K n ν R w0) Q := by
  have quiet : ∀ v s, (evalOp P (wr (o.dst.getD 0)) f m.hp o).gives v → K (f.set o.dst v) m s → o.wp P (actOf ν f) w (GoodR K n ν R w0) Q := by
    intro v s hg hk
    unfold Oper.wp
    rw [evalOp_sound hg H, Oper.upon_value, actOf_put]
    exact ⟨_, m, s, ν, hk, Agree.refl _ _, hn, rfl, H, HK⟩
  unfold opE at hk
  split at hk
  · rename_i v he; exact quiet v s (by rw [he]; rfl) hk
  · rename_i p v he; exact quiet v s (by rw [he]; exact ⟨hk.1, rfl⟩) hk.2
  · rename_i b x y he
    rcases onTest_sound hk with ⟨hb, s, hk⟩ | ⟨hb, s, hk⟩
    · exact quiet x s (by rw [he]; exact .inl ⟨hb, rfl⟩) hk
    · exact quiet y s (by rw [he]; exact .inr ⟨hb, rfl⟩) hk
  · clear quiet
    unfold effE at hk
    split at hk
    · rename_i t a v ho
      obtain ⟨w', hr, h', k, hs, hk'⟩ := storeE_sound hk H HK
      unfold Oper.wp
      simp only [execOp, ho, Sem.run_bind, eval_opv, hr, Result.andThen_ok, Sem.run_pure, Oper.upon_skip]
      refine ⟨_, ⟨h', m.nx⟩, s, ν, k, Agree.refl _ _, hn, ?_, hs, hk'⟩
      rw [← SV.den_und ν, actOf_put]
    · rename_i t ho
      obtain ⟨u, w', hr, hg⟩ := allocE_sound hk hm H HK (.tuple #[])
      unfold Oper.wp
      simp only [execOp, ho, Sem.run_bind, hr, Result.andThen_ok, Sem.run_pure, Oper.upon_value]
      exact GoodR.of_goes hn hg
    · rename_i t v ho
      obtain ⟨u, w', hr, hg⟩ := boxE_sound hk hm H HK
      unfold Oper.wp
      simp only [execOp, ho, eval_opv]
      rw [Sem.run_bind, hr]
      simp only [Result.andThen_ok, Sem.run_pure, Oper.upon_value]
      exact GoodR.of_goes hn hg
    · rename_i t l ps ho
      obtain ⟨u, w', hr, hg⟩ := buildE_sound hk hm H HK (ps.map fun p => (p.1, (actOf ν f).eval p.2)) (by simp [eval_opv])
      unfold Oper.wp
      simp only [execOp, ho, Sem.run_bind, hr, Result.andThen_ok, Sem.run_pure, Oper.upon_value]
      exact GoodR.of_goes hn hg
    · rename_i t l c ho
      obtain ⟨u, w', hr, hg⟩ := makeE_sound hk hm H HK
      unfold Oper.wp
      simp only [execOp, ho, Sem.run_bind, eval_opv, hr, Result.andThen_ok, Sem.run_pure, Oper.upon_value]
      exact GoodR.of_goes hn hg
    · rename_i x as ts ho
      split at hk <;> try exact hk.elim
      rename_i g a c hx
      obtain ⟨fn, h1, h2, h3, hcall⟩ := callE_sound hc hf hn hk H HK
      have hev : (actOf ν f).eval x = .func (.func g) (SC.denL ν a).toArray (SC.denL ν c).toArray := by rw [eval_opv, hx]; simp [SV.den, SC.den]
      have hargs : ((SC.denL ν a).toArray ++ as.map (actOf ν f).eval) ++ (SC.denL ν c).toArray = (List.map (SV.den ν) (a.map SV.c ++ (as.toList.map f.opv ++ c.map SV.c))).toArray := by
        have e1 : (SV.den ν ∘ SV.c) = SC.den ν := rfl
        have e2 : (SV.den ν ∘ f.opv) = (actOf ν f).eval := funext fun x => (eval_opv ν f x).symm
        rw [denL_map, denL_map]
        apply Array.ext'
        simp [e1, e2]
      unfold Oper.wp
      simp only [execOp, ho, resolve, hev, Deferred.ofValue, Sem.run_bind, Sem.run_pure, Result.andThen_ok, invoke, callFunc, run_program, h1, h2, h3, Bool.false_eq_true, if_false, Oper.upon_enter, hargs]
      refine hcall.mono ?_
      rintro e w' ⟨v, rfl, hg⟩
      exact hg
    · rename_i as ts ho
      split at hk <;> try exact hk.elim
      rename_i x y hx
      split at hk <;> try exact hk.elim
      rename_i t t' ht
      split at hk <;> try exact hk.elim
      rename_i htt
      subst htt
      obtain rfl := arr_two hx
      obtain rfl := arr_two ht
      obtain ⟨u, w', hr, hg⟩ := appendE_sound hk hm H HK o.type
      unfold Oper.wp
      have he : (execOp (actOf ν f).eval o).run P w = .ok (.value u) w' := by
        simp [execOp, ho, resolve, invoke, builtin, eval_opv, hr]
      rw [he, Oper.upon_value]
      exact GoodR.of_goes hn hg
    · exact hk.elim
  · exact hk.elim
end
end Go.Proofs.Ytgiakcepgbpchaa
namespace Go.Proofs.Ytgiakcepgbpchaa
open Go Go.RowKit

def eqI : Int → Int → Bool
  | .ofNat a, .ofNat b => Nat.beq a b
  | .negSucc a, .negSucc b => Nat.beq a b
  | _, _ => false
theorem eqI_eq {a b : Int} (h : eqI a b = true) : a = b := by
  cases a <;> cases b <;> simp only [eqI, Nat.beq_eq] at h <;> first | (rw [h]) | cases h
def beqB : Bool → Bool → Bool
  | true, true => true
  | false, false => true
  | _, _ => false
theorem beqB_eq {a b : Bool} (h : beqB a b = true) : a = b := by cases a <;> cases b <;> first | rfl | cases h

mutual
def sameC : SC → SC → Prop → Prop
  | .int true k a _, .int true k' b _, q => if k = k' then (bif eqI a b then q else Stuck 550) else Stuck 550
  | .int _ k a _, .int _ k' b _, q => if k = k' then (a = b ∧ q) else Stuck 550
  | .boo true a, .boo true b, q => bif beqB a b then q else Stuck 551
  | .boo _ a, .boo _ b, q => a = b ∧ q
  | .ptr n o, .ptr n' o', q => if n = n' then (if o = o' then q else Stuck 552) else Stuck 552
  | .elp n i k f, .elp n' i' k' f', q => if n = n' then (if k = k' then (if f = f' then (i = i' ∧ q) else Stuck 553) else Stuck 553) else Stuck 553
  | .sli n k _ o true len cap, .sli n' k' _ o' true len' cap', q => if n = n' then (if k = k' then (if len = len' then (o = o' ∧ cap = cap' ∧ q) else Stuck 554) else Stuck 554) else Stuck 554
  | .sli n k _ o _ len cap, .sli n' k' _ o' _ len' cap', q => if n = n' then (if k = k' then (o = o' ∧ len = len' ∧ cap = cap' ∧ q) else Stuck 554) else Stuck 554
  | .nls, .nls, q => q
  | .map n, .map n', q => if n = n' then q else Stuck 555
  | .fn f a c, .fn f' a' c', q => if f = f' then sameL a a' (sameL c c' q) else Stuck 556
  | .ifc t x, .ifc t' x', q => if t = t' then sameC x x' q else Stuck 557
  | .sliv a _ n c, .sliv a' _ n' c', q => a = a' ∧ n = n' ∧ c = c' ∧ q
  | .ptv a, .ptv a', q => a = a' ∧ q
  | .raw v, .raw v', q => v = v' ∧ q
  | _, _, _ => Stuck 558
termination_by structural x => x
def sameL : List SC → List SC → Prop → Prop
  | [], [], q => q
  | x :: l, y :: m, q => sameC x y (sameL l m q)
  | _, _, _ => Stuck 559
termination_by structural l => l
end
mutual
theorem sameC_den (ν : Nat → Nat) : ∀ {x y : SC} {q : Prop}, sameC x y q → x.den ν = y.den ν ∧ q
  | .int true k a _, y, q, h => by
    cases y <;> try (simp only [sameC] at h; exact h.elim)
    rename_i l k' b _
    cases l
    · simp only [sameC] at h
      split at h
      · rename_i hk; subst hk; simp [SC.den, h.1, h.2]
      · exact h.elim
    · simp only [sameC] at h
      split at h
      · rename_i hk
        subst hk
        cases hb : eqI a b <;> rw [hb] at h
        · exact h.elim
        · exact ⟨by simp [SC.den, eqI_eq hb], h⟩
      · exact h.elim
  | .int false k a _, y, q, h => by
    cases y <;> try (simp only [sameC] at h; exact h.elim)
    simp only [sameC] at h
    split at h
    · rename_i hk; subst hk; simp [SC.den, h.1, h.2]
    · exact h.elim
  | .boo true a, y, q, h => by
    cases y <;> try (simp only [sameC] at h; exact h.elim)
    rename_i l b
    cases l
    · simp only [sameC] at h
      simp [SC.den, h.1, h.2]
    · simp only [sameC] at h
      cases hb : beqB a b <;> rw [hb] at h
      · exact h.elim
      · exact ⟨by simp [SC.den, beqB_eq hb], h⟩
  | .boo false a, y, q, h => by
    cases y <;> try (simp only [sameC] at h; exact h.elim)
    simp only [sameC] at h
    simp [SC.den, h.1, h.2]
  | .ptr n o, y, q, h => by
    cases y <;> simp only [sameC] at h <;> try exact h.elim
    split at h
    · split at h
      · simp [SC.den, *]
      · exact h.elim
    · exact h.elim
  | .elp n i k f, y, q, h => by
    cases y <;> simp only [sameC] at h <;> try exact h.elim
    split at h
    · split at h
      · split at h
        · simp [SC.den, *]
        · exact h.elim
      · exact h.elim
    · exact h.elim
  | .sli n k _ o true len cap, y, q, h => by
    cases y <;> try (simp only [sameC] at h; exact h.elim)
    rename_i n' k' _ o' l len' cap'
    cases l
    · simp only [sameC] at h
      split at h
      · split at h
        · simp [SC.den, *]
        · exact h.elim
      · exact h.elim
    · simp only [sameC] at h
      split at h
      · split at h
        · split at h
          · simp [SC.den, *]
          · exact h.elim
        · exact h.elim
      · exact h.elim
  | .sli n k _ o false len cap, y, q, h => by
    cases y <;> try (simp only [sameC] at h; exact h.elim)
    simp only [sameC] at h
    split at h
    · split at h
      · simp [SC.den, *]
      · exact h.elim
    · exact h.elim
  | .nls, y, q, h => by cases y <;> simp only [sameC] at h <;> first | exact h.elim | exact ⟨rfl, h⟩
  | .map n, y, q, h => by
    cases y <;> simp only [sameC] at h <;> try exact h.elim
    split at h
    · simp [SC.den, *]
    · exact h.elim
  | .fn f a c, y, q, h => by
    cases y <;> simp only [sameC] at h <;> try exact h.elim
    split at h
    · rename_i hf
      obtain ⟨h1, h⟩ := sameL_den ν h
      obtain ⟨h2, h⟩ := sameL_den ν h
      simp only [SC.den]
      rw [hf, h1, h2]
      exact ⟨rfl, h⟩
    · exact h.elim
  | .ifc t x, y, q, h => by
    cases y <;> simp only [sameC] at h <;> try exact h.elim
    split at h
    · rename_i ht
      obtain ⟨h1, h⟩ := sameC_den ν h
      simp only [SC.den]
      rw [ht, h1]
      exact ⟨rfl, h⟩
    · exact h.elim
  | .sliv a _ n c, y, q, h => by cases y <;> simp only [sameC] at h <;> first | exact h.elim | simp [SC.den, h]
  | .ptv a, y, q, h => by cases y <;> simp only [sameC] at h <;> first | exact h.elim | simp [SC.den, h]
  | .raw v, y, q, h => by cases y <;> simp only [sameC] at h <;> first | exact h.elim | simp [SC.den, h]
theorem sameL_den (ν : Nat → Nat) : ∀ {l m : List SC} {q : Prop}, sameL l m q → SC.denL ν l = SC.denL ν m ∧ q
  | [], m, q, h => by cases m <;> simp only [sameL] at h <;> first | exact ⟨rfl, h⟩ | exact h.elim
  | x :: l, m, q, h => by
    cases m <;> simp only [sameL] at h
    · exact h.elim
    · obtain ⟨h1, h⟩ := sameC_den ν h
      obtain ⟨h2, h⟩ := sameL_den ν h
      simp only [SC.denL]
      rw [h1, h2]
      exact ⟨rfl, h⟩
end
def sameP : List (Bool × List SC) → List (Bool × List SC) → Prop → Prop
  | [], [], q => q
  | (b, l) :: x, (b', l') :: y, q => if b = b' then sameL l l' (sameP x y q) else Stuck 560
  | _, _, _ => Stuck 560
theorem partDen_len {ν : Nat → Nat} {b : Bool} {l m : List SC} (h : SC.denL ν l = SC.denL ν m) : partDen ν (b, l) = partDen ν (b, m) := by
  cases b with
  | true => simp only [partDen]; rw [h]
  | false =>
    rw [denL_map, denL_map] at h
    match l, m, h with
    | [], [], _ => rfl
    | [x], [y], h => simp only [List.map_cons, List.map_nil, List.cons.injEq, and_true] at h; exact h
    | _ :: _ :: _, _ :: _ :: _, _ => rfl
    | [], _ :: _, h => simp at h
    | _ :: _, [], h => simp at h
    | [_], _ :: _ :: _, h => simp at h
    | _ :: _ :: _, [_], h => simp at h
theorem sameP_den (ν : Nat → Nat) : ∀ {x y : List (Bool × List SC)} {q : Prop}, sameP x y q → x.map (partDen ν) = y.map (partDen ν) ∧ q
  | [], y, q, h => by cases y <;> simp only [sameP] at h <;> first | exact ⟨rfl, h⟩ | exact h.elim
  | (b, l) :: x, y, q, h => by
    cases y with
    | nil => simp only [sameP] at h; exact h.elim
    | cons p y =>
      obtain ⟨b', l'⟩ := p
      simp only [sameP] at h
      split at h
      · rename_i hb
        subst hb
        obtain ⟨h1, h⟩ := sameL_den ν h
        obtain ⟨h2, h⟩ := sameP_den ν h
        simp only [List.map_cons]
        rw [partDen_len h1, h2]
        exact ⟨rfl, h⟩
      · exact h.elim
def sameV : SV → SV → Prop → Prop
  | .c x, .c y, q => sameC x y q
  | .agg l, .agg m, q => sameL l m q
  | .tup l, .tup m, q => sameP l m q
  | _, _, _ => Stuck 561
theorem sameV_den (ν : Nat → Nat) {x y : SV} {q : Prop} (h : sameV x y q) : x.den ν = y.den ν ∧ q := by
  unfold sameV at h
  split at h
  · exact sameC_den ν h
  · obtain ⟨h1, h⟩ := sameL_den ν h
    simp only [SV.den]; rw [h1]; exact ⟨rfl, h⟩
  · obtain ⟨h1, h⟩ := sameP_den ν h
    simp only [SV.den]; rw [h1]; exact ⟨rfl, h⟩
  · exact h.elim
section
variable {E : EXT}
def sameO : SO E → SO E → Prop → Prop
  | .cells l t, .cells l' t', q => if t = t' then sameL l l' q else Stuck 562
  | .row t k n c l, .row t' k' n' c' l', q => if t = t' then (if k = k' then (if n = n' then (c = c' ∧ sameL l l' q) else Stuck 563) else Stuck 563) else Stuck 563
  | .ints t k n c f, .ints t' k' n' c' f', q => if t = t' then (if k = k' then (n = n' ∧ c = c' ∧ f = f' ∧ q) else Stuck 564) else Stuck 564
  | .vals t k n c f, .vals t' k' n' c' f', q => if t = t' then (if k = k' then (n = n' ∧ c = c' ∧ f = f' ∧ q) else Stuck 565) else Stuck 565
  | .mp l, .mp l', q => l = l' ∧ q
  | .seen W, .seen W', q => W = W' ∧ q
  | .ext x, .ext y, q => x = y ∧ q
  | _, _, _ => Stuck 566
theorem sameO_den {x y : SO E} {q : Prop} (h : sameO x y q) : (∀ ν b, x.den ν b = y.den ν b) ∧ q := by
  unfold sameO at h
  split at h
  · split at h
    · rename_i ht; subst ht
      exact ⟨fun ν b => by simp only [SO.den]; rw [(sameL_den ν h).1], (sameL_den id h).2⟩
    · exact h.elim
  · split at h
    · split at h
      · split at h
        · rename_i ht hk hn; subst ht hk hn
          obtain ⟨rfl, h⟩ := h
          exact ⟨fun ν b => by simp only [SO.den]; rw [(sameL_den ν h).1], (sameL_den id h).2⟩
        · exact h.elim
      · exact h.elim
    · exact h.elim
  · split at h
    · split at h
      · rename_i ht hk; subst ht hk
        obtain ⟨rfl, rfl, rfl, h⟩ := h
        exact ⟨fun _ _ => rfl, h⟩
      · exact h.elim
    · exact h.elim
  · split at h
    · split at h
      · rename_i ht hk; subst ht hk
        obtain ⟨rfl, rfl, rfl, h⟩ := h
        exact ⟨fun _ _ => rfl, h⟩
      · exact h.elim
    · exact h.elim
  · obtain ⟨rfl, h⟩ := h; exact ⟨fun _ _ => rfl, h⟩
  · obtain ⟨rfl, h⟩ := h; exact ⟨fun _ _ => rfl, h⟩
  · obtain ⟨rfl, h⟩ := h; exact ⟨fun _ _ => rfl, h⟩
  · exact h.elim
/-- The memory h still has what h0 has. -/
def subH : SH E → SH E → Prop → Prop
  | [], _, q => q
  | (n, o) :: h0, h, q => match h.get n with
    | some o' => sameO o o' (subH h0 h q)
    | none => Stuck 567
theorem subH_img : ∀ {h0 h : SH E} {q : Prop}, subH h0 h q → (∃ h1 : SH E, List.map (fun p => p.1) h1 = List.map (fun p => p.1) h0 ∧ (∀ p ∈ h1, h.get p.1 = some p.2) ∧ ∀ ν, h1.den ν = h0.den ν) ∧ q
  | [], _, _, hq => ⟨⟨[], rfl, (by intro p hp; cases hp), fun _ => rfl⟩, hq⟩
  | (n, o) :: h0, h, q, hs => by
    simp only [subH] at hs
    split at hs
    · rename_i o' ho
      obtain ⟨hd, hs⟩ := sameO_den hs
      obtain ⟨⟨h1, e1, e2, e3⟩, hq⟩ := subH_img hs
      refine ⟨⟨(n, o') :: h1, by simp [e1], fun p hp => ?_, fun ν => by simp only [SH.den]; rw [hd, e3]⟩, hq⟩
      cases hp with
      | head => exact ho
      | tail _ hm => exact e2 p hm
    · exact hs.elim
end
end Go.Proofs.Ytgiakcepgbpchaa
namespace Go.Proofs.Ytgiakcepgbpchaa
open Go Go.RowKit

def isLoad (o : Oper) : Bool := match o.op with | .load _ _ => true | _ => false
def waitsB (o : Oper) (i : Nat) : Bool := o.after.any fun e => Region.binds .any e && e.on == i
/-- Is there a load for which number j does not wait? -/
def loose (ops : Array Oper) (j : Nat) : Bool :=
  match ops[j]? with
  | some oj => (List.range ops.size).any fun i => match ops[i]? with
    | some oi => isLoad oi && !(i == j) && !(waitsB oj i)
    | none => false
  | none => true

def hasB (m k : Nat) : Bool := Nat.beq (Nat.land (Nat.shiftRight m k) 1) 1
theorem hasB_test (m k : Nat) : hasB m k = Nat.testBit m k := by
  have e : Nat.land (Nat.shiftRight m k) 1 = (m >>> k) &&& 1 := rfl
  unfold hasB
  rw [e, Nat.and_comm]
  unfold Nat.testBit
  rw [Nat.one_and_eq_mod_two]
  rcases Nat.mod_two_eq_zero_or_one (m >>> k) with h | h <;> rw [h] <;> rfl
def orB (k m : Nat) : Nat := Nat.lor (Nat.shiftLeft 1 k) m
theorem hasB_zero (k : Nat) : hasB 0 k = false := by simp [hasB_test]
theorem hasB_orB (k m j : Nat) : hasB (orB k m) j = (decide (k = j) || hasB m j) := by
  simp only [hasB_test]
  unfold orB
  have : Nat.lor (Nat.shiftLeft 1 k) m = (1 <<< k) ||| m := rfl
  rw [this, Nat.testBit_or, Nat.one_shiftLeft, Nat.testBit_two_pow]
def covers (L d : Nat) : Bool := Nat.beq (Nat.land d L) d
theorem covers_has {L d : Nat} : covers L d = true ↔ ∀ k, hasB d k = true → hasB L k = true := by
  simp only [hasB_test]
  unfold covers
  have e : Nat.land d L = d &&& L := rfl
  rw [Nat.beq_eq, e]
  constructor
  · intro h k hk
    rw [← h, Nat.testBit_and] at hk
    simp only [Bool.and_eq_true] at hk
    exact hk.2
  · intro h
    refine Nat.eq_of_testBit_eq fun k => ?_
    rw [Nat.testBit_and]
    cases hd : d.testBit k
    · rfl
    · rw [h k hd]; rfl
def maskOf : List Nat → Nat
  | [] => 0
  | d :: l => orB d (maskOf l)
theorem hasB_maskOf {k : Nat} : ∀ {l : List Nat}, hasB (maskOf l) k = true ↔ k ∈ l
  | [] => by simp [maskOf, hasB_zero]
  | d :: l => by
    simp only [maskOf, hasB_orB, Bool.or_eq_true, decide_eq_true_eq, List.mem_cons, hasB_maskOf]
    constructor <;> rintro (h | h)
    · exact .inl h.symm
    · exact .inr h
    · exact .inl h.symm
    · exact .inr h
def edgeM : List Edge → Nat
  | [] => 0
  | e :: l => bif Region.binds .any e then orB e.on (edgeM l) else edgeM l
theorem hasB_edgeM {k : Nat} : ∀ {l : List Edge}, hasB (edgeM l) k = true ↔ ∃ e ∈ l, Region.binds .any e = true ∧ e.on = k
  | [] => by simp [edgeM, hasB_zero]
  | e :: l => by
    simp only [edgeM]
    cases hb : Region.binds .any e
    · simp only [cond_false, hasB_edgeM, List.mem_cons]
      constructor
      · rintro ⟨x, hx, h⟩; exact ⟨x, .inr hx, h⟩
      · rintro ⟨x, rfl | hx, h⟩
        · rw [hb] at h; cases h.1
        · exact ⟨x, hx, h⟩
    · simp only [cond_true, hasB_orB, Bool.or_eq_true, decide_eq_true_eq, hasB_edgeM, List.mem_cons]
      constructor
      · rintro (h | ⟨x, hx, h⟩)
        · exact ⟨e, .inl rfl, hb, h⟩
        · exact ⟨x, .inr hx, h⟩
      · rintro ⟨x, rfl | hx, h⟩
        · exact .inl h.2
        · exact .inr ⟨x, hx, h⟩
/-- An operation: what it waits for, looks at, writes; is it a load? -/
inductive Rw where
  | mk (dep look dst : Nat) (load : Bool)
def Rw.dep : Rw → Nat | .mk d _ _ _ => d
def Rw.look : Rw → Nat | .mk _ l _ _ => l
def Rw.dst : Rw → Nat | .mk _ _ d _ => d
def Rw.load : Rw → Bool | .mk _ _ _ l => l
def dstM : Option Nat → Nat
  | some d => orB d 0
  | none => 0
def rawOf (ops : Array Oper) (o : Oper) : Rw := .mk (edgeM o.after.toList) (maskOf (o.looksAt ops)) (dstM o.dst) (isLoad o)
def apartM (x y : Rw) : Bool := Nat.beq (Nat.land x.dst (Nat.lor y.look y.dst)) 0 && Nat.beq (Nat.land y.dst x.look) 0
theorem land_zero {a b k : Nat} (h : Nat.beq (Nat.land a b) 0 = true) (ha : hasB a k = true) : hasB b k = false := by
  rw [Nat.beq_eq] at h
  have e : Nat.land a b = a &&& b := rfl
  rw [e] at h
  simp only [hasB_test] at *
  have := congrArg (fun m => Nat.testBit m k) h
  simp only [Nat.testBit_and, Nat.zero_testBit, ha, Bool.true_and] at this
  exact this
theorem hasB_dstM {d : Nat} : hasB (dstM (some d)) d = true := by simp [dstM, hasB_orB]
theorem apartM_apart {ops : Array Oper} {x y : Oper} (h : apartM (rawOf ops x) (rawOf ops y) = true) : x.apart ops y = true := by
  unfold apartM at h
  simp only [rawOf, Rw.dst, Rw.look, Bool.and_eq_true] at h
  obtain ⟨h1, h2⟩ := h
  unfold Oper.apart
  rw [Bool.and_eq_true]
  constructor
  · split
    · rename_i d hd
      rw [hd] at h1
      have := land_zero h1 hasB_dstM
      have e : ∀ a b : Nat, Nat.lor a b = a ||| b := fun _ _ => rfl
      rw [e] at this
      simp only [hasB_test] at this
      rw [Nat.testBit_or, Bool.or_eq_false_iff] at this
      obtain ⟨k1, k2⟩ := this
      rw [Bool.and_eq_true]
      constructor
      · cases hc : (y.looksAt ops).contains d
        · rfl
        · have : hasB (maskOf (y.looksAt ops)) d = true := hasB_maskOf.2 (List.contains_iff_mem.1 hc)
          simp only [hasB_test] at this
          rw [k1] at this; cases this
      · rw [bne_iff_ne]
        intro e
        rw [e] at k2
        have := hasB_dstM (d := d)
        simp only [hasB_test] at this
        rw [k2] at this; cases this
    · rfl
  · split
    · rename_i d hd
      rw [hd] at h2
      have := land_zero h2 hasB_dstM
      cases hc : (x.looksAt ops).contains d
      · rfl
      · have h3 : hasB (maskOf (x.looksAt ops)) d = true := hasB_maskOf.2 (List.contains_iff_mem.1 hc)
        rw [this] at h3; cases h3
    · rfl
def confM (i : Nat) (x : Rw) : List Rw → Nat → Nat
  | [], _ => 0
  | y :: l, j => bif Nat.beq i j || hasB y.dep i || apartM x y then confM i x l (j + 1) else orB j (confM i x l (j + 1))
theorem confM_spec {i : Nat} {x : Rw} : ∀ {l : List Rw} {j k : Nat} {y : Rw}, l[k]? = some y → i ≠ j + k → hasB y.dep i = false → hasB (confM i x l j) (j + k) = false → apartM x y = true
  | [], _, _, _, h, _, _, _ => by simp at h
  | z :: l, j, 0, y, h, hne, hd, hc => by
    simp only [List.getElem?_cons_zero, Option.some.injEq] at h
    subst h
    cases ha : apartM x z
    · exfalso
      have hij : Nat.beq i j = false := by
        cases hb : Nat.beq i j
        · rfl
        · rw [Nat.beq_eq] at hb; exact absurd hb (by simpa using hne)
      simp only [confM, hij, hd, ha, Bool.or_self, cond_false, hasB_orB, Nat.add_zero, decide_true, Bool.true_or] at hc
      cases hc
    · rfl
  | z :: l, j, k + 1, y, h, hne, hd, hc => by
    simp only [List.getElem?_cons_succ] at h
    have e : j + (k + 1) = (j + 1) + k := by omega
    refine confM_spec (j := j + 1) h (by omega) hd ?_
    rw [← e]
    simp only [confM] at hc
    cases hb : (Nat.beq i j || hasB z.dep i || apartM x z) <;> rw [hb] at hc
    · simp only [cond_false, hasB_orB, Bool.or_eq_false_iff] at hc
      exact hc.2
    · exact hc
def looseM (i dep : Nat) : List Rw → Nat → Bool
  | [], _ => false
  | y :: l, j => (y.load && !(Nat.beq i j) && !(hasB dep j)) || looseM i dep l (j + 1)
theorem looseM_iff {i dep : Nat} : ∀ {l : List Rw} {j : Nat}, looseM i dep l j = true ↔ ∃ k y, l[k]? = some y ∧ y.load = true ∧ i ≠ j + k ∧ hasB dep (j + k) = false
  | [], j => by simp [looseM]
  | y :: l, j => by
    simp only [looseM, Bool.or_eq_true, Bool.and_eq_true, Bool.not_eq_true', looseM_iff (l := l)]
    constructor
    · rintro (⟨⟨h1, h2⟩, h3⟩ | ⟨k, z, hz, h⟩)
      · refine ⟨0, y, rfl, h1, ?_, h3⟩
        intro e
        rw [Nat.add_zero] at e
        rw [e] at h2
        simp at h2
      · exact ⟨k + 1, z, by simpa using hz, h.1, by omega, by rw [← h.2.2]; congr 1; omega⟩
    · rintro ⟨k, z, hz, h⟩
      cases k with
      | zero =>
        simp only [List.getElem?_cons_zero, Option.some.injEq] at hz
        subst hz
        refine .inl ⟨⟨h.1, ?_⟩, h.2.2⟩
        cases hb : Nat.beq i j
        · rfl
        · rw [Nat.beq_eq] at hb; exact absurd hb h.2.1
      | succ k =>
        simp only [List.getElem?_cons_succ] at hz
        exact .inr ⟨k, z, hz, h.1, by omega, by rw [← h.2.2]; congr 1; omega⟩
/-- An operation's row: what it waits for; which operations must be listed for it to be free; is a load loose behind it? -/
inductive Dg where
  | mk (dep conf : Nat) (lo : Bool)
def Dg.dep : Dg → Nat | .mk d _ _ => d
def Dg.conf : Dg → Nat | .mk _ c _ => c
def Dg.lo : Dg → Bool | .mk _ _ l => l
def dgs (all : List Rw) : Nat → List Rw → List Dg
  | _, [] => []
  | i, x :: l => .mk x.dep (confM i x all 0) (looseM i x.dep all 0) :: dgs all (i + 1) l
theorem dgs_get {all : List Rw} : ∀ {l : List Rw} {i k : Nat}, (dgs all i l)[k]? = (l[k]?).map fun x => Dg.mk x.dep (confM (i + k) x all 0) (looseM (i + k) x.dep all 0)
  | [], _, _ => by simp [dgs]
  | x :: l, i, 0 => by simp [dgs]
  | x :: l, i, k + 1 => by
    simp only [dgs, List.getElem?_cons_succ, dgs_get (l := l)]
    have e : i + 1 + k = i + (k + 1) := by omega
    rw [e]
def raws (ops : Array Oper) : List Rw := ops.toList.map (rawOf ops)
def digest (ops : Array Oper) : List Dg := dgs (raws ops) 0 (raws ops)
theorem digest_length (ops : Array Oper) : (digest ops).length = ops.size := by
  unfold digest
  have h : ∀ all l i, (dgs all i l).length = l.length := by
    intro all l
    induction l with
    | nil => intro i; rfl
    | cons x l ih => intro i; simp [dgs, ih]
  rw [h]
  simp [raws]
theorem raws_get {ops : Array Oper} {i : Nat} : (raws ops)[i]? = (ops[i]?).map (rawOf ops) := by
  simp [raws]
theorem digest_get {ops : Array Oper} {i : Nat} {o : Oper} (ho : ops[i]? = some o) : (digest ops)[i]? = some (.mk (edgeM o.after.toList) (confM i (rawOf ops o) (raws ops) 0) (looseM i (edgeM o.after.toList) (raws ops) 0)) := by
  unfold digest
  rw [dgs_get, raws_get, ho]
  simp [rawOf, Rw.dep]
theorem waitsB_has {o : Oper} {i : Nat} : hasB (edgeM o.after.toList) i = waitsB o i := by
  cases hw : waitsB o i
  · cases hb : hasB (edgeM o.after.toList) i
    · rfl
    · obtain ⟨e, he, h1, h2⟩ := hasB_edgeM.1 hb
      unfold waitsB at hw
      rw [Array.any_eq_false'] at hw
      exact absurd (by simp [h1, h2]) (hw e (Array.mem_toList_iff.1 he))
  · unfold waitsB at hw
    obtain ⟨e, he, hb⟩ := Array.any_eq_true'.1 hw
    simp only [Bool.and_eq_true, beq_iff_eq] at hb
    exact hasB_edgeM.2 ⟨e, Array.mem_toList_iff.2 he, hb⟩
theorem loose_has {ops : Array Oper} {i : Nat} {o : Oper} (ho : ops[i]? = some o) : looseM i (edgeM o.after.toList) (raws ops) 0 = loose ops i := by
  rw [Bool.eq_iff_iff, looseM_iff]
  unfold loose
  rw [ho]
  simp only [List.any_eq_true, List.mem_range]
  constructor
  · rintro ⟨k, y, hy, h1, h2, h3⟩
    rw [Nat.zero_add] at h2 h3
    rw [raws_get] at hy
    cases hk : ops[k]? with
    | none => rw [hk] at hy; cases hy
    | some ok =>
      rw [hk] at hy
      simp only [Option.map_some, Option.some.injEq] at hy
      subst hy
      refine ⟨k, (Array.getElem?_eq_some_iff.1 hk).1, ?_⟩
      rw [hk]
      rw [waitsB_has] at h3
      simp only [rawOf, Rw.load] at h1
      simp [h1, h3, Ne.symm h2]
  · rintro ⟨k, hk, h⟩
    cases hok : ops[k]? with
    | none => rw [hok] at h; cases h
    | some ok =>
      rw [hok] at h
      simp only [Bool.and_eq_true, Bool.not_eq_true', beq_eq_false_iff_ne] at h
      refine ⟨k, rawOf ops ok, by rw [raws_get, hok]; rfl, h.1.1, ?_, ?_⟩
      · rw [Nat.zero_add]; exact fun e => h.1.2 e.symm
      · rw [Nat.zero_add, waitsB_has]; exact h.2

/-- What is listed, as an array. -/
def listedOf (n L : Nat) : Array Bool := ((List.range n).map (hasB L)).toArray
theorem listedOf_getD {n L i : Nat} {d : Bool} : (listedOf n L).getD i d = if i < n then hasB L i else d := by
  unfold listedOf
  by_cases h : i < n <;> simp [h, Array.getD]
theorem listedOf_set {n L i : Nat} (hi : i < n) : (listedOf n L).setIfInBounds i true = listedOf n (orB i L) := by
  refine Array.ext (by simp [listedOf]) fun k h1 h2 => ?_
  have hk : k < n := by simpa [listedOf] using h2
  rw [Array.getElem_setIfInBounds]
  · simp only [listedOf, List.getElem_toArray, List.getElem_map, List.getElem_range, hasB_orB]
    split
    · rename_i e; simp [e]
    · rename_i e; simp [e]
  · simpa [listedOf] using hk
theorem listedOf_zero (n : Nat) : Array.replicate n false = listedOf n 0 := by
  refine Array.ext (by simp [listedOf]) fun k h1 h2 => ?_
  simp [listedOf, hasB_zero]
def readyB (L i : Nat) (d : Dg) : Bool := !(hasB L i) && covers L d.dep
def readyD (L : Nat) : List Dg → Nat → List Nat
  | [], _ => []
  | d :: l, i => bif readyB L i d then i :: readyD L l (i + 1) else readyD L l (i + 1)
theorem readyD_mem {L : Nat} : ∀ {l : List Dg} {i k : Nat}, k ∈ readyD L l i ↔ ∃ j d, l[j]? = some d ∧ k = i + j ∧ readyB L k d = true
  | [], i, k => by simp [readyD]
  | d :: l, i, k => by
    have key : k ∈ readyD L (d :: l) i ↔ (k = i ∧ readyB L i d = true) ∨ k ∈ readyD L l (i + 1) := by
      simp only [readyD]
      cases hb : readyB L i d <;> simp
    rw [key, readyD_mem]
    constructor
    · rintro (⟨rfl, h⟩ | ⟨j, e, he, hk, h⟩)
      · exact ⟨0, d, rfl, rfl, h⟩
      · exact ⟨j + 1, e, by simpa using he, by omega, h⟩
    · rintro ⟨j, e, he, hk, h⟩
      cases j with
      | zero =>
        simp only [List.getElem?_cons_zero, Option.some.injEq] at he
        subst he
        rw [Nat.add_zero] at hk
        subst hk
        exact .inl ⟨rfl, h⟩
      | succ j =>
        simp only [List.getElem?_cons_succ] at he
        exact .inr ⟨j, e, he, by omega, h⟩
theorem readyB_ready {ops : Array Oper} {L i : Nat} {d : Dg} (hL : ∀ k, ops.size ≤ k → hasB L k = false) (hd : (digest ops)[i]? = some d) (h : readyB L i d = true) : i ∈ Region.ready .any ops (listedOf ops.size L) := by
  have hi : i < ops.size := by
    rw [← digest_length]
    exact (List.getElem?_eq_some_iff.1 hd).1
  have ho : ops[i]? = some ops[i] := Array.getElem?_eq_getElem hi
  rw [digest_get ho] at hd
  simp only [Option.some.injEq] at hd
  subst hd
  simp only [readyB, Dg.dep, Bool.and_eq_true, Bool.not_eq_true'] at h
  rw [mem_ready]
  refine ⟨by rw [listedOf_getD, if_pos hi]; exact h.1, _, ho, fun e he hb => ?_⟩
  rw [listedOf_getD]
  have h2 := covers_has.1 h.2 e.on (hasB_edgeM.2 ⟨e, Array.mem_toList_iff.2 he, hb, rfl⟩)
  split
  · exact h2
  · rename_i hn
    rw [hL _ (Nat.le_of_not_lt hn)] at h2
    cases h2
theorem ready_readyD {ops : Array Oper} {L i : Nat} (h : i ∈ Region.ready .any ops (listedOf ops.size L)) : i ∈ readyD L (digest ops) 0 := by
  obtain ⟨h1, o, ho, h2⟩ := mem_ready.1 h
  have hi : i < ops.size := (Array.getElem?_eq_some_iff.1 ho).1
  rw [listedOf_getD, if_pos hi] at h1
  rw [readyD_mem]
  refine ⟨i, _, digest_get ho, by omega, ?_⟩
  simp only [readyB, Dg.dep, Bool.and_eq_true, Bool.not_eq_true']
  refine ⟨h1, covers_has.2 fun k hk => ?_⟩
  obtain ⟨e, he, hb, rfl⟩ := hasB_edgeM.1 hk
  have := h2 e (Array.mem_toList_iff.1 he) hb
  rw [listedOf_getD] at this
  split at this
  · exact this
  · cases this
theorem conf_free {ops : Array Oper} {L i : Nat} {d : Dg} {oi : Oper} (hd : (digest ops)[i]? = some d) (hoi : ops[i]? = some oi) (h : covers L d.conf = true) (j : Nat) (oj : Oper) (hj : ops[j]? = some oj) (hne : j ≠ i)
    (hun : (listedOf ops.size L).getD j true = false) (hno : ∀ e ∈ oj.after, Region.binds .any e = true → e.on ≠ i) : oi.apart ops oj = true := by
  rw [digest_get hoi] at hd
  simp only [Option.some.injEq] at hd
  subst hd
  simp only [Dg.conf] at h
  have hjs : j < ops.size := (Array.getElem?_eq_some_iff.1 hj).1
  rw [listedOf_getD, if_pos hjs] at hun
  refine apartM_apart (confM_spec (i := i) (j := 0) (k := j) (l := raws ops) (by rw [raws_get, hj]; rfl) (by omega) ?_ ?_)
  · simp only [rawOf, Rw.dep]
    rw [waitsB_has]
    unfold waitsB
    rw [Array.any_eq_false']
    intro e he hc
    simp only [Bool.and_eq_true, beq_iff_eq] at hc
    exact hno e he hc.1 hc.2
  · rw [Nat.zero_add]
    cases hb : hasB (confM i (rawOf ops oi) (raws ops) 0) j
    · rfl
    · rw [covers_has.1 h j hb] at hun; cases hun

-- written out
section
variable {α : Sort _}
def outN (n : Nat) (K : Nat → α) : α := match n with | 0 => K 0 | n + 1 => K (n + 1)
theorem outN_eq (n : Nat) (K : Nat → α) : outN n K = K n := by cases n <;> rfl
def outB (b : Bool) (K : Bool → α) : α := match b with | true => K true | false => K false
theorem outB_eq (b : Bool) (K : Bool → α) : outB b K = K b := by cases b <;> rfl
def outR (K : List Rw → α) : List Rw → α
  | [] => K []
  | .mk a b c d :: l => outN a fun a => outN b fun b => outN c fun c => outB d fun d => outR (fun l => K (.mk a b c d :: l)) l
theorem outR_eq : ∀ (l : List Rw) (K : List Rw → α), outR K l = K l
  | [], _ => rfl
  | .mk a b c d :: l, K => by simp only [outR, outN_eq, outB_eq, outR_eq l]
def outD (K : List Dg → α) : List Dg → α
  | [] => K []
  | .mk a b c :: l => outN a fun a => outN b fun b => outB c fun c => outD (fun l => K (.mk a b c :: l)) l
theorem outD_eq : ∀ (l : List Dg) (K : List Dg → α), outD K l = K l
  | [], _ => rfl
  | .mk a b c :: l, K => by simp only [outD, outN_eq, outB_eq, outD_eq l]
def digestK (ops : Array Oper) (K : List Dg → α) : α := outR (fun rs => outD K (dgs rs 0 rs)) (raws ops)
theorem digestK_eq (ops : Array Oper) (K : List Dg → α) : digestK ops K = K (digest ops) := by
  unfold digestK
  rw [outR_eq, outD_eq]
  rfl
end
end Go.Proofs.Ytgiakcepgbpchaa
namespace Go.Proofs.Ytgiakcepgbpchaa
open Go Go.RowKit

section
variable {E : EXT} {P : Program}

def litS (b : Bool) : SV := .c (.boo true b)
theorem actOf_lit {ν : Nat → Nat} {f : SF} {t : Nat} {l b : Bool} (h : f.at t = .c (.boo l b)) : actOf ν (f.set (some t) (litS b)) = actOf ν f := by
  have hlt : t < f.n := by
    by_cases h' : t < f.n
    · exact h'
    · rw [SF.at_ge h'] at h; cases h
  rw [SF.at_lt hlt] at h
  refine actOf_of rfl fun i _ => ?_
  simp only [SF.set]
  rw [ST.get_put]
  split
  · rename_i e
    subst e
    rw [h]
    simp [litS, SV.den, SC.den]
  · rfl

def guardE (ops : Array Oper) (f : SF) (s : Scr E) (o : Oper) (want skip : SF → Scr E → Prop) : Prop :=
  match o.guard with
  | none => want f s
  | some (g, b) => match (ops[g]?).bind (·.dst) with
    | none => skip f s
    | some t => match f.at t with
      | .c (.boo true q) => bif q == b then want f s else skip f s
      | .c (.boo false q) => onTest q s (fun s => bif b then want (f.set (some t) (litS true)) s else skip (f.set (some t) (litS true)) s)
          (fun s => bif b then skip (f.set (some t) (litS false)) s else want (f.set (some t) (litS false)) s)
      | .tup [] => skip f s
      | _ => Stuck 360
theorem yielded_boo {ops : Array Oper} {f : SF} {g t : Nat} {l q : Bool} (ν : Nat → Nat) (hd : (ops[g]?).bind (·.dst) = some t) (h : f.at t = .c (.boo l q)) : yielded ops (actOf ν f).tmps g = some q := by
  have hlt : t < f.n := by
    by_cases h' : t < f.n
    · exact h'
    · rw [SF.at_ge h'] at h; cases h
  rw [SF.at_lt hlt] at h
  unfold yielded
  rw [hd]
  have e : (actOf ν f).tmps[t]? = some (.bool q) := by rw [actOf_tmp, if_pos hlt, h]; simp [SV.den, SC.den]
  simp [e]
theorem yielded_und {ops : Array Oper} {f : SF} {g t : Nat} (ν : Nat → Nat) (hd : (ops[g]?).bind (·.dst) = some t) (h : f.at t = .tup []) : yielded ops (actOf ν f).tmps g = none := by
  unfold yielded
  rw [hd]
  by_cases hlt : t < f.n
  · rw [SF.at_lt hlt] at h
    have e : (actOf ν f).tmps[t]? = some undef := by rw [actOf_tmp, if_pos hlt, h]; rfl
    simp [e, undef]
  · have e : (actOf ν f).tmps[t]? = none := by rw [actOf_tmp, if_neg hlt]
    simp [e]
theorem guardE_sound {ops : Array Oper} {f : SF} {s : Scr E} {o : Oper} {want skip : SF → Scr E → Prop} (h : guardE ops f s o want skip) (ν : Nat → Nat) :
    ∃ f' s', actOf ν f' = actOf ν f ∧ ((Region.wanted o (yielded ops (actOf ν f).tmps) = true ∧ want f' s') ∨ (Region.wanted o (yielded ops (actOf ν f).tmps) = false ∧ skip f' s')) := by
  unfold guardE at h
  split at h
  · rename_i hg
    exact ⟨f, s, rfl, .inl ⟨by simp [Region.wanted, hg], h⟩⟩
  · rename_i g b hg
    split at h
    · rename_i hd
      refine ⟨f, s, rfl, .inr ⟨?_, h⟩⟩
      simp [Region.wanted, hg, yielded, hd]
    · rename_i t hd
      split at h
      · rename_i q hq
        refine ⟨f, s, rfl, ?_⟩
        simp only [Region.wanted, hg, yielded_boo ν hd hq]
        cases q <;> cases b <;> first | exact .inl ⟨rfl, h⟩ | exact .inr ⟨rfl, h⟩
      · rename_i q hq
        simp only [Region.wanted, hg, yielded_boo ν hd hq]
        rcases onTest_sound h with ⟨hb, s, h2⟩ | ⟨hb, s, h2⟩ <;> subst hb
        · refine ⟨_, s, actOf_lit hq, ?_⟩
          cases b <;> simp only [cond_true, cond_false] at h2
          · exact .inr ⟨rfl, h2⟩
          · exact .inl ⟨rfl, h2⟩
        · refine ⟨_, s, actOf_lit hq, ?_⟩
          cases b <;> simp only [cond_true, cond_false] at h2
          · exact .inl ⟨rfl, h2⟩
          · exact .inr ⟨rfl, h2⟩
      · rename_i hq
        refine ⟨f, s, rfl, .inr ⟨?_, h⟩⟩
        simp [Region.wanted, hg, yielded_und ν hd hq]
      · exact h.elim

def opsE (P : Program) (call : CallF E) (wr : Nat → Bool) (ops : Array Oper) (base top : Nat) : List Nat → SF → Mem E → Scr E → KO E → Prop
  | [], f, m, s, K => K f m s
  | i :: l, f, m, s, K => match ops[i]? with
    | none => Stuck 361
    | some o => guardE ops f s o (fun f s => opE P call wr f m s (base + i) top o fun f m s => opsE P call wr ops base top l f m s K) (fun f s => opsE P call wr ops base top l (f.set o.dst .und) m s K)

/-- Behind a region: its end alone. -/
def QR (K : KO E) (n : Nat) (ν : Nat → Nat) (R : Assn) (w0 : World) (e : Exit) (a : Act) (w : World) : Prop :=
  match e with
  | .normal => GoodR K n ν R w0 a w
  | _ => False
theorem GoodR.agree {K : KO E} {n : Nat} {ν μ : Nat → Nat} {R : Assn} {w0 : World} {a : Act} {w : World} (h : GoodR K n μ R w0 a w) (ha : Agree n ν μ) : GoodR K n ν R w0 a w := by
  obtain ⟨f, m, s, ξ, k, ag, r⟩ := h
  exact ⟨f, m, s, ξ, k, ha.trans ag (Nat.le_refl _), r⟩

theorem opsE_sound {call : CallF E} (hc : CallOk P call) (hf : NamesOk P) {wr : Nat → Bool} {ops : Array Oper} {base top n : Nat} (hb : n ≤ base) {ν0 : Nat → Nat} {w0 : World} {R : Assn} {K : KO E} :
    ∀ (l : List Nat) (f : SF) (m : Mem E) (s : Scr E), opsE P call wr ops base top l f m s K → n ≤ m.nx → ∀ (ν : Nat → Nat) (w : World), Agree n ν0 ν → Sat w (m.hp.den ν * R) → Kept w0 w → wpOps P ops (QR K n ν0 R w0) l (actOf ν f) w
  | [], f, m, s, h, hn, ν, w, ag, H, HK => ⟨f, m, s, ν, h, ag, hn, rfl, H, HK⟩
  | i :: l, f, m, s, h, hn, ν, w, ag, H, HK => by
    simp only [opsE] at h
    split at h
    · exact h.elim
    · rename_i o ho
      simp only [wpOps, ho]
      obtain ⟨f', s', hf', hg | hg⟩ := guardE_sound h ν
      · rw [if_pos hg.1, ← hf']
        refine .inl (Oper.wp_mono (fun a w' hgood => ?_) (opE_sound hc hf hn (Nat.le_trans hb (Nat.le_add_right _ _)) hg.2 H HK _))
        obtain ⟨f2, m2, s2, μ, k, ag2, hn2, rfl, H2, HK2⟩ := hgood
        exact opsE_sound hc hf hb l f2 m2 s2 k hn2 μ w' (ag.trans ag2 (Nat.le_refl _)) H2 HK2
      · rw [if_neg (by simp [hg.1])]
        rw [← hf', ← SV.den_und ν, actOf_put]
        exact opsE_sound hc hf hb l _ m s' hg.2 hn ν w ag H HK

def wantedS (ops : Array Oper) (f : SF) (o : Oper) : Option Bool :=
  match o.guard with
  | none => some true
  | some (g, b) => match (ops[g]?).bind (·.dst) with
    | none => some false
    | some t => match f.at t with
      | .c (.boo true q) => some (q == b)
      | .tup [] => some false
      | _ => none
theorem wantedS_sound {ops : Array Oper} {f : SF} {o : Oper} {b : Bool} (h : wantedS ops f o = some b) (ν : Nat → Nat) : Region.wanted o (yielded ops (actOf ν f).tmps) = b := by
  unfold wantedS at h
  split at h
  · rename_i hg; cases h; simp [Region.wanted, hg]
  · rename_i g b' hg
    split at h
    · rename_i hd; cases h; simp [Region.wanted, hg, yielded, hd]
    · rename_i t hd
      split at h
      · rename_i q hq
        cases h
        simp only [Region.wanted, hg, yielded_boo ν hd hq]
        cases q <;> cases b' <;> rfl
      · rename_i hq
        cases h
        simp [Region.wanted, hg, yielded_und ν hd hq]
      · cases h
/-- What it gives, if it is quiet. -/
def takeV (P : Program) (wr : Nat → Bool) (ops : Array Oper) (h0 : SH E) (f : SF) (i : Nat) : Option (Option Prop × SV) :=
  match ops[i]? with
  | some o => (match wantedS ops f o with
      | some false => some (none, .und)
      | some true => match evalOp P (wr (o.dst.getD 0)) f (bif isLoad o then h0 else []) o with
        | .ok v => some (none, v)
        | .need p v => some (some p, v)
        | _ => none
      | none => none)
  | none => none
/-- The first that is ready, free and quiet. -/
def firstD {α : Type} (g : Nat → Option α) (L : Nat) : List Dg → Nat → Option (Nat × α)
  | [], _ => none
  | d :: l, i => bif readyB L i d && covers L d.conf then (match g i with
      | some a => some (i, a)
      | none => firstD g L l (i + 1)) else firstD g L l (i + 1)
theorem firstD_mem {α : Type} {g : Nat → Option α} {L : Nat} : ∀ {l : List Dg} {i k : Nat} {a : α}, firstD g L l i = some (k, a) → ∃ j d, l[j]? = some d ∧ k = i + j ∧ readyB L k d = true ∧ covers L d.conf = true ∧ g k = some a
  | [], _, _, _, h => by simp [firstD] at h
  | d :: l, i, k, a, h => by
    have next : firstD g L l (i + 1) = some (k, a) → ∃ j e, (d :: l)[j]? = some e ∧ k = i + j ∧ readyB L k e = true ∧ covers L e.conf = true ∧ g k = some a := fun h => by
      obtain ⟨j, e, h1, h2, h3⟩ := firstD_mem h
      exact ⟨j + 1, e, by simpa using h1, by omega, h3⟩
    simp only [firstD] at h
    cases hb : readyB L i d && covers L d.conf <;> rw [hb] at h
    · exact next h
    · simp only [cond_true] at h
      split at h
      · rename_i b hg
        simp only [Option.some.injEq, Prod.mk.injEq] at h
        obtain ⟨rfl, rfl⟩ := h
        simp only [Bool.and_eq_true] at hb
        exact ⟨0, d, rfl, rfl, hb.1, hb.2, hg⟩
      · exact next h
def setP (f : SF) (ops : Array Oper) (i : Nat) (v : SV) : SF := match ops[i]? with | some o => f.set o.dst v | none => f
/-- The others, wherever the one goes: told for any continuation, so that what comes behind is told once. -/
def restP (fk : KO E → KO E) (V : KO E → Nat → Prop) (i : Nat) : List Nat → Prop
  | [] => True
  | j :: l => (∀ K, V (fk K) i → V (fk K) j) ∧ restP fk V i l
theorem restP_mem {fk : KO E → KO E} (hfk : ∀ K, fk K = K) {V : KO E → Nat → Prop} {K : KO E} {i : Nat} (hi : V K i) : ∀ {l : List Nat}, restP fk V i l → ∀ j ∈ l, V K j
  | [], _, _, hj => by cases hj
  | k :: l, h, j, hj => by
    cases hj with
    | head =>
      have := h.1 K
      rw [hfk] at this
      exact this hi
    | tail _ hm => exact restP_mem hfk hi h.2 j hm
/-- The flag of a guard that is not decided yet, of one that is ready. -/
def openG (ops : Array Oper) (f : SF) (o : Oper) : Option (Nat × Bool) := match o.guard with
  | none => none
  | some (g, _) => match (ops[g]?).bind (·.dst) with
    | none => none
    | some t => match f.at t with
      | .c (.boo false q) => some (t, q)
      | _ => none
theorem openG_at {ops : Array Oper} {f : SF} {o : Oper} {t : Nat} {q : Bool} (h : openG ops f o = some (t, q)) : f.at t = .c (.boo false q) := by
  unfold openG at h
  split at h <;> try cases h
  split at h <;> try cases h
  split at h <;> try cases h
  rename_i hq
  exact hq
def firstG (ops : Array Oper) (f : SF) (L : Nat) : List Dg → Nat → Option (Nat × Bool)
  | [], _ => none
  | d :: l, i => bif readyB L i d then (match ops[i]? with
      | some o => (match openG ops f o with
        | some a => some a
        | none => firstG ops f L l (i + 1))
      | none => firstG ops f L l (i + 1)) else firstG ops f L l (i + 1)
theorem firstG_at {ops : Array Oper} {f : SF} {L : Nat} {t : Nat} {q : Bool} : ∀ {l : List Dg} {i : Nat}, firstG ops f L l i = some (t, q) → f.at t = .c (.boo false q)
  | [], _, h => by simp [firstG] at h
  | d :: l, i, h => by
    simp only [firstG] at h
    cases hb : readyB L i d <;> rw [hb] at h
    · exact firstG_at h
    · simp only [cond_true] at h
      split at h
      · split at h
        · rename_i ho
          cases h
          exact openG_at ho
        · exact firstG_at h
      · exact firstG_at h
/-- One that is not quiet, whichever. -/
def goV (P : Program) (call : CallF E) (wr : Nat → Bool) (ops : Array Oper) (base top : Nat) (h0 : SH E) (ds : List Dg) (L : Nat) (f : SF) (m : Mem E) (s : Scr E) (rec : KO E → Nat → SF → Mem E → Scr E → Prop) (K : KO E) (i : Nat) : Prop :=
  match ops[i]? with
  | some o => guardE ops f s o
      (fun f s => opE P call wr f m s (base + i) top o fun f m s => bif ((ds[i]?).map Dg.lo).getD true then subH h0 m.hp (rec K (orB i L) f m s) else rec K (orB i L) f m s)
      (fun f s => rec K (orB i L) (f.set o.dst .und) m s)
  | none => Stuck 371
def goB (fk : KO E → KO E) (P : Program) (call : CallF E) (wr : Nat → Bool) (ops : Array Oper) (base top : Nat) (h0 : SH E) (ds : List Dg) (L : Nat) (f : SF) (m : Mem E) (s : Scr E) (K : KO E) (rec : KO E → Nat → SF → Mem E → Scr E → Prop) : Prop :=
  match readyD L ds 0 with
  | [] => K f m s
  | i :: l => goV P call wr ops base top h0 ds L f m s rec K i ∧ restP fk (goV P call wr ops base top h0 ds L f m s rec) i l
def stepB (P : Program) (call : CallF E) (wr : Nat → Bool) (ops : Array Oper) (base top : Nat) (h0 : SH E) (ds : List Dg) (L : Nat) (f : SF) (m : Mem E) (s : Scr E) (K : KO E) (rec : Nat → SF → Mem E → Scr E → Prop) (other : Prop) : Prop :=
  match firstD (takeV P wr ops h0 f) L ds 0 with
  | some (i, none, v) => rec (orB i L) (setP f ops i v) m s
  | some (i, some p, v) => p ∧ rec (orB i L) (setP f ops i v) m s
  | none => other
def anyE (fk : KO E → KO E) (P : Program) (call : CallF E) (wr : Nat → Bool) (ops : Array Oper) (base top : Nat) (h0 : SH E) (ds : List Dg) : Nat → Nat → SF → Mem E → Scr E → KO E → Prop
  | 0, L, f, m, s, K => match readyD L ds 0 with
    | [] => K f m s
    | _ => Stuck 370
  | fuel + 1, L0, f, m, s, K => outN L0 fun L =>
    let rec' := fun L f m s => anyE fk P call wr ops base top h0 ds fuel L f m s K
    let recK := fun K L f m s => anyE fk P call wr ops base top h0 ds fuel L f m s K
    stepB P call wr ops base top h0 ds L f m s K rec' (match firstG ops f L ds 0 with
      | some (t, q) => onTest q s
          (fun s => stepB P call wr ops base top h0 ds L (f.set (some t) (litS true)) m s K rec' (goB fk P call wr ops base top h0 ds L (f.set (some t) (litS true)) m s K recK))
          (fun s => stepB P call wr ops base top h0 ds L (f.set (some t) (litS false)) m s K rec' (goB fk P call wr ops base top h0 ds L (f.set (some t) (litS false)) m s K recK))
      | none => goB fk P call wr ops base top h0 ds L f m s K recK)
end
end Go.Proofs.Ytgiakcepgbpchaa
namespace Go.Proofs.Ytgiakcepgbpchaa
open Go Go.RowKit

section
variable {E : EXT} {P : Program}

theorem Sat.top (w : World) : Sat w (1 * 1) := ⟨Part.none, ⟨Part.none, Part.none, Part.apart_none _, rfl, rfl, rfl⟩, fun _ _ h => by cases h⟩
theorem SH.get_del {h : SH E} {n m : Nat} (hne : m ≠ n) : (h.del n).get m = h.get m := by
  induction h with
  | nil => rfl
  | cons p h ih =>
    obtain ⟨k, o⟩ := p
    simp only [SH.del]
    split
    · rename_i hk
      subst hk
      simp [SH.get, Ne.symm hne]
    · simp only [SH.get]
      rw [ih]
def nodupB : List Nat → Bool
  | [] => true
  | x :: l => !(l.contains x) && nodupB l
theorem subEq_sat {ν : Nat → Nat} {w : World} : ∀ {h0 h : SH E} {R : Assn}, (∀ p ∈ h0, h.get p.1 = some p.2) → nodupB (List.map (fun p => p.1) h0) = true → Sat w (h.den ν * R) → Sat w (h0.den ν * R)
  | [], h, R, _, _, H => by
    simp only [SH.den]
    rw [Assn.one_mul]
    exact H.right
  | (n, o) :: h0, h, R, hs, hn, H => by
    simp only [List.map_cons, nodupB, Bool.and_eq_true, Bool.not_eq_true'] at hn
    rw [SH.den_get ν (hs (n, o) List.mem_cons_self), Assn.mul_assoc] at H
    simp only [SH.den]
    have hd : ∀ p ∈ h0, (h.del n).get p.1 = some p.2 := fun p hp => by
      rw [SH.get_del]
      · exact hs p (List.mem_cons_of_mem _ hp)
      · intro e
        have h1 := hn.1
        simp at h1
        exact h1 p.2 (by rw [← e]; exact hp)
    have H' : Sat w ((h.del n).den ν * (o.den ν (ν n) * R)) := H.cast (by ac_rfl)
    have := subEq_sat hd hn.2 H'
    exact this.cast (by ac_rfl)
theorem subH_sat {h0 h : SH E} {q : Prop} (hs : subH h0 h q) (hn : nodupB (List.map (fun p => p.1) h0) = true) {ν : Nat → Nat} {w : World} {R : Assn} (H : Sat w (h.den ν * R)) : Sat w (h0.den ν * R) := by
  obtain ⟨⟨h1, e1, e2, e3⟩, _⟩ := subH_img hs
  rw [← e3]
  exact subEq_sat e2 (by rw [e1]; exact hn) H

/-- What is shown of a state in a region: whichever order, from what is listed. -/
def AnyOk (P : Program) (ops : Array Oper) (n : Nat) (ν0 : Nat → Nat) (w0 : World) (R : Assn) (K : KO E) (h0 : SH E) (fuel L : Nat) (f : SF) (m : Mem E) : Prop :=
  n ≤ m.nx → ∀ (ν : Nat → Nat) (w : World), Agree n ν0 ν → Sat w (m.hp.den ν * R) → Kept w0 w →
      ((∃ i o, ops[i]? = some o ∧ isLoad o = true ∧ (listedOf ops.size L).getD i true = false) → Sat w (h0.den ν0 * R)) →
      wpAnyL P .any ops (QR K n ν0 R w0) (fun w => Sat w (h0.den ν0 * R)) (loose ops) fuel (listedOf ops.size L) (actOf ν f) w
section
variable {call : CallF E} {wr : Nat → Bool} {ops : Array Oper} {base top n : Nat} {ν0 : Nat → Nat} {w0 : World} {R : Assn} {K : KO E} {h0 : SH E}
theorem stepB_sound (hsel : Region.noSelect ops = true) (hlt : h0.names.all (fun m => Nat.blt m n) = true) {fuel L : Nat} {f : SF} {m : Mem E} {s : Scr E} {rec : Nat → SF → Mem E → Scr E → Prop} {other : Prop}
    (hL : ∀ k, ops.size ≤ k → hasB L k = false) (IH : ∀ L f m s, rec L f m s → (∀ k, ops.size ≤ k → hasB L k = false) → AnyOk P ops n ν0 w0 R K h0 fuel L f m)
    (h : stepB P call wr ops base top h0 (digest ops) L f m s K rec other) (ho : other → AnyOk P ops n ν0 w0 R K h0 (fuel + 1) L f m) : AnyOk P ops n ν0 w0 R K h0 (fuel + 1) L f m := by
  intro hn ν w ag H HK hS
  have hden : h0.den ν = h0.den ν0 := (SH.den_eq h0 (names_lt hlt ag)).symm
  have hLi : ∀ i, i < ops.size → ∀ k, ops.size ≤ k → hasB (orB i L) k = false := fun i hi k hk => by
    rw [hasB_orB, hL k hk]
    simp
    omega
  -- one that is taken first
  have take : ∀ i (p : Prop) v, i ∈ Region.ready .any ops (listedOf ops.size L) → (∀ oi, ops[i]? = some oi → ∀ (j : Nat) (oj : Oper), ops[j]? = some oj → j ≠ i → (listedOf ops.size L).getD j true = false → (∀ e ∈ oj.after, Region.binds .any e = true → e.on ≠ i) → oi.apart ops oj = true) →
      (∃ q, takeV P wr ops h0 f i = some (q, v) ∧ q.getD True = p) → p →
      rec (orB i L) (setP f ops i v) m s →
      wpAnyL P .any ops (QR K n ν0 R w0) (fun w => Sat w (h0.den ν0 * R)) (loose ops) (fuel + 1) (listedOf ops.size L) (actOf ν f) w := by
    rintro i p v hr hfree ⟨q, ht, hq⟩ hp h
    unfold takeV at ht
    split at ht <;> try cases ht
    rename_i o ho
    have hi : i < ops.size := (Array.getElem?_eq_some_iff.1 ho).1
    have hset : setP f ops i v = f.set o.dst v := by simp [setP, ho]
    rw [hset] at h
    have hS' : (∃ j o, ops[j]? = some o ∧ isLoad o = true ∧ (listedOf ops.size (orB i L)).getD j true = false) → Sat w (h0.den ν0 * R) := by
      rintro ⟨j, oj, hj, hl, hun⟩
      refine hS ⟨j, oj, hj, hl, ?_⟩
      rw [← listedOf_set hi] at hun
      by_cases hji : i = j
      · subst hji
        simp [hi, listedOf] at hun
      · rw [getD_set_ne true hji] at hun; exact hun
    have IH := IH (orB i L) (f.set o.dst v) m s h (hLi i hi) hn ν w ag H HK hS'
    rw [← actOf_put, ← listedOf_set hi] at IH
    have hQ : ∀ c a w, QR K n ν0 R w0 (.panic c) (a.put o.dst (v.den ν)) w → QR K n ν0 R w0 (.panic c) a w := fun _ _ _ h => h
    have hfr := hfree o ho
    split at ht
    · rename_i hw
      simp only [Option.some.injEq, Prod.mk.injEq] at ht
      obtain ⟨_, rfl⟩ := ht
      exact wpAnyL_pure ho (Region.noSelect_spec hsel) hQ fuel _ _ w hfr hr (.inr ⟨wantedS_sound hw ν, rfl⟩) IH
    · rename_i hw
      have hgives : (evalOp P (wr (o.dst.getD 0)) f (bif isLoad o then h0 else []) o).gives v := by
        split at ht
        · rename_i u he
          simp only [Option.some.injEq, Prod.mk.injEq] at ht
          obtain ⟨_, rfl⟩ := ht
          rw [he]; rfl
        · rename_i p' u he
          simp only [Option.some.injEq, Prod.mk.injEq] at ht
          obtain ⟨rfl, rfl⟩ := ht
          rw [he]
          simp only [Option.getD_some] at hq
          subst hq
          exact ⟨hp, rfl⟩
        · cases ht
      cases hl : isLoad o <;> rw [hl] at hgives
      · simp only [cond_false] at hgives
        refine wpAnyL_pure ho (Region.noSelect_spec hsel) hQ fuel _ _ w hfr hr (.inl ⟨wantedS_sound hw ν, fun w' _ => ?_⟩) IH
        exact evalOp_sound (R := 1) hgives (Sat.top w')
      · simp only [cond_true] at hgives
        have hun := (mem_ready.1 hr).1
        refine wpAnyL_load ho (Region.noSelect_spec hsel) hQ ?_ fuel _ _ w hfr hr (.inl ⟨wantedS_sound hw ν, fun w' hw' => ?_⟩) (hS ⟨i, o, ho, hl, hun⟩) IH
        · intro j oj hj hji hno
          unfold loose
          rw [hj]
          simp only [List.any_eq_true, List.mem_range]
          refine ⟨i, hi, ?_⟩
          rw [ho]
          simp only [hl, Bool.true_and, Bool.and_eq_true, Bool.not_eq_true', beq_eq_false_iff_ne, ne_eq]
          refine ⟨fun e => hji e.symm, ?_⟩
          unfold waitsB
          rw [Array.any_eq_false]
          intro k hk hcon
          simp only [Bool.and_eq_true, beq_iff_eq] at hcon
          exact hno _ (Array.getElem_mem hk) hcon.1 hcon.2
        · rw [← hden] at hw'
          exact evalOp_sound hgives hw'
    · cases ht
  unfold stepB at h
  split at h
  · rename_i i v ht
    obtain ⟨j, d, hd, hij, hr, hcf, ht⟩ := firstD_mem ht
    rw [Nat.zero_add] at hij
    subst hij
    exact take i True v (readyB_ready hL hd hr) (fun oi hoi => conf_free hd hoi hcf) ⟨none, ht, rfl⟩ trivial h
  · rename_i i p v ht
    obtain ⟨j, d, hd, hij, hr, hcf, ht⟩ := firstD_mem ht
    rw [Nat.zero_add] at hij
    subst hij
    exact take i p v (readyB_ready hL hd hr) (fun oi hoi => conf_free hd hoi hcf) ⟨some p, ht, rfl⟩ h.1 h.2
  · exact ho h hn ν w ag H HK hS
theorem goB_sound {fk : KO E → KO E} (hfk : ∀ K, fk K = K) (hc : CallOk P call) (hf : NamesOk P) (hb : n ≤ base) (hnd : nodupB (List.map (fun p => p.1) h0) = true) (hlt : h0.names.all (fun m => Nat.blt m n) = true) {fuel L : Nat} {f : SF} {m : Mem E} {s : Scr E} {rec : KO E → Nat → SF → Mem E → Scr E → Prop}
    (hL : ∀ k, ops.size ≤ k → hasB L k = false) (IH : ∀ L f m s, rec K L f m s → (∀ k, ops.size ≤ k → hasB L k = false) → AnyOk P ops n ν0 w0 R K h0 fuel L f m)
    (h : goB fk P call wr ops base top h0 (digest ops) L f m s K rec) : AnyOk P ops n ν0 w0 R K h0 (fuel + 1) L f m := by
  intro hn ν w ag H HK hS
  have hLi : ∀ i, i < ops.size → ∀ k, ops.size ≤ k → hasB (orB i L) k = false := fun i hi k hk => by
    rw [hasB_orB, hL k hk]
    simp
    omega
  unfold goB at h
  have hmem : ∀ j, j ∈ Region.ready .any ops (listedOf ops.size L) → j ∈ readyD L (digest ops) 0 := fun j hj => ready_readyD hj
  split at h
  · rename_i hr
    exact ⟨fun _ => ⟨f, m, s, ν, h, ag, hn, rfl, H, HK⟩, fun i hi => by have := hmem i hi; rw [hr] at this; cases this⟩
  · rename_i i l hr
    have hne : Region.ready .any ops (listedOf ops.size L) ≠ [] := fun e => by
      have h1 : i ∈ readyD L (digest ops) 0 := by rw [hr]; exact List.mem_cons_self
      obtain ⟨j, d, hd, hij, hrb⟩ := readyD_mem.1 h1
      rw [Nat.zero_add] at hij
      subst hij
      have := readyB_ready hL hd hrb
      rw [e] at this
      cases this
    refine ⟨fun e => absurd e hne, fun j hj => ?_⟩
    have hV : goV P call wr ops base top h0 (digest ops) L f m s rec K j := by
      have hj' := hmem j hj
      rw [hr] at hj'
      cases hj' with
      | head => exact h.1
      | tail _ hm => exact restP_mem hfk h.1 h.2 j hm
    clear h
    unfold goV at hV
    obtain ⟨hun, oj, hoj, hall⟩ := mem_ready.1 hj
    have hjs : j < ops.size := (Array.getElem?_eq_some_iff.1 hoj).1
    have hlo : (((digest ops)[j]?).map Dg.lo).getD true = loose ops j := by
      rw [digest_get hoj]
      simp only [Option.map_some, Option.getD_some, Dg.lo]
      exact loose_has hoj
    rw [hlo] at hV
    simp only [hoj] at hV
    rw [listedOf_set hjs]
    -- what is known of the loads behind it
    have next : ∀ w', (loose ops j = true → Sat w' (h0.den ν0 * R)) → (∃ i o, ops[i]? = some o ∧ isLoad o = true ∧ (listedOf ops.size (orB j L)).getD i true = false) → Sat w' (h0.den ν0 * R) := by
      rintro w' hJ ⟨k, ok, hk, hl, hkun⟩
      refine hJ ?_
      have hi : k < ops.size := (Array.getElem?_eq_some_iff.1 hk).1
      rw [listedOf_getD, if_pos hi, hasB_orB] at hkun
      simp only [Bool.or_eq_false_iff, decide_eq_false_iff_not] at hkun
      unfold loose
      rw [hoj]
      simp only [List.any_eq_true, List.mem_range]
      refine ⟨k, hi, ?_⟩
      rw [hk]
      simp only [hl, Bool.true_and, Bool.and_eq_true, Bool.not_eq_true', beq_eq_false_iff_ne, ne_eq]
      refine ⟨fun e => hkun.1 e.symm, ?_⟩
      unfold waitsB
      rw [Array.any_eq_false]
      intro e he hcon
      simp only [Bool.and_eq_true, beq_iff_eq] at hcon
      have h1 := hall _ (Array.getElem_mem he) hcon.1
      rw [hcon.2, listedOf_getD, if_pos hi, hkun.2] at h1
      cases h1
    unfold wpOp
    simp only [hoj]
    obtain ⟨f', s', hf', hg | hg⟩ := guardE_sound hV ν
    · rw [if_pos hg.1, ← hf']
      refine .inl (Oper.wp_mono (fun a w' hgood => ?_) (opE_sound hc hf hn (Nat.le_trans hb (Nat.le_add_right _ _)) hg.2 H HK _))
      obtain ⟨f2, m2, s2, μ, k, ag2, hn2, rfl, H2, HK2⟩ := hgood
      have ag3 := ag.trans ag2 (Nat.le_refl _)
      have hden2 : h0.den μ = h0.den ν0 := (SH.den_eq h0 (names_lt hlt ag3)).symm
      cases hJ : loose ops j <;> rw [hJ] at k
      · simp only [cond_false] at k
        exact ⟨(fun _ h => by cases h), IH _ f2 m2 s2 k (hLi j hjs) hn2 μ w' ag3 H2 HK2 (next w' (fun h => by rw [hJ] at h; cases h))⟩
      · simp only [cond_true] at k
        have hS2 : Sat w' (h0.den ν0 * R) := by
          rw [← hden2]
          exact subH_sat k hnd H2
        exact ⟨fun _ _ => hS2, IH _ f2 m2 s2 (subH_img k).2 (hLi j hjs) hn2 μ w' ag3 H2 HK2 (next w' fun _ => hS2)⟩
    · rw [if_neg (by simp [hg.1])]
      refine ⟨fun h _ => h, ?_⟩
      rw [← hf', ← SV.den_und ν, actOf_put]
      refine IH _ _ m s' hg.2 (hLi j hjs) hn ν w ag H HK ?_
      rintro ⟨k, ok, hk, hl, hkun⟩
      refine hS ⟨k, ok, hk, hl, ?_⟩
      have hi : k < ops.size := (Array.getElem?_eq_some_iff.1 hk).1
      rw [listedOf_getD, if_pos hi, hasB_orB] at hkun
      simp only [Bool.or_eq_false_iff] at hkun
      rw [listedOf_getD, if_pos hi]
      exact hkun.2
end
theorem anyE_sound {fk : KO E → KO E} (hfk : ∀ K, fk K = K) {call : CallF E} (hc : CallOk P call) (hf : NamesOk P) {wr : Nat → Bool} {ops : Array Oper} (hsel : Region.noSelect ops = true) {base top n : Nat} (hb : n ≤ base) {ν0 : Nat → Nat} {w0 : World} {R : Assn} {K : KO E} {h0 : SH E}
    (hnd : nodupB (List.map (fun p => p.1) h0) = true) (hlt : h0.names.all (fun m => Nat.blt m n) = true) :
    ∀ (fuel L : Nat) (f : SF) (m : Mem E) (s : Scr E), anyE fk P call wr ops base top h0 (digest ops) fuel L f m s K → (∀ k, ops.size ≤ k → hasB L k = false) → AnyOk P ops n ν0 w0 R K h0 fuel L f m
  | 0, L, f, m, s, h, hL => by
    intro hn ν w ag H HK hS
    simp only [anyE] at h
    split at h
    · rename_i hr
      refine ⟨?_, f, m, s, ν, h, ag, hn, rfl, H, HK⟩
      cases hl : Region.ready .any ops (listedOf ops.size L) with
      | nil => rfl
      | cons x l =>
        have := ready_readyD (i := x) (by rw [hl]; exact List.mem_cons_self)
        rw [hr] at this
        cases this
    · exact h.elim
  | fuel + 1, L, f, m, s, h, hL => by
    simp only [anyE] at h
    rw [outN_eq] at h
    have IH : ∀ L f m s, anyE fk P call wr ops base top h0 (digest ops) fuel L f m s K → (∀ k, ops.size ≤ k → hasB L k = false) → AnyOk P ops n ν0 w0 R K h0 fuel L f m := anyE_sound hfk hc hf hsel hb hnd hlt fuel
    refine stepB_sound hsel hlt hL IH h fun h => ?_
    split at h
    · rename_i t q hg
      have hat := firstG_at hg
      intro hn ν w ag H HK hS
      rcases onTest_sound h with ⟨hq, s', h'⟩ | ⟨hq, s', h'⟩ <;> subst hq <;> rw [← actOf_lit hat] <;>
        exact stepB_sound hsel hlt hL IH h' (goB_sound hfk hc hf hb hnd hlt hL IH) hn ν w ag H HK hS
    · exact goB_sound hfk hc hf hb hnd hlt hL IH h
end
end Go.Proofs.Ytgiakcepgbpchaa
