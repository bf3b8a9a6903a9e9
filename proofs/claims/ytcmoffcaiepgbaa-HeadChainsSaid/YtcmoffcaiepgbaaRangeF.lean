/- A range over a function, told in assertions. No program in sight. -/
import Derived.RangeFuncIn
import Derived.RangeFuncRecord
import Derived.RangeFuncSeq
import Derived.Test.YtcmoffcaiepgbaaSep
set_option linter.all false
namespace Go.Proofs.Ytcmoffcaiepgbaa
open Go Go.RowKit

theorem Sat.put {w : World} {b : Nat} {o : Obj} (o' : Obj) {R : Assn} (h : Sat w (own b o * R)) : Sat (w.putObj b o') (own b o' * R) :=
  h.upd (World.putObj_heap_same h.lt) fun _ hi _ => World.putObj_heap_other hi
theorem Kept.put {a w : World} (h : Kept a w) (b : Nat) (o : Obj) : Kept a (w.putObj b o) := ⟨h.os, h.tape, h.output⟩

/-- The iterator g (its captures lb) hands over elements whose keys are ks, in their order (encs: as they come; In: what each one brings with it), or fewer, if it is told to stop; C: what it needs in memory. -/
def Yields {α κ : Type} (F : Fence) (n : Nat) (P : Program) (g : Nat) (lb : Array Value) (encs : α → Array Value) (In : α → Assn) (key : α → κ) (ks : List κ) (C : Assn) : Prop :=
  ∀ (l : Nat) (J Jx : List α → Assn) (w0 W : World),
    (∀ pre x Rf W1, (pre ++ [x]).map key <+: ks → Kept w0 W1 → Sat W1 (J pre * (In x * Rf)) → YieldAt F (n - 1) P l (encs x) W1 fun e W' =>
      Kept w0 W' ∧ ((e = .returned (.bool true) ∧ Sat W' (J (pre ++ [x]) * Rf)) ∨ (e = .returned (.bool false) ∧ Sat W' (Jx (pre ++ [x]) * Rf)))) →
    Kept w0 W → Sat W (J [] * C) →
    CallsIn F n P g (#[.func (.yield l) #[] #[]] ++ lb) W fun e W' => (∃ v, e = .returned v) ∧ Kept w0 W' ∧ ((∃ xs, xs.map key = ks ∧ Sat W' (J xs)) ∨ (∃ pre, pre.map key <+: ks ∧ Sat W' (Jx pre)))
/-- How the body of a round may be left. -/
def roundSat {α : Type} (w0 : World) (I : List α → Assn) (Ix : Code → List α → Assn) (Rf : Assn) (pre : List α) : Exit → Act → World → Prop
  | .normal, _, W' => Kept w0 W' ∧ Sat W' (I pre * Rf)
  | .ret, _, W' => Kept w0 W' ∧ Sat W' (Ix .ret pre * Rf)
  | .exit id, _, W' => Kept w0 W' ∧ Sat W' (Ix (.exit id) pre * Rf)
  | .goto t, _, W' => Kept w0 W' ∧ Sat W' (Ix (.goto t) pre * Rf)
  | .panic _, _, _ => False
  | .outgrown, _, _ => False

variable {F : Fence} {n : Nat} {P : Program}

theorem wpIn_rangeFunc_sat {α κ : Type} {g : Operand} {ps : Array Tmp} {assign body : Code} {Q : Exit → Act → World → Prop} {a : Act} {w : World}
    (hro : F.round = none) (h1 : 1 ≤ n) {gf : Nat} {lb : Array Value} (hg : a.eval g = .func (.func gf) #[] lb) (hFg : F.fn gf) (eg : ∀ args w, (callFunc gf args).run P w = .ok (.enter gf args) w)
    {encs : α → Array Value} {In : α → Assn} {key : α → κ} {ks : List κ} {C : Assn} (hseq : Yields F (n - 1) P gf lb encs In key ks C) (hps : ∀ x, (encs x).size = ps.size)
    (w0 : World) (hk0 : Kept w0 w) (I : List α → Assn) (Ix : Code → List α → Assn) (h0 : Sat w (I [] * C)) (a₁ : α → Act)
    (hassign : ∀ (l : Nat) (x : α) (W : World) (K : Act → World → Prop), K (a₁ x) W →
      assign.wpIn (F.inRound l) (n - 1 - 1) P (Exit.then K (fun _ _ _ => False)) { tmps := (ps.zip (encs x)).foldl (fun t (p, v) => t.setIfInBounds p v) a.tmps, defers := [] } W)
    (hbody : ∀ (l : Nat) (pre : List α) (x : α) (Rf : Assn) (W : World), (pre ++ [x]).map key <+: ks → Kept w0 W → Sat W (I pre * (In x * Rf)) → body.wpIn (F.inRound l) (n - 1 - 1) P (roundSat w0 I Ix Rf (pre ++ [x])) (a₁ x) W)
    (hdone : ∀ (D : Nat) (xs : List α) (W : World), xs.map key = ks → Kept w0 W → Sat W (own D (.deferred (some [])) * I xs) → Q .normal { a with defers := { target := .collected D, args := #[] } :: a.defers } W)
    (hstop : ∀ (D : Nat) (c : Code) (pre : List α) (W : World), pre.map key <+: ks → Kept w0 W → Sat W (own D (.deferred (some [])) * Ix c pre) → c.wpIn F n P Q { a with defers := { target := .collected D, args := #[] } :: a.defers } W) :
    (Code.rangeFunc g ps assign body).wpIn F n P Q a w := by
  refine wpIn_rangeFunc ?_
  intro fn hfn
  rw [hro]
  obtain ⟨rec, hrec⟩ : ∃ rec : LoopState → Option Code → Loop, rec = fun st pe => { state := st, pending := pe, fn, tmps := a.tmps, params := ps, assign, body, defers := w.heap.size } := ⟨_, rfl⟩
  obtain ⟨D, hD⟩ : ∃ D, D = w.heap.size := ⟨_, rfl⟩
  obtain ⟨L, hL⟩ : ∃ L, L = w.heap.size + 1 := ⟨_, rfl⟩
  have hs1 : Sat ((w.alloc (.deferred (some []))).alloc (.loop (rec .ready none))) (own L (.loop (rec .ready none)) * (own D (.deferred (some [])) * (I [] * C))) := by
    have := (h0.alloc (.deferred (some []))).alloc (.loop (rec .ready none))
    rw [World.size_alloc] at this
    rw [hL, hD]; exact this
  have hk1 : Kept w0 ((w.alloc (.deferred (some []))).alloc (.loop (rec .ready none))) := (hk0.alloc _).alloc _
  refine ⟨L, [{ target := .collected D, args := #[] }], (w.alloc (.deferred (some []))).alloc (.loop (rec .ready none)), { target := .fn (.func gf) lb, args := #[.func (.yield L) #[] #[]] }, (w.alloc (.deferred (some []))).alloc (.loop (rec .ready none)), gf,
    #[.func (.yield L) #[] #[]] ++ lb, (w.alloc (.deferred (some []))).alloc (.loop (rec .ready none)), ?_, ?_, ?_, ?_, fun _ => h1, ?_⟩
  · rw [hrec, hL, hD]; exact run_enterLoop_outer _ _ _ _ _
  · simp only [resolve, hg]
    simp [go_sem]
  · intro f' hf'; simp [Target.leads] at hf'; subst hf'; exact hFg
  · simp [invoke, go_sem, eg]
  · generalize (w.alloc (.deferred (some []))).alloc (.loop (rec .ready none)) = W1 at *
    refine (hseq L (fun pre => own L (.loop (rec .ready none)) * (own D (.deferred (some [])) * I pre)) (fun pre => Assn.ex fun c => own L (.loop (rec .done (some c))) * (own D (.deferred (some [])) * Ix c pre)) w0 W1 ?_ hk1 (hs1.cast (by simp only [Assn.mul_assoc]))).mono ?_
    · intro pre x Rf W hpre hkW hsW
      have hsW : Sat W (own L (.loop (rec .ready none)) * (own D (.deferred (some [])) * (I pre * (In x * Rf)))) := hsW.cast (by simp only [Assn.mul_assoc])
      have hy := run_yield (P := P) (args := encs x) hsW.block (by rw [hrec]; exact hps x)
      rw [hrec] at hy
      refine ⟨fn, _, assign, body, hy, roundIn_of_wpIn hfn (hassign _ x W _ ⟨_, run_beginRound hsW.block (by rw [hrec]), ?_⟩)⟩
      have hs2 := hsW.put (.loop { rec .ready none with state := .busy })
      refine wpIn_mono (hbody _ pre x (own L (.loop { rec .ready none with state := .busy }) * (own D (.deferred (some [])) * Rf)) _ hpre (hkW.put _ _) (hs2.cast (by ac_rfl))) ?_
      have fin : ∀ (jump : Option Code) (W3 : World) (X : Assn), Kept w0 W3 → Sat W3 (X * (own L (.loop { rec .ready none with state := .busy }) * (own D (.deferred (some [])) * Rf))) →
          ∃ W4, (Instr.endRound L jump).run P W3 = .ok (.bool jump.isNone) W4 ∧ Kept w0 W4 ∧ Sat W4 (own L (.loop (rec (if jump.isNone then .ready else .done) jump)) * (own D (.deferred (some [])) * (X * Rf))) := fun jump W3 X hk3 hs3 => by
        have hs3 : Sat W3 (own L (.loop { rec .ready none with state := .busy }) * (X * (own D (.deferred (some [])) * Rf))) := hs3.cast (by ac_rfl)
        have he := run_endRound (P := P) jump hs3.block
        have hs4 := hs3.put (.loop (rec (if jump.isNone then .ready else .done) jump))
        exact ⟨_, by rw [hrec] at he ⊢; exact he, hk3.put _ _, hs4.cast (by ac_rfl)⟩
      rintro e a3 W3 hp
      cases e with
      | normal =>
        obtain ⟨W4, h1, h2, h3⟩ := fin none W3 _ hp.1 hp.2
        exact ⟨_, _, h1, h2, .inl ⟨rfl, h3.cast (by simp only [Assn.mul_assoc]; rfl)⟩⟩
      | ret =>
        obtain ⟨W4, h1, h2, h3⟩ := fin (some .ret) W3 _ hp.1 hp.2
        exact ⟨_, _, h1, h2, .inr ⟨rfl, Sat.mk_ex_mul .ret (h3.cast (by simp only [Assn.mul_assoc]; rfl))⟩⟩
      | exit id =>
        obtain ⟨W4, h1, h2, h3⟩ := fin (some (.exit id)) W3 _ hp.1 hp.2
        exact ⟨_, _, h1, h2, .inr ⟨rfl, Sat.mk_ex_mul (.exit id) (h3.cast (by simp only [Assn.mul_assoc]; rfl))⟩⟩
      | goto t =>
        obtain ⟨W4, h1, h2, h3⟩ := fin (some (.goto t)) W3 _ hp.1 hp.2
        exact ⟨_, _, h1, h2, .inr ⟨rfl, Sat.mk_ex_mul (.goto t) (h3.cast (by simp only [Assn.mul_assoc]; rfl))⟩⟩
      | panic ch => exact hp.elim
      | outgrown => exact hp.elim
    · rintro e W2 ⟨⟨v, rfl⟩, hk2, (⟨xs, hx, hs2⟩ | ⟨pre, hpre, hs2⟩)⟩
      · have he := run_endLoop (P := P) hs2.block (by rw [hrec]; simp)
        refine ⟨none, _, by rw [hrec] at he; exact he, hdone D xs _ hx (hk2.put _ _) (hs2.put _).right⟩
      · obtain ⟨c, hs2⟩ := hs2.ex
        have he := run_endLoop (P := P) hs2.block (by rw [hrec]; simp)
        refine ⟨some c, _, by rw [hrec] at he; exact he, hstop D c pre _ hpre (hk2.put _ _) (hs2.put _).right⟩
end Go.Proofs.Ytcmoffcaiepgbaa
