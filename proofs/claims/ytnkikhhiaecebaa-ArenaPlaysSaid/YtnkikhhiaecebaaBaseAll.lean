/- A range over a function, told in assertions. No program in sight. -/
import Derived.RangeFuncIn
import Derived.RangeFuncRecord
import Derived.RangeFuncSeq
import Derived.Test.YtnkikhhiaecebaaBaseMap
import Derived.Test.YtnkikhhiaecebaaBaseAP3
set_option linter.all false
namespace Go.Proofs.Ytnkikhhiaecebaa
open Go Go.RowKit

theorem Sat.put {w : World} {b : Nat} {o : Obj} (o' : Obj) {R : Assn} (h : Sat w (own b o * R)) : Sat (w.putObj b o') (own b o' * R) :=
  h.upd (World.putObj_heap_same h.lt) fun _ hi _ => World.putObj_heap_other hi
theorem Kept.put {a w : World} (h : Kept a w) (b : Nat) (o : Obj) : Kept a (w.putObj b o) := ⟨h.os, h.tape, h.output⟩

def Yields {α κ : Type} (F : Fence) (n : Nat) (P : Program) (g : Nat) (lb : Array Value) (encs : α → Array Value) (In : α → Assn) (key : α → κ) (ks : List κ) (C : Assn) : Prop :=
  ∀ (l : Nat) (J Jx : List α → Assn) (w0 W : World),
    (∀ pre x Rf W1, (pre ++ [x]).map key <+: ks → Kept w0 W1 → Sat W1 (J pre * (In x * Rf)) → YieldAt F (n - 1) P l (encs x) W1 fun e W' =>
      Kept w0 W' ∧ ((e = .returned (.bool true) ∧ Sat W' (J (pre ++ [x]) * Rf)) ∨ (e = .returned (.bool false) ∧ Sat W' (Jx (pre ++ [x]) * Rf)))) →
    Kept w0 W → Sat W (J [] * C) →
    CallsIn F n P g (#[.func (.yield l) #[] #[]] ++ lb) W fun e W' => (∃ v, e = .returned v) ∧ Kept w0 W' ∧ ((∃ xs, xs.map key = ks ∧ Sat W' (J xs)) ∨ (∃ pre, pre.map key <+: ks ∧ Sat W' (Jx pre)))
def roundSat {α : Type} (w0 : World) (I : List α → Assn) (Ix : Code → List α → Assn) (Rf : Assn) (pre : List α) : Exit → Act → World → Prop
  | .normal, _, W' => Kept w0 W' ∧ Sat W' (I pre * Rf)
  | .ret, _, W' => Kept w0 W' ∧ Sat W' (Ix .ret pre * Rf)
  | .exit id, _, W' => Kept w0 W' ∧ Sat W' (Ix (.exit id) pre * Rf)
  | .goto t, _, W' => Kept w0 W' ∧ Sat W' (Ix (.goto t) pre * Rf)
  | .panic _, _, _ => False
  | .outgrown, _, _ => False

variable {F : Fence} {n : Nat} {P : Program}

theorem wpIn_rangeFunc_sat {α κ : Type} {g : Operand} {ps : Array Tmp} {assign body : Code} {Q : Exit → Act → World → Prop} {a : Act} {w : World}
    (hro : F.round = none) (h1 : 1 ≤ n) {gf : Nat} {lb : Array Value} (hg : a.eval g = .func (.func gf) #[] lb) (hFg : F.fn gf) (eg : ∀ args w, (callFunc gf args).run P w = .ok (.enter gf args) w)
    {encs : α → Array Value} {In : α → Assn} {key : α → κ} {ks : List κ} {C : Assn} (hseq : Yields F (n - 1) P gf lb encs In key ks C) (hps : ∀ x, (encs x).size = ps.size)
    (w0 : World) (hk0 : Kept w0 w) (I : List α → Assn) (Ix : Code → List α → Assn) (h0 : Sat w (I [] * C)) (a₁ : α → Act)
    (hassign : ∀ (l : Nat) (x : α) (W : World) (K : Act → World → Prop), K (a₁ x) W →
      assign.wpIn (F.inRound l) (n - 1 - 1) P (Exit.then K (fun _ _ _ => False)) { tmps := (ps.zip (encs x)).foldl (fun t (p, v) => t.setIfInBounds p v) a.tmps, defers := [] } W)
    (hbody : ∀ (l : Nat) (pre : List α) (x : α) (Rf : Assn) (W : World), (pre ++ [x]).map key <+: ks → Kept w0 W → Sat W (I pre * (In x * Rf)) → body.wpIn (F.inRound l) (n - 1 - 1) P (roundSat w0 I Ix Rf (pre ++ [x])) (a₁ x) W)
    (hdone : ∀ (D : Nat) (xs : List α) (W : World), xs.map key = ks → Kept w0 W → Sat W (own D (.deferred (some [])) * I xs) → Q .normal { a with defers := { target := .collected D, args := #[] } :: a.defers } W)
    (hstop : ∀ (D : Nat) (c : Code) (pre : List α) (W : World), pre.map key <+: ks → Kept w0 W → Sat W (own D (.deferred (some [])) * Ix c pre) → c.wpIn F n P Q { a with defers := { target := .collected D, args := #[] } :: a.defers } W) :
    (Code.rangeFunc g ps assign body).wpIn F n P Q a w := by
  refine wpIn_rangeFunc ?_
  intro fn hfn
  rw [hro]
  obtain ⟨rec, hrec⟩ : ∃ rec : LoopState → Option Code → Loop, rec = fun st pe => { state := st, pending := pe, fn, tmps := a.tmps, params := ps, assign, body, defers := w.heap.size } := ⟨_, rfl⟩
  obtain ⟨D, hD⟩ : ∃ D, D = w.heap.size := ⟨_, rfl⟩
  obtain ⟨L, hL⟩ : ∃ L, L = w.heap.size + 1 := ⟨_, rfl⟩
  have hs1 : Sat ((w.alloc (.deferred (some []))).alloc (.loop (rec .ready none))) (own L (.loop (rec .ready none)) * (own D (.deferred (some [])) * (I [] * C))) := by
    have := (h0.alloc (.deferred (some []))).alloc (.loop (rec .ready none))
    rw [World.size_alloc] at this
    rw [hL, hD]; exact this
  have hk1 : Kept w0 ((w.alloc (.deferred (some []))).alloc (.loop (rec .ready none))) := (hk0.alloc _).alloc _
  refine ⟨L, [{ target := .collected D, args := #[] }], (w.alloc (.deferred (some []))).alloc (.loop (rec .ready none)), { target := .fn (.func gf) lb, args := #[.func (.yield L) #[] #[]] }, (w.alloc (.deferred (some []))).alloc (.loop (rec .ready none)), gf,
    #[.func (.yield L) #[] #[]] ++ lb, (w.alloc (.deferred (some []))).alloc (.loop (rec .ready none)), ?_, ?_, ?_, ?_, fun _ => h1, ?_⟩
  · rw [hrec, hL, hD]; exact run_enterLoop_outer _ _ _ _ _
  · simp only [resolve, hg]
    simp [go_sem]
  · intro f' hf'; simp [Target.leads] at hf'; subst hf'; exact hFg
  · simp [invoke, go_sem, eg]
  · generalize (w.alloc (.deferred (some []))).alloc (.loop (rec .ready none)) = W1 at *
    refine (hseq L (fun pre => own L (.loop (rec .ready none)) * (own D (.deferred (some [])) * I pre)) (fun pre => Assn.ex fun c => own L (.loop (rec .done (some c))) * (own D (.deferred (some [])) * Ix c pre)) w0 W1 ?_ hk1 (hs1.cast (by simp only [Assn.mul_assoc]))).mono ?_
    · intro pre x Rf W hpre hkW hsW
      have hsW : Sat W (own L (.loop (rec .ready none)) * (own D (.deferred (some [])) * (I pre * (In x * Rf)))) := hsW.cast (by simp only [Assn.mul_assoc])
      have hy := run_yield (P := P) (args := encs x) hsW.block (by rw [hrec]; exact hps x)
      rw [hrec] at hy
      refine ⟨fn, _, assign, body, hy, roundIn_of_wpIn hfn (hassign _ x W _ ⟨_, run_beginRound hsW.block (by rw [hrec]), ?_⟩)⟩
      have hs2 := hsW.put (.loop { rec .ready none with state := .busy })
      refine wpIn_mono (hbody _ pre x (own L (.loop { rec .ready none with state := .busy }) * (own D (.deferred (some [])) * Rf)) _ hpre (hkW.put _ _) (hs2.cast (by ac_rfl))) ?_
      have fin : ∀ (jump : Option Code) (W3 : World) (X : Assn), Kept w0 W3 → Sat W3 (X * (own L (.loop { rec .ready none with state := .busy }) * (own D (.deferred (some [])) * Rf))) →
          ∃ W4, (Instr.endRound L jump).run P W3 = .ok (.bool jump.isNone) W4 ∧ Kept w0 W4 ∧ Sat W4 (own L (.loop (rec (if jump.isNone then .ready else .done) jump)) * (own D (.deferred (some [])) * (X * Rf))) := fun jump W3 X hk3 hs3 => by
        have hs3 : Sat W3 (own L (.loop { rec .ready none with state := .busy }) * (X * (own D (.deferred (some [])) * Rf))) := hs3.cast (by ac_rfl)
        have he := run_endRound (P := P) jump hs3.block
        have hs4 := hs3.put (.loop (rec (if jump.isNone then .ready else .done) jump))
        exact ⟨_, by rw [hrec] at he ⊢; exact he, hk3.put _ _, hs4.cast (by ac_rfl)⟩
      rintro e a3 W3 hp
      cases e with
      | normal =>
        obtain ⟨W4, h1, h2, h3⟩ := fin none W3 _ hp.1 hp.2
        exact ⟨_, _, h1, h2, .inl ⟨rfl, h3.cast (by simp only [Assn.mul_assoc]; rfl)⟩⟩
      | ret =>
        obtain ⟨W4, h1, h2, h3⟩ := fin (some .ret) W3 _ hp.1 hp.2
        exact ⟨_, _, h1, h2, .inr ⟨rfl, Sat.mk_ex_mul .ret (h3.cast (by simp only [Assn.mul_assoc]; rfl))⟩⟩
      | exit id =>
        obtain ⟨W4, h1, h2, h3⟩ := fin (some (.exit id)) W3 _ hp.1 hp.2
        exact ⟨_, _, h1, h2, .inr ⟨rfl, Sat.mk_ex_mul (.exit id) (h3.cast (by simp only [Assn.mul_assoc]; rfl))⟩⟩
      | goto t =>
        obtain ⟨W4, h1, h2, h3⟩ := fin (some (.goto t)) W3 _ hp.1 hp.2
        exact ⟨_, _, h1, h2, .inr ⟨rfl, Sat.mk_ex_mul (.goto t) (h3.cast (by simp only [Assn.mul_assoc]; rfl))⟩⟩
      | panic ch => exact hp.elim
      | outgrown => exact hp.elim
    · rintro e W2 ⟨⟨v, rfl⟩, hk2, (⟨xs, hx, hs2⟩ | ⟨pre, hpre, hs2⟩)⟩
      · have he := run_endLoop (P := P) hs2.block (by rw [hrec]; simp)
        refine ⟨none, _, by rw [hrec] at he; exact he, hdone D xs _ hx (hk2.put _ _) (hs2.put _).right⟩
      · obtain ⟨c, hs2⟩ := hs2.ex
        have he := run_endLoop (P := P) hs2.block (by rw [hrec]; simp)
        refine ⟨some c, _, by rw [hrec] at he; exact he, hstop D c pre _ hpre (hk2.put _ _) (hs2.put _).right⟩
end Go.Proofs.Ytnkikhhiaecebaa

/- What an iterator over an arena's blocks hands over: plain laws. -/
namespace Go.Proofs.Ytnkikhhiaecebaa
open Go.RowKit

theorem rowAt_len {w : World} {T : TypeId} {v : Value} {xs : List Value} {R : Assn} {m : Nat} (h : Sat w (rowAt T v xs * R)) (hm : xs.length = m) : ∃ a c, v = .slice a m c := by
  subst hm
  rcases rowAt_open h with ⟨rfl, rfl, _⟩ | ⟨g, cap, cur, rfl, _⟩
  · exact ⟨_, _, rfl⟩
  · exact ⟨_, _, rfl⟩
theorem rowAt_at {w : World} {T : TypeId} {a : Option Addr} {m c : Nat} {xs : List Value} {R : Assn} {i : Nat} {u : Value} (h : Sat w (rowAt T (.slice a m c) xs * R)) (hi : xs[i]? = some u) : ∃ g, a = some ⟨g, 0, none⟩ ∧ w.cell? ⟨g, i, none⟩ = some u := by
  rcases rowAt_open h with ⟨_, rfl, _⟩ | ⟨g, cap, cur, e, h2, h3, h4, h5, h6⟩
  · simp at hi
  · cases e
    exact ⟨g, rfl, row_cell h6 h5 i u hi⟩
def blkOf (bs : List Blk) (x : Int) : Nat × List Nat := match bs.find? (fun b => (b.n : Int) == x) with
  | some b => (b.h, b.ws)
  | none => (0, [])
def numsOf (A : Ar) : List Int := (A.bs.map fun b => (b.n : Int)).mergeSort Go.leI
def allOf (A : Ar) : List (Nat × List Nat) := (numsOf A).map (blkOf A.bs)
theorem blocks_le {A : Ar} (hi : ArInv A) : A.bs.length ≤ 60000 := by
  have h1 := hi.sum
  have h2 := hi.used
  have h3 := hi.cap
  have : ∀ l : List Blk, (∀ b ∈ l, 1 ≤ b.ws.length) → l.length ≤ (l.map fun b => b.ws.length).sum := by
    intro l
    induction l with
    | nil => simp
    | cons a l ih =>
      intro h
      have := ih fun b hb => h b (by simp [hb])
      have := h a (by simp)
      simp only [List.length_cons, List.map_cons, List.sum_cons]
      omega
  have := this A.bs fun b hb => (hi.range b hb).2.2.2.2.2.1
  omega
theorem find_n {bs : List Blk} (hap : (bs.map (·.n)).Nodup) {b : Blk} (hb : b ∈ bs) : bs.find? (fun c => (c.n : Int) == (b.n : Int)) = some b := by
  induction bs with
  | nil => cases hb
  | cons a l ih =>
    simp only [List.map_cons, List.nodup_cons, List.mem_map] at hap
    rw [List.find?_cons]
    by_cases e : a.n = b.n
    · rcases List.mem_cons.1 hb with rfl | hb'
      · simp
      · exact absurd ⟨b, hb', e.symm⟩ hap.1
    · have : ((a.n : Int) == (b.n : Int)) = false := by simpa using fun h => e (by omega)
      rw [this]
      rcases List.mem_cons.1 hb with rfl | hb'
      · exact absurd rfl e
      · exact ih hap.2 hb'
theorem key3_n {bs cs : List Blk} (hp : (bs.map key3).Perm (cs.map key3)) : (bs.map fun b => (b.n : Int)).Perm (cs.map fun b => (b.n : Int)) := by
  have := hp.map fun x : Nat × Nat × List Nat => (x.1 : Int)
  simpa [List.map_map, Function.comp_def, key3] using this
theorem nums_perm {A : Ar} {bs : List Blk} (hp : (bs.map key3).Perm (A.bs.map key3)) : numsOf A = (bs.map fun b => (b.n : Int)).mergeSort Go.leI :=
  mergeSort_of_perm_i (key3_n hp).symm
theorem nums_len {A : Ar} : (numsOf A).length = A.bs.length := by unfold numsOf; rw [List.length_mergeSort, List.length_map]
theorem nums_blk {A : Ar} (hi : ArInv A) {bs : List Blk} (hp : (bs.map key3).Perm (A.bs.map key3)) {x : Int} (hx : x ∈ numsOf A) :
    ∃ b ∈ bs, (b.n : Int) = x ∧ look (bs.map ent) x = some (.agg #[.int .u64 b.h, b.v]) ∧ blkOf A.bs x = (b.h, b.ws) ∧ 1 ≤ b.ws.length ∧ b.ws.length ≤ 2048 ∧ b.h < TW := by
  have hx1 : x ∈ bs.map fun b => (b.n : Int) := by
    rw [nums_perm hp] at hx
    exact (List.mergeSort_perm _ _).mem_iff.1 hx
  obtain ⟨b, hb, rfl⟩ := List.mem_map.1 hx1
  have hnd : (bs.map (·.n)).Nodup := by
    have h1 : (bs.map (·.n)).Perm (A.bs.map (·.n)) := by
      have := hp.map fun x : Nat × Nat × List Nat => x.1
      simpa [List.map_map, Function.comp_def, key3] using this
    exact h1.nodup_iff.2 hi.apart
  obtain ⟨c, hc, e⟩ := List.mem_map.1 (hp.mem_iff.1 (List.mem_map.2 ⟨b, hb, rfl⟩))
  simp only [key3, Prod.mk.injEq] at e
  have hr := hi.range c hc
  refine ⟨b, hb, rfl, ?_, ?_, ?_, ?_, ?_⟩
  · rw [look_ent]
    have h2 := find_n hnd hb
    have : (bs.find? fun c => c.n == b.n) = some b := by
      rw [← h2]
      congr 1
      funext c
      by_cases e : c.n = b.n
      · simp [e]
      · have e1 : (c.n == b.n) = false := by simpa using e
        have e2 : ((c.n : Int) == (b.n : Int)) = false := by simpa using fun h => e (by omega)
        rw [e1, e2]
    rw [this]
    rfl
  · unfold blkOf
    have h3 : A.bs.find? (fun d => (d.n : Int) == (b.n : Int)) = some c := by rw [← e.1]; exact find_n hi.apart hc
    rw [h3]
    simp only [e.2.1, e.2.2]
  · rw [← e.2.2]; exact hr.2.2.2.2.2.1
  · rw [← e.2.2]; exact hr.2.2.2.2.2.2
  · rw [← e.2.1]
    have := hi.births
    have := hr.2.2.2.2.1
    unfold TW
    omega
end Go.Proofs.Ytnkikhhiaecebaa
