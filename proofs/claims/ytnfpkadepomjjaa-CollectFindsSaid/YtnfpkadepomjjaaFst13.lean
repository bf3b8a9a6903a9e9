/- Collects in closed runs: what a step needs is reckoned, not left to be shown. -/
import Derived.Test.YtnfpkadepomjjaaSeg13
import Derived.Test.YtnfpkadepomjjaaBaseS
set_option linter.all false
namespace Go.Proofs.Ytnfpkadepomjjaa
open Go Go.RowKit
set_option maxRecDepth 1000000

def forcePl {α : Type} (l : List (Nat × Nat)) (K : List (Nat × Nat) → α) : α := match l with
  | [] => K []
  | (p, q) :: t => forceN p fun p => forceN q fun q => forcePl t fun t => K ((p, q) :: t)
theorem forcePl_eq {α : Type} : ∀ (l : List (Nat × Nat)) (K : List (Nat × Nat) → α), forcePl l K = K l
  | [], _ => rfl
  | (p, q) :: t, K => by
    unfold forcePl
    rw [forceN_eq, forceN_eq, forcePl_eq t]
def forceCol {α : Type} (x : Col) (K : Col → α) : α := forceN x.ph fun a => forceN x.g fun b => forceN x.node fun c => forcePl x.pl fun l => K ⟨a, b, c, x.segs, l⟩
theorem forceCol_eq {α : Type} (x : Col) (K : Col → α) : forceCol x K = K x := by
  unfold forceCol
  rw [forceN_eq, forceN_eq, forceN_eq, forcePl_eq]
def colB (x : Col) (A : Ar) : Bool := Nat.blt x.pl.length 1000000000 && ((Nat.beq x.ph 0 && Nat.blt x.g 8) || ((Nat.beq x.ph 1 && (Nat.blt x.g 8 && (Nat.ble 1 x.node && (Nat.blt x.node (2 * 2 ^ x.g) && hasA A (x.segs x.g : Int) (5 * 2 ^ x.g + x.node : Nat))))) || Nat.beq x.ph 2))
theorem colB_ok {x : Col} {A : Ar} (h : colB x A = true) : colOk x (.ar A) := by
  unfold colB at h
  simp only [Bool.and_eq_true, Bool.or_eq_true, Nat.blt_eq, Nat.ble_eq, Nat.beq_eq] at h
  obtain ⟨h1, ⟨h2, h3⟩ | ⟨h2, h3, h4, h5, h6⟩ | h2⟩ := h
  · exact ⟨h1, .inl ⟨h2, h3⟩⟩
  · exact ⟨h1, .inr (.inl ⟨h2, h3, ⟨h4, h5⟩, hasA_ok h6⟩)⟩
  · exact ⟨h1, .inr (.inr h2)⟩
def colStepN : Smry Try.prog XC where
  g := 19
  run := fun args m K => match args with
    | [.c (.ptr c 0)] => match m.hp.get c with
      | some (.ext (HO.obj [p] x)) => match (m.hp.del c).get p with
        | some (.ext (HO.old (XO.ar A))) => bif colB x A then forceCol (colStep x A) fun y => K (.tup []) (putTwo m c p (.ext (HO.obj [p] y)) (.ext (HO.old (XO.ar (colRead x A))))) else Stuck 833
        | _ => Stuck 834
      | _ => Stuck 835
    | _ => Stuck 836
  ok := fun args m K hr => by
    split at hr <;> try exact hr.elim
    rename_i c
    split at hr <;> try exact hr.elim
    rename_i p x hx
    split at hr <;> try exact hr.elim
    rename_i A hA
    cases hb : colB x A <;> rw [hb] at hr
    · exact hr.elim
    simp only [cond_true, forceCol_eq] at hr
    exact colStepX.ok [.c (.ptr c 0)] m K (by
      simp only [colStepX, methodS]
      rw [hx]
      simp only []
      rw [hA]
      exact ⟨colB_ok hb, hr⟩)
def colPlacesN : Smry Try.prog XC where
  g := 93
  run := fun args m K => match args with
    | [.c (.ptr c 0)] => match m.hp.get c with
      | some (.ext (HO.obj [p] x)) => match (m.hp.del c).get p with
        | some (.ext (HO.old (XO.ar _))) => bif Nat.beq x.ph 2 && Nat.blt x.pl.length 1000000000 then (bif Nat.beq x.pl.length 0 then K (.c .nls) m else
            forceN x.pl.length fun n => forcePl x.pl fun pl => ∀ cap, n ≤ cap → bif newOk m (.vals 44 2 n cap (plF pl)) then K (.c (.sli m.nx 2 true 0 false n cap)) (withNew m (.vals 44 2 n cap (plF pl))) else Stuck 837) else Stuck 838
        | _ => Stuck 839
      | _ => Stuck 840
    | _ => Stuck 841
  ok := fun args m K hr => by
    split at hr <;> try exact hr.elim
    rename_i c
    split at hr <;> try exact hr.elim
    rename_i p x hx
    split at hr <;> try exact hr.elim
    rename_i A hA
    cases hb : Nat.beq x.ph 2 && Nat.blt x.pl.length 1000000000 <;> rw [hb] at hr
    · exact hr.elim
    simp only [Bool.and_eq_true, Nat.blt_eq, Nat.beq_eq] at hb
    simp only [cond_true] at hr
    refine colPlacesX.ok [.c (.ptr c 0)] m K ?_
    simp only [colPlacesX, rowS]
    rw [hx]
    simp only []
    rw [hA]
    refine ⟨hb, fun hz => ?_, fun hp cap hcap => ?_⟩
    · have hz : x.pl.length = 0 := hz
      rw [hz] at hr
      exact hr
    · have hp : 0 < x.pl.length := hp
      have hn : Nat.beq x.pl.length 0 = false := by
        cases e : Nat.beq x.pl.length 0 with
        | false => rfl
        | true => have := Nat.eq_of_beq_eq_true e; omega
      rw [hn] at hr
      simp only [cond_false, forceN_eq, forcePl_eq] at hr
      have h1 := hr cap hcap
      cases e : newOk m (.vals 44 2 x.pl.length cap (plF x.pl)) <;> rw [e] at h1
      · exact h1.elim
      · show bif newOk m (.vals 44 2 x.pl.length cap (plF x.pl)) then _ else _
        rw [e]
        exact h1
theorem col_seg {i : Nat} (run : ∀ (g node : Nat) (segs : Nat → Nat) (A : Ar) (cap : Nat), Run (callN Try.prog ([] : List (Smry Try.prog XE)) (fun _ _ => false) 100 20 94 [.c (.ptr 0 0), .c (.int true .i64 (i : Int) .any)] ⟨colHeap ⟨2, g, node, segs, []⟩ cap ++ [(1, arO A)], 100⟩ .nil fun v m _ => outM (.c (.int false .u64 (segs i : Nat))) (colHeap ⟨2, g, node, segs, []⟩ cap ++ [(1, arO A)]) v m))
    {x : Col} (h1 : x.ph = 2) (h2 : x.pl = []) (A : Ar) (ν : Nat → Nat) (c p : Nat) (w : World) (R : Assn) (w0 : World) (Hs : Sat w (hidDen colH ν (ν c) [p] x * (XE.den ν (ν p) (XO.ar A) * R))) (HK : Kept w0 w) :
    Calls Try.prog 94 #[.pointer (some ⟨ν c, 0, none⟩), .int .i64 (i : Int)] w fun e w' => e = .returned (.int .u64 (x.segs i : Int)) ∧ Sat w' (hidDen colH ν (ν c) [p] x * (XE.den ν (ν p) (XO.ar A) * R)) ∧ Kept w0 w' := by
  obtain ⟨ph, g, node, segs, pl⟩ := x
  dsimp only at h1 h2
  subst h1
  subst h2
  unfold hidDen at Hs
  obtain ⟨μ, Hs⟩ := Hs.ex_mul
  obtain ⟨z, Hs⟩ := Hs.ex_mul
  rw [Assn.mul_assoc] at Hs
  obtain ⟨hμ, Hs⟩ := Hs.pure_mul
  refine (hid_calls (H := colH) (a := XO.ar A) (rest := [.c (.int true .i64 (i : Int) .any)]) rfl (fun v hv => by rw [List.mem_singleton] at hv; subst hv; rfl) (run g node segs A z).out hμ Hs HK).mono ?_
  rintro e w' ⟨v, m, ξ, hv0, h0, h1, he, hs, hk⟩
  obtain ⟨κ, ag, hv, hs⟩ := outM_sound hv0 hs
  have k0 : κ 0 = ν c := by rw [ag 0 (by decide), h0]
  have k1 : κ 1 = ν p := by rw [ag 1 (by decide), h1]
  refine ⟨by rw [he, hv]; rfl, ?_, hk⟩
  unfold hidDen
  refine Sat.mk_ex_mul κ (Sat.mk_ex_mul z ?_)
  rw [Assn.mul_assoc]
  refine Sat.mk_pure_mul ⟨k0, fun i n hi => ?_⟩ ?_
  · cases i with
    | zero =>
      simp only [List.getElem?_cons_zero, Option.some.injEq] at hi
      subst hi
      exact k1
    | succ i => simp at hi
  · refine hs.cast ?_
    simp only [SH.den_append, SH.den, SO.den]
    rw [Assn.mul_comm _ (1 : Assn), Assn.one_mul, Assn.mul_assoc, ← k1]
    rfl
def colSegN : Smry Try.prog XC where
  g := 94
  run := fun args m K => match args with
    | [.c (.ptr c 0), .c (.int _ .i64 i _)] => match m.hp.get c with
      | some (.ext (HO.obj [p] x)) => match (m.hp.del c).get p with
        | some (.ext (HO.old (XO.ar _))) => bif Nat.beq x.ph 2 && (Nat.beq x.pl.length 0 && (leI 0 i && leI i 1)) then forceN (x.segs i.toNat) fun h => K (.c (.int true .u64 (h : Int))) m else Stuck 842
        | _ => Stuck 843
      | _ => Stuck 844
    | _ => Stuck 845
  ok := fun args m K hr => by
    split at hr <;> try exact hr.elim
    rename_i c l i bd
    split at hr <;> try exact hr.elim
    rename_i p x hx
    split at hr <;> try exact hr.elim
    rename_i A hA
    cases hb : Nat.beq x.ph 2 && (Nat.beq x.pl.length 0 && (leI 0 i && leI i 1)) <;> rw [hb] at hr
    · exact hr.elim
    simp only [Bool.and_eq_true, Nat.beq_eq] at hb
    simp only [cond_true, forceN_eq] at hr
    obtain ⟨b1, b2, b3, b4⟩ := hb
    have b2 : x.pl = [] := List.length_eq_zero_iff.1 b2
    have b3 := leI_le b3
    have b4 := leI_le b4
    intro ν w R w0 Hs HK
    have hd : ∀ Q : Assn, m.hp.den ν * Q = hidDen colH ν (ν c) [p] x * (XE.den ν (ν p) (XO.ar A) * (SH.den ν ((m.hp.del c).del p) * Q)) := fun Q => by
      rw [SH.den_get ν hx, SH.den_get ν hA, Assn.mul_assoc, Assn.mul_assoc]
      rfl
    rw [hd] at Hs
    have key : Calls Try.prog 94 #[.pointer (some ⟨ν c, 0, none⟩), .int .i64 i] w fun e w' => e = .returned (.int .u64 (x.segs i.toNat : Int)) ∧ Sat w' (hidDen colH ν (ν c) [p] x * (XE.den ν (ν p) (XO.ar A) * (SH.den ν ((m.hp.del c).del p) * R))) ∧ Kept w0 w' := by
      rcases (by omega : i = ((0 : Nat) : Int) ∨ i = ((1 : Nat) : Int)) with rfl | rfl
      · exact col_seg (i := 0) (fun g node segs A cap => colG0_run g node segs A cap trivial) b1 b2 A ν c p w _ w0 Hs HK
      · exact col_seg (i := 1) (fun g node segs A cap => colG1_run g node segs A cap trivial) b1 b2 A ν c p w _ w0 Hs HK
    refine key.mono ?_
    rintro e w' ⟨he, hs, hk⟩
    exact ⟨_, m, ν, hr, Agree.refl _ _, Nat.le_refl _, by rw [he]; rfl, by rw [hd]; exact hs, hk⟩
end Go.Proofs.Ytnfpkadepomjjaa
