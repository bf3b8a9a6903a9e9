/- A claim's step, by phases. -/
import Derived.Test.YtgiakcepgbpchaaClmD
set_option linter.all false
namespace Go.Proofs.Ytgiakcepgbpchaa
open Go Go.RowKit
set_option maxRecDepth 1000000
set_option maxHeartbeats 0
def tblCl : List (Smry Try.prog XP) := [readQ, layQ, swapQ, fixedS, wordS, segS, sizeS]
variable {tok seg slot g priv : Nat} {got : Bool} {e : Nat} {A : PA}
theorem is0y (h : ((A.rd 0 ((g : Int) + 1) : Int) == 0) = true) : Is (Clm.mk 1 tok (A.rd 0 ((g : Int) + 1)) slot g priv got e) (clmStep ⟨0, tok, seg, slot, g, priv, got, e⟩ A) := by
  have h0 : A.rd 0 ((g : Int) + 1) = 0 := by have := eq_of_beq h; omega
  simp [Is, clmStep, h0]
theorem is0n (h : ((A.rd 0 ((g : Int) + 1) : Int) == 0) = false) : Is (Clm.mk 4 tok (A.rd 0 ((g : Int) + 1)) slot g priv got e) (clmStep ⟨0, tok, seg, slot, g, priv, got, e⟩ A) := by
  have h0 : ¬ A.rd 0 ((g : Int) + 1) = 0 := by have := ne_of_beq_false h; omega
  simp [Is, clmStep, h0]
theorem nb {n : Nat} (h : (!decide ((n : Int) = 0)) = true) : ¬ n = 0 := by simpa using h
theorem yb {n : Nat} (h : (!decide ((n : Int) = 0)) = false) : n = 0 := by simpa using h
theorem is2n (h : (!decide ((A.rd 0 ((g : Int) + 1) : Int) = 0)) = true) : Is (Clm.mk 3 tok seg slot g priv got e) (clmStep ⟨2, tok, seg, slot, g, priv, got, e⟩ A) := by
  simp [Is, clmStep, nb h]
theorem is2y (h : (!decide ((A.rd 0 ((g : Int) + 1) : Int) = 0)) = false) : Is (Clm.mk 4 tok priv slot g 0 got e) (clmStep ⟨2, tok, seg, slot, g, priv, got, e⟩ A) := by
  simp [Is, clmStep, yb h]
theorem is4y (h : (!decide ((A.rd (seg : Nat) (5 * (segO slot : Nat) : Int) : Int) = 0)) = false) : Is (Clm.mk 5 tok seg slot g priv true e) (clmStep ⟨4, tok, seg, slot, g, priv, got, e⟩ A) := by
  simp [Is, clmStep, yb h]
theorem inSn {s : Nat} (h : (!inS ((s : Int) + 1)) = true) : 254 < s + 1 := by
  have : inS ((s : Int) + 1) = false := by simpa using h
  simp only [inS, Bool.and_eq_false_iff, decide_eq_false_iff_not] at this
  omega
theorem inSy {s : Nat} (h : (!inS ((s : Int) + 1)) = false) : inS ((s : Int) + 1) = true ∧ ¬ 254 < s + 1 := by
  have : inS ((s : Int) + 1) = true := by simpa using h
  exact ⟨this, by have := inS_yes this; omega⟩
theorem is4e (h : (!decide ((A.rd (seg : Nat) (5 * (segO slot : Nat) : Int) : Int) = 0)) = true) (h2 : (!inS ((slot : Int) + 1)) = true) : Is (Clm.mk 5 tok seg (slot + 1) g priv got 12) (clmStep ⟨4, tok, seg, slot, g, priv, got, e⟩ A) := by
  simp [Is, clmStep, clmOn, nb h, inSn h2]
theorem is4g (h : (!decide ((A.rd (seg : Nat) (5 * (segO slot : Nat) : Int) : Int) = 0)) = true) (h2 : (!inS ((slot : Int) + 1)) = false) (h3 : ((if inS ((slot : Int) + 1) = true then ((segO (slot + 1) : Nat) : Int) else 0) == 0) = true) : Is (Clm.mk 0 tok seg (slot + 1) (segG (slot + 1)) priv got e) (clmStep ⟨4, tok, seg, slot, g, priv, got, e⟩ A) := by
  rw [if_pos (inSy h2).1] at h3
  have h0 : segO (slot + 1) = 0 := by have := eq_of_beq h3; omega
  have h1 := (inSy h2).2
  simp only [Is, clmStep, clmOn, nb h, if_false, if_neg h1, h0, if_true]
theorem is4t (h : (!decide ((A.rd (seg : Nat) (5 * (segO slot : Nat) : Int) : Int) = 0)) = true) (h2 : (!inS ((slot : Int) + 1)) = false) (h3 : ((if inS ((slot : Int) + 1) = true then ((segO (slot + 1) : Nat) : Int) else 0) == 0) = false) : Is (Clm.mk 4 tok seg (slot + 1) g priv got e) (clmStep ⟨4, tok, seg, slot, g, priv, got, e⟩ A) := by
  rw [if_pos (inSy h2).1] at h3
  have h0 : ¬ segO (slot + 1) = 0 := by have := ne_of_beq_false h3; omega
  have h1 := (inSy h2).2
  simp only [Is, clmStep, clmOn, nb h, if_false, if_neg h1, h0]
/-- What the executor leaves to be shown of (*roundelay/claim.Claim).Step, written out. -/
theorem clm0_vc (tok seg slot g priv : Nat) (got : Bool) (e : Nat) (A : PA) : (callN Try.prog (tblCl : List (Smry Try.prog XP)) (fun _ _ => false) 100 20 55 [.c (.ptr 0 0)] ⟨clmHeap (⟨0, tok, seg, slot, g, priv, got, e⟩ : Clm) .mk ++ [(1, parO A)], 100⟩ (bN 3) (fun v m _ => clmPost (clmStep (⟨0, tok, seg, slot, g, priv, got, e⟩ : Clm) A) (clmA (⟨0, tok, seg, slot, g, priv, got, e⟩ : Clm) A) v m)) = (
    ((↑tok : Int) = (↑tok : Int) ∧ (↑seg : Int) = (↑seg : Int) ∧ (↑slot : Int) = (↑slot : Int) ∧ (↑g : Int) = (↑g : Int) ∧ (↑priv : Int) = (↑priv : Int) ∧ got = got ∧ (↑e : Int) = (↑e :
    Int) ∧ (A.Has (0 : Int) ((1 : Int) + max (0 : Int) (min (↑g : Int) (7 : Int))) ∧ (↑tok : Int) = (↑tok : Int) ∧ (↑seg : Int) = (↑seg : Int) ∧ (↑slot : Int) = (↑slot : Int) ∧ (↑g :
    Int) = (↑g : Int) ∧ (↑priv : Int) = (↑priv : Int) ∧ got = got ∧ (↑e : Int) = (↑e : Int) ∧ ((((↑(A.rd (0 : Int) ((1 : Int) + max (0 : Int) (min (↑g : Int) (7 : Int)))) : Int) == (0 :
    Int)) = true → ∃ (tok_1 : Nat), ∃ (seg_1 : Nat), ∃ (slot_1 : Nat), ∃ (g_1 : Nat), ∃ (priv_1 : Nat), ∃ (got_1 : Bool), ∃ (e_1 : Nat), Is (Clm.mk (1 : Nat) tok_1 seg_1 slot_1 g_1
    priv_1 got_1 e_1) (clmStep (Clm.mk (0 : Nat) tok seg slot g priv got e) A) ∧ ((((0 : Nat) = (0 : Nat) ∧ True) ∧ True) ∧ (0 : Nat) = (0 : Nat) ∧ (↑tok_1 : Int) = (↑tok : Int) ∧
    (↑seg_1 : Int) = (↑(A.rd (0 : Int) ((1 : Int) + max (0 : Int) (min (↑g : Int) (7 : Int)))) : Int) ∧ (↑slot_1 : Int) = (↑slot : Int) ∧ (↑g_1 : Int) = (↑g : Int) ∧ (↑priv_1 : Int) =
    (↑priv : Int) ∧ got_1 = got ∧ (↑e_1 : Int) = (↑e : Int) ∧ True) ∧ clmA (Clm.mk (0 : Nat) tok seg slot g priv got e) A = A.read ∧ True) ∧ (((↑(A.rd (0 : Int) ((1 : Int) + max (0 :
    Int) (min (↑g : Int) (7 : Int)))) : Int) == (0 : Int)) = false → ∃ (tok_1 : Nat), ∃ (seg_1 : Nat), ∃ (slot_1 : Nat), ∃ (g_1 : Nat), ∃ (priv_1 : Nat), ∃ (got_1 : Bool), ∃ (e_1 :
    Nat), Is (Clm.mk (4 : Nat) tok_1 seg_1 slot_1 g_1 priv_1 got_1 e_1) (clmStep (Clm.mk (0 : Nat) tok seg slot g priv got e) A) ∧ ((((0 : Nat) = (0 : Nat) ∧ True) ∧ True) ∧ (0 : Nat) =
    (0 : Nat) ∧ (↑tok_1 : Int) = (↑tok : Int) ∧ (↑seg_1 : Int) = (↑(A.rd (0 : Int) ((1 : Int) + max (0 : Int) (min (↑g : Int) (7 : Int)))) : Int) ∧ (↑slot_1 : Int) = (↑slot : Int) ∧
    (↑g_1 : Int) = (↑g : Int) ∧ (↑priv_1 : Int) = (↑priv : Int) ∧ got_1 = got ∧ (↑e_1 : Int) = (↑e : Int) ∧ True) ∧ clmA (Clm.mk (0 : Nat) tok seg slot g priv got e) A = A.read ∧ True))
    ∧ True) ∧ True) ∧ True) := by
  kernel_rfl
theorem clm0_run (tok seg slot g priv : Nat) (got : Bool) (e : Nat) (A : PA) (hc : clmOk (⟨0, tok, seg, slot, g, priv, got, e⟩ : Clm) A) : Run (callN Try.prog (tblCl : List (Smry Try.prog XP)) (fun _ _ => false) 100 20 55 [.c (.ptr 0 0)] ⟨clmHeap (⟨0, tok, seg, slot, g, priv, got, e⟩ : Clm) .mk ++ [(1, parO A)], 100⟩ (bN 3) (fun v m _ => clmPost (clmStep (⟨0, tok, seg, slot, g, priv, got, e⟩ : Clm) A) (clmA (⟨0, tok, seg, slot, g, priv, got, e⟩ : Clm) A) v m)) := by
  constructor
  rw [clm0_vc]
  obtain ⟨hg, hA⟩ := hc
  dsimp only at hg hA
  have eg : (1 : Int) + max 0 (min (g : Int) 7) = (g : Int) + 1 := by omega
  simp only [eg]
  repeat' first
    | with_reducible apply And.intro
    | with_reducible exact trivial
    | with_reducible exact fun _ h => h
    | with_reducible exact Eq.refl _
    | (intro (K : KO XP); simp only [and_imp]; intros; repeat' first | with_reducible apply And.intro | with_reducible exact trivial | with_reducible exact Eq.refl _ | with_reducible assumption)
    | intro _

  any_goals first
    | with_reducible refine ⟨tok, A.rd 0 ((g : Int) + 1), slot, g, priv, got, e, ?_, ?_⟩
    | skip

  repeat' first
    | with_reducible apply And.intro
    | with_reducible exact trivial
    | with_reducible exact fun _ h => h
    | with_reducible exact Eq.refl _
    | (intro (K : KO XP); simp only [and_imp]; intros; repeat' first | with_reducible apply And.intro | with_reducible exact trivial | with_reducible exact Eq.refl _ | with_reducible assumption)
    | intro _

  all_goals first
    | exact hA
    | rfl
    | exact is0y (by assumption)
    | exact is0n (by assumption)
/-- What the executor leaves to be shown of (*roundelay/claim.Claim).Step, written out. -/
theorem clm1_vc (tok seg slot g priv : Nat) (got : Bool) (e : Nat) (A : PA) : (callN Try.prog (tblCl : List (Smry Try.prog XP)) (fun _ _ => false) 100 20 55 [.c (.ptr 0 0)] ⟨clmHeap (⟨1, tok, seg, slot, g, priv, got, e⟩ : Clm) .mk ++ [(1, parO A)], 100⟩ (bN 3) (fun v m _ => clmPost (clmStep (⟨1, tok, seg, slot, g, priv, got, e⟩ : Clm) A) (clmA (⟨1, tok, seg, slot, g, priv, got, e⟩ : Clm) A) v m)) = (
    ((↑tok : Int) = (↑tok : Int) ∧ (↑seg : Int) = (↑seg : Int) ∧ (↑slot : Int) = (↑slot : Int) ∧ (↑g : Int) = (↑g : Int) ∧ (↑priv : Int) = (↑priv : Int) ∧ got = got ∧ (↑e : Int) = (↑e :
    Int) ∧ (((if inG (↑g : Int) = true then (↑((7 : Nat) * (2 : Nat) ^ (↑g : Int).toNat) : Int) else (0 : Int)) = if inG (↑g : Int) = true then (↑((7 : Nat) * (2 : Nat) ^ (↑g :
    Int).toNat) : Int) else (0 : Int)) ∧ ((0 : Int) ≤ if inG (↑g : Int) = true then (↑((7 : Nat) * (2 : Nat) ^ (↑g : Int).toNat) : Int) else (0 : Int)) ∧ ((8 : Int) * if inG (↑g : Int)
    = true then (↑((7 : Nat) * (2 : Nat) ^ (↑g : Int).toNat) : Int) else (0 : Int)) ≤ (281474976710656 : Int) ∧ (if inG (↑g : Int) = true then (↑((7 : Nat) * (2 : Nat) ^ (↑g :
    Int).toNat) : Int) else (0 : Int)) ≤ (1000000000 : Int) ∧ (↑tok : Int) = (↑tok : Int) ∧ (↑seg : Int) = (↑seg : Int) ∧ (↑slot : Int) = (↑slot : Int) ∧ (↑g : Int) = (↑g : Int) ∧
    (↑priv : Int) = (↑priv : Int) ∧ got = got ∧ (↑e : Int) = (↑e : Int) ∧ ((if inG (↑g : Int) = true then (↑((7 : Nat) * (2 : Nat) ^ (↑g : Int).toNat) : Int) else (0 : Int)).toNat = (if
    inG (↑g : Int) = true then (↑((7 : Nat) * (2 : Nat) ^ (↑g : Int).toNat) : Int) else (0 : Int)).toNat ∧ (if inG (↑g : Int) = true then (↑((7 : Nat) * (2 : Nat) ^ (↑g : Int).toNat) :
    Int) else (0 : Int)).toNat = (if inG (↑g : Int) = true then (↑((7 : Nat) * (2 : Nat) ^ (↑g : Int).toNat) : Int) else (0 : Int)).toNat ∧ ((1 : Nat) ≤ (if inG (↑g : Int) = true then
    (↑((7 : Nat) * (2 : Nat) ^ (↑g : Int).toNat) : Int) else (0 : Int)).toNat ∧ (if inG (↑g : Int) = true then (↑((7 : Nat) * (2 : Nat) ^ (↑g : Int).toNat) : Int) else (0 : Int)).toNat
    ≤ (2048 : Nat)) ∧ A.used + (if inG (↑g : Int) = true then (↑((7 : Nat) * (2 : Nat) ^ (↑g : Int).toNat) : Int) else (0 : Int)).toNat ≤ A.cap ∧ A.bk = [] ∧ A.births < (268435455 :
    Nat) ∧ (∀ (i : Nat), i < (if inG (↑g : Int) = true then (↑((7 : Nat) * (2 : Nat) ^ (↑g : Int).toNat) : Int) else (0 : Int)).toNat → (0 : Int) ≤ (0 : Int) ∧ (0 : Int) <
    (18446744073709551616 : Int)) ∧ (↑tok : Int) = (↑tok : Int) ∧ (↑seg : Int) = (↑seg : Int) ∧ (↑slot : Int) = (↑slot : Int) ∧ (↑g : Int) = (↑g : Int) ∧ (↑priv : Int) = (↑priv : Int) ∧
    got = got ∧ (↑e : Int) = (↑e : Int) ∧ ∃ (tok_1 : Nat), ∃ (seg_1 : Nat), ∃ (slot_1 : Nat), ∃ (g_1 : Nat), ∃ (priv_1 : Nat), ∃ (got_1 : Bool), ∃ (e_1 : Nat), Is (Clm.mk (2 : Nat)
    tok_1 seg_1 slot_1 g_1 priv_1 got_1 e_1) (clmStep (Clm.mk (1 : Nat) tok seg slot g priv got e) A) ∧ ((((0 : Nat) = (0 : Nat) ∧ True) ∧ True) ∧ (0 : Nat) = (0 : Nat) ∧ (↑tok_1 : Int)
    = (↑tok : Int) ∧ (↑seg_1 : Int) = (↑seg : Int) ∧ (↑slot_1 : Int) = (↑slot : Int) ∧ (↑g_1 : Int) = (↑g : Int) ∧ (↑priv_1 : Int) = (↑A.hdl : Int) ∧ got_1 = got ∧ (↑e_1 : Int) = (↑e :
    Int) ∧ True) ∧ clmA (Clm.mk (1 : Nat) tok seg slot g priv got e) A = A.lay (natsOf (if inG (↑(Clm.mk (1 : Nat) tok seg slot g priv got e).g : Int) = true then (↑((7 : Nat) * (2 :
    Nat) ^ (↑(Clm.mk (1 : Nat) tok seg slot g priv got e).g : Int).toNat) : Int) else (0 : Int)).toNat fun (x : Nat) => (0 : Int)) ∧ True) ∧ True) ∧ True) ∧ True) := by
  kernel_rfl
theorem clm1_run (tok seg slot g priv : Nat) (got : Bool) (e : Nat) (A : PA) (hc : clmOk (⟨1, tok, seg, slot, g, priv, got, e⟩ : Clm) A) : Run (callN Try.prog (tblCl : List (Smry Try.prog XP)) (fun _ _ => false) 100 20 55 [.c (.ptr 0 0)] ⟨clmHeap (⟨1, tok, seg, slot, g, priv, got, e⟩ : Clm) .mk ++ [(1, parO A)], 100⟩ (bN 3) (fun v m _ => clmPost (clmStep (⟨1, tok, seg, slot, g, priv, got, e⟩ : Clm) A) (clmA (⟨1, tok, seg, slot, g, priv, got, e⟩ : Clm) A) v m)) := by
  constructor
  rw [clm1_vc]
  obtain ⟨hg, hu, hb, hbi⟩ := hc
  dsimp only at hg hu hb hbi
  have hp : 2 ^ g ≤ 128 := by
    have : 2 ^ g ≤ 2 ^ 7 := Nat.pow_le_pow_right (by omega) (by omega)
    omega
  have hp1 : 1 ≤ 2 ^ g := Nat.one_le_two_pow
  have ei : inG (g : Int) = true := by unfold inG; simp only [Bool.and_eq_true, decide_eq_true_eq]; omega
  simp only [ei, if_true, Int.toNat_natCast]
  repeat' first
    | with_reducible apply And.intro
    | with_reducible exact trivial
    | with_reducible exact fun _ h => h
    | with_reducible exact Eq.refl _
    | (intro (K : KO XP); simp only [and_imp]; intros; repeat' first | with_reducible apply And.intro | with_reducible exact trivial | with_reducible exact Eq.refl _ | with_reducible assumption)
    | intro _

  any_goals first
    | with_reducible refine ⟨tok, seg, slot, g, A.hdl, got, e, ?_, ?_⟩
    | skip

  repeat' first
    | with_reducible apply And.intro
    | with_reducible exact trivial
    | with_reducible exact fun _ h => h
    | with_reducible exact Eq.refl _
    | (intro (K : KO XP); simp only [and_imp]; intros; repeat' first | with_reducible apply And.intro | with_reducible exact trivial | with_reducible exact Eq.refl _ | with_reducible assumption)
    | intro _

  all_goals first
    | omega
    | exact hb
    | exact hbi
    | rfl
/-- What the executor leaves to be shown of (*roundelay/claim.Claim).Step, written out. -/
theorem clm2_vc (tok seg slot g priv : Nat) (got : Bool) (e : Nat) (A : PA) : (callN Try.prog (tblCl : List (Smry Try.prog XP)) (fun _ _ => false) 100 20 55 [.c (.ptr 0 0)] ⟨clmHeap (⟨2, tok, seg, slot, g, priv, got, e⟩ : Clm) .mk ++ [(1, parO A)], 100⟩ (bN 3) (fun v m _ => clmPost (clmStep (⟨2, tok, seg, slot, g, priv, got, e⟩ : Clm) A) (clmA (⟨2, tok, seg, slot, g, priv, got, e⟩ : Clm) A) v m)) = (
    ((↑tok : Int) = (↑tok : Int) ∧ (↑seg : Int) = (↑seg : Int) ∧ (↑slot : Int) = (↑slot : Int) ∧ (↑g : Int) = (↑g : Int) ∧ (↑priv : Int) = (↑priv : Int) ∧ got = got ∧ (↑e : Int) = (↑e :
    Int) ∧ (A.Has (0 : Int) ((1 : Int) + max (0 : Int) (min (↑g : Int) (7 : Int))) ∧ ((0 : Int) ≤ (↑priv : Int) ∧ (↑priv : Int) < (18446744073709551616 : Int)) ∧ (0 : Int) ≤ (0 : Int) ∧
    (↑tok : Int) = (↑tok : Int) ∧ (↑seg : Int) = (↑seg : Int) ∧ (↑slot : Int) = (↑slot : Int) ∧ (↑g : Int) = (↑g : Int) ∧ (↑priv : Int) = (↑priv : Int) ∧ got = got ∧ (↑e : Int) = (↑e :
    Int) ∧ ((!decide ((↑(A.rd (0 : Int) ((1 : Int) + max (0 : Int) (min (↑g : Int) (7 : Int)))) : Int) = (0 : Int))) = true → ∃ (tok_1 : Nat), ∃ (seg_1 : Nat), ∃ (slot_1 : Nat), ∃ (g_1
    : Nat), ∃ (priv_1 : Nat), ∃ (got_1 : Bool), ∃ (e_1 : Nat), Is (Clm.mk (3 : Nat) tok_1 seg_1 slot_1 g_1 priv_1 got_1 e_1) (clmStep (Clm.mk (2 : Nat) tok seg slot g priv got e) A) ∧
    ((((0 : Nat) = (0 : Nat) ∧ True) ∧ True) ∧ (0 : Nat) = (0 : Nat) ∧ (↑tok_1 : Int) = (↑tok : Int) ∧ (↑seg_1 : Int) = (↑seg : Int) ∧ (↑slot_1 : Int) = (↑slot : Int) ∧ (↑g_1 : Int) =
    (↑g : Int) ∧ (↑priv_1 : Int) = (↑priv : Int) ∧ got_1 = got ∧ (↑e_1 : Int) = (↑e : Int) ∧ True) ∧ clmA (Clm.mk (2 : Nat) tok seg slot g priv got e) A = A.swapQ (0 : Int) ((1 : Int) +
    max (0 : Int) (min (↑g : Int) (7 : Int))) (0 : Int) (↑priv : Int) ∧ True) ∧ ((!decide ((↑(A.rd (0 : Int) ((1 : Int) + max (0 : Int) (min (↑g : Int) (7 : Int)))) : Int) = (0 : Int)))
    = false → ∃ (tok_1 : Nat), ∃ (seg_1 : Nat), ∃ (slot_1 : Nat), ∃ (g_1 : Nat), ∃ (priv_1 : Nat), ∃ (got_1 : Bool), ∃ (e_1 : Nat), Is (Clm.mk (4 : Nat) tok_1 seg_1 slot_1 g_1 priv_1
    got_1 e_1) (clmStep (Clm.mk (2 : Nat) tok seg slot g priv got e) A) ∧ ((((0 : Nat) = (0 : Nat) ∧ True) ∧ True) ∧ (0 : Nat) = (0 : Nat) ∧ (↑tok_1 : Int) = (↑tok : Int) ∧ (↑seg_1 :
    Int) = (↑priv : Int) ∧ (↑slot_1 : Int) = (↑slot : Int) ∧ (↑g_1 : Int) = (↑g : Int) ∧ (↑priv_1 : Int) = (0 : Int) ∧ got_1 = got ∧ (↑e_1 : Int) = (↑e : Int) ∧ True) ∧ clmA (Clm.mk (2
    : Nat) tok seg slot g priv got e) A = A.swapQ (0 : Int) ((1 : Int) + max (0 : Int) (min (↑g : Int) (7 : Int))) (0 : Int) (↑priv : Int) ∧ True)) ∧ True) ∧ True) := by
  kernel_rfl
theorem clm2_run (tok seg slot g priv : Nat) (got : Bool) (e : Nat) (A : PA) (hc : clmOk (⟨2, tok, seg, slot, g, priv, got, e⟩ : Clm) A) : Run (callN Try.prog (tblCl : List (Smry Try.prog XP)) (fun _ _ => false) 100 20 55 [.c (.ptr 0 0)] ⟨clmHeap (⟨2, tok, seg, slot, g, priv, got, e⟩ : Clm) .mk ++ [(1, parO A)], 100⟩ (bN 3) (fun v m _ => clmPost (clmStep (⟨2, tok, seg, slot, g, priv, got, e⟩ : Clm) A) (clmA (⟨2, tok, seg, slot, g, priv, got, e⟩ : Clm) A) v m)) := by
  constructor
  rw [clm2_vc]
  obtain ⟨hg, hA, hp⟩ := hc
  dsimp only at hg hA hp
  have eg : (1 : Int) + max 0 (min (g : Int) 7) = (g : Int) + 1 := by omega
  simp only [eg]
  repeat' first
    | with_reducible apply And.intro
    | with_reducible exact trivial
    | with_reducible exact fun _ h => h
    | with_reducible exact Eq.refl _
    | (intro (K : KO XP); simp only [and_imp]; intros; repeat' first | with_reducible apply And.intro | with_reducible exact trivial | with_reducible exact Eq.refl _ | with_reducible assumption)
    | intro _

  any_goals first
    | with_reducible refine ⟨tok, seg, slot, g, priv, got, e, is2n (by assumption), ?_⟩
    | with_reducible refine ⟨tok, priv, slot, g, 0, got, e, is2y (by assumption), ?_⟩
    | skip

  repeat' first
    | with_reducible apply And.intro
    | with_reducible exact trivial
    | with_reducible exact fun _ h => h
    | with_reducible exact Eq.refl _
    | (intro (K : KO XP); simp only [and_imp]; intros; repeat' first | with_reducible apply And.intro | with_reducible exact trivial | with_reducible exact Eq.refl _ | with_reducible assumption)
    | intro _

  all_goals first
    | exact hA
    | omega
    | rfl
/-- What the executor leaves to be shown of (*roundelay/claim.Claim).Step, written out. -/
theorem clm4_vc (tok seg slot g priv : Nat) (got : Bool) (e : Nat) (A : PA) : (callN Try.prog (tblCl : List (Smry Try.prog XP)) (fun _ _ => false) 100 20 55 [.c (.ptr 0 0)] ⟨clmHeap (⟨4, tok, seg, slot, g, priv, got, e⟩ : Clm) .mk ++ [(1, parO A)], 100⟩ (bN 5) (fun v m _ => clmPost (clmStep (⟨4, tok, seg, slot, g, priv, got, e⟩ : Clm) A) (clmA (⟨4, tok, seg, slot, g, priv, got, e⟩ : Clm) A) v m)) = (
    (0 : Int) ≤ (↑seg : Int) ∧ (A.Has (if (inS (↑slot : Int) && inF (0 : Int)) = true then (↑seg : Int) else (0 : Int)) (if (inS (↑slot : Int) && inF (0 : Int)) = true then (5 : Int) *
    (↑(segO (↑slot : Int).toNat) : Int) + (0 : Int) else (0 : Int)) ∧ ((0 : Int) ≤ (↑tok : Int) ∧ (↑tok : Int) < (18446744073709551616 : Int)) ∧ (0 : Int) ≤ (0 : Int) ∧ ((!decide
    ((↑(A.rd (if (inS (↑slot : Int) && inF (0 : Int)) = true then (↑seg : Int) else (0 : Int)) (if (inS (↑slot : Int) && inF (0 : Int)) = true then (5 : Int) * (↑(segO (↑slot :
    Int).toNat) : Int) + (0 : Int) else (0 : Int))) : Int) = (0 : Int))) = true → ((-9223372036854775808 : Int) ≤ (↑slot : Int) + (1 : Int) ∧ (↑slot : Int) + (1 : Int) ≤
    (9223372036854775807 : Int)) ∧ ((!inS ((↑slot : Int) + (1 : Int))) = true → ∃ (tok_1 : Nat), ∃ (seg_1 : Nat), ∃ (slot_1 : Nat), ∃ (g_1 : Nat), ∃ (priv_1 : Nat), ∃ (got_1 : Bool), ∃
    (e_1 : Nat), Is (Clm.mk (5 : Nat) tok_1 seg_1 slot_1 g_1 priv_1 got_1 e_1) (clmStep (Clm.mk (4 : Nat) tok seg slot g priv got e) A) ∧ (Value.nilFunc = Value.nilFunc ∧ (0 : Nat) = (0
    : Nat) ∧ (↑tok_1 : Int) = (↑tok : Int) ∧ (↑seg_1 : Int) = (↑seg : Int) ∧ (↑slot_1 : Int) = (↑slot : Int) + (1 : Int) ∧ (↑g_1 : Int) = (↑g : Int) ∧ (↑priv_1 : Int) = (↑priv : Int) ∧
    got_1 = got ∧ (↑e_1 : Int) = (12 : Int) ∧ True) ∧ clmA (Clm.mk (4 : Nat) tok seg slot g priv got e) A = A.swapQ (if (inS (↑slot : Int) && inF (0 : Int)) = true then (↑seg : Int)
    else (0 : Int)) (if (inS (↑slot : Int) && inF (0 : Int)) = true then (5 : Int) * (↑(segO (↑slot : Int).toNat) : Int) + (0 : Int) else (0 : Int)) (0 : Int) (↑tok : Int) ∧ True) ∧
    ((!inS ((↑slot : Int) + (1 : Int))) = false → (((if inS ((↑slot : Int) + (1 : Int)) = true then (↑(segO ((↑slot : Int) + (1 : Int)).toNat) : Int) else (0 : Int)) == (0 : Int)) =
    true → ∃ (tok_1 : Nat), ∃ (seg_1 : Nat), ∃ (slot_1 : Nat), ∃ (g_1 : Nat), ∃ (priv_1 : Nat), ∃ (got_1 : Bool), ∃ (e_1 : Nat), Is (Clm.mk (0 : Nat) tok_1 seg_1 slot_1 g_1 priv_1 got_1
    e_1) (clmStep (Clm.mk (4 : Nat) tok seg slot g priv got e) A) ∧ ((((0 : Nat) = (0 : Nat) ∧ True) ∧ True) ∧ (0 : Nat) = (0 : Nat) ∧ (↑tok_1 : Int) = (↑tok : Int) ∧ (↑seg_1 : Int) =
    (↑seg : Int) ∧ (↑slot_1 : Int) = (↑slot : Int) + (1 : Int) ∧ ((↑g_1 : Int) = if inS ((↑slot : Int) + (1 : Int)) = true then (↑(segG ((↑slot : Int) + (1 : Int)).toNat) : Int) else (0
    : Int)) ∧ (↑priv_1 : Int) = (↑priv : Int) ∧ got_1 = got ∧ (↑e_1 : Int) = (↑e : Int) ∧ True) ∧ clmA (Clm.mk (4 : Nat) tok seg slot g priv got e) A = A.swapQ (if (inS (↑slot : Int) &&
    inF (0 : Int)) = true then (↑seg : Int) else (0 : Int)) (if (inS (↑slot : Int) && inF (0 : Int)) = true then (5 : Int) * (↑(segO (↑slot : Int).toNat) : Int) + (0 : Int) else (0 :
    Int)) (0 : Int) (↑tok : Int) ∧ True) ∧ (((if inS ((↑slot : Int) + (1 : Int)) = true then (↑(segO ((↑slot : Int) + (1 : Int)).toNat) : Int) else (0 : Int)) == (0 : Int)) = false → ∃
    (tok_1 : Nat), ∃ (seg_1 : Nat), ∃ (slot_1 : Nat), ∃ (g_1 : Nat), ∃ (priv_1 : Nat), ∃ (got_1 : Bool), ∃ (e_1 : Nat), Is (Clm.mk (4 : Nat) tok_1 seg_1 slot_1 g_1 priv_1 got_1 e_1)
    (clmStep (Clm.mk (4 : Nat) tok seg slot g priv got e) A) ∧ ((((0 : Nat) = (0 : Nat) ∧ True) ∧ True) ∧ (0 : Nat) = (0 : Nat) ∧ (↑tok_1 : Int) = (↑tok : Int) ∧ (↑seg_1 : Int) = (↑seg
    : Int) ∧ (↑slot_1 : Int) = (↑slot : Int) + (1 : Int) ∧ (↑g_1 : Int) = (↑g : Int) ∧ (↑priv_1 : Int) = (↑priv : Int) ∧ got_1 = got ∧ (↑e_1 : Int) = (↑e : Int) ∧ True) ∧ clmA (Clm.mk
    (4 : Nat) tok seg slot g priv got e) A = A.swapQ (if (inS (↑slot : Int) && inF (0 : Int)) = true then (↑seg : Int) else (0 : Int)) (if (inS (↑slot : Int) && inF (0 : Int)) = true
    then (5 : Int) * (↑(segO (↑slot : Int).toNat) : Int) + (0 : Int) else (0 : Int)) (0 : Int) (↑tok : Int) ∧ True))) ∧ ((!decide ((↑(A.rd (if (inS (↑slot : Int) && inF (0 : Int)) =
    true then (↑seg : Int) else (0 : Int)) (if (inS (↑slot : Int) && inF (0 : Int)) = true then (5 : Int) * (↑(segO (↑slot : Int).toNat) : Int) + (0 : Int) else (0 : Int))) : Int) = (0
    : Int))) = false → ∃ (tok_1 : Nat), ∃ (seg_1 : Nat), ∃ (slot_1 : Nat), ∃ (g_1 : Nat), ∃ (priv_1 : Nat), ∃ (got_1 : Bool), ∃ (e_1 : Nat), Is (Clm.mk (5 : Nat) tok_1 seg_1 slot_1 g_1
    priv_1 got_1 e_1) (clmStep (Clm.mk (4 : Nat) tok seg slot g priv got e) A) ∧ (Value.nilFunc = Value.nilFunc ∧ (0 : Nat) = (0 : Nat) ∧ (↑tok_1 : Int) = (↑tok : Int) ∧ (↑seg_1 : Int)
    = (↑seg : Int) ∧ (↑slot_1 : Int) = (↑slot : Int) ∧ (↑g_1 : Int) = (↑g : Int) ∧ (↑priv_1 : Int) = (↑priv : Int) ∧ got_1 = true ∧ (↑e_1 : Int) = (↑e : Int) ∧ True) ∧ clmA (Clm.mk (4 :
    Nat) tok seg slot g priv got e) A = A.swapQ (if (inS (↑slot : Int) && inF (0 : Int)) = true then (↑seg : Int) else (0 : Int)) (if (inS (↑slot : Int) && inF (0 : Int)) = true then (5
    : Int) * (↑(segO (↑slot : Int).toNat) : Int) + (0 : Int) else (0 : Int)) (0 : Int) (↑tok : Int) ∧ True)) ∧ True) := by
  kernel_rfl
theorem clm4_run (tok seg slot g priv : Nat) (got : Bool) (e : Nat) (A : PA) (hc : clmOk (⟨4, tok, seg, slot, g, priv, got, e⟩ : Clm) A) : Run (callN Try.prog (tblCl : List (Smry Try.prog XP)) (fun _ _ => false) 100 20 55 [.c (.ptr 0 0)] ⟨clmHeap (⟨4, tok, seg, slot, g, priv, got, e⟩ : Clm) .mk ++ [(1, parO A)], 100⟩ (bN 5) (fun v m _ => clmPost (clmStep (⟨4, tok, seg, slot, g, priv, got, e⟩ : Clm) A) (clmA (⟨4, tok, seg, slot, g, priv, got, e⟩ : Clm) A) v m)) := by
  constructor
  rw [clm4_vc]
  obtain ⟨hs, hA, ht⟩ := hc
  dsimp only at hs hA ht
  have ei : inS (slot : Int) = true := by unfold inS; simp only [Bool.and_eq_true, decide_eq_true_eq]; omega
  have e0 : inF 0 = true := by decide
  have es : ((slot : Int) + 1).toNat = slot + 1 := by omega
  simp only [ei, e0, Bool.and_self, if_true, Int.toNat_natCast, Int.add_zero, es]
  repeat' first
    | with_reducible apply And.intro
    | with_reducible exact trivial
    | with_reducible exact fun _ h => h
    | with_reducible exact Eq.refl _
    | (intro (K : KO XP); simp only [and_imp]; intros; repeat' first | with_reducible apply And.intro | with_reducible exact trivial | with_reducible exact Eq.refl _ | with_reducible assumption)
    | intro _

  any_goals first
    | with_reducible refine ⟨tok, seg, slot, g, priv, true, e, is4y (by assumption), ?_⟩
    | with_reducible refine ⟨tok, seg, slot + 1, g, priv, got, 12, is4e (by assumption) (by assumption), ?_⟩
    | with_reducible refine ⟨tok, seg, slot + 1, segG (slot + 1), priv, got, e, is4g (by assumption) (by assumption) (by assumption), ?_⟩
    | with_reducible refine ⟨tok, seg, slot + 1, g, priv, got, e, is4t (by assumption) (by assumption) (by assumption), ?_⟩
    | skip

  repeat' first
    | with_reducible apply And.intro
    | with_reducible exact trivial
    | with_reducible exact fun _ h => h
    | with_reducible exact Eq.refl _
    | (intro (K : KO XP); simp only [and_imp]; intros; repeat' first | with_reducible apply And.intro | with_reducible exact trivial | with_reducible exact Eq.refl _ | with_reducible assumption)
    | intro _

  all_goals first
    | exact hA
    | omega
    | rfl
    | (rw [if_pos (by simpa using ‹(!inS _) = false›)])
/-- What the executor leaves to be shown of (*roundelay/claim.Claim).Step, written out. -/
theorem clm5_vc (tok seg slot g priv : Nat) (got : Bool) (e : Nat) (A : PA) : (callN Try.prog (tblCl : List (Smry Try.prog XP)) (fun _ _ => false) 100 20 55 [.c (.ptr 0 0)] ⟨clmHeap (⟨5, tok, seg, slot, g, priv, got, e⟩ : Clm) .mk ++ [(1, parO A)], 100⟩ (bN 3) (fun v m _ => clmPost (clmStep (⟨5, tok, seg, slot, g, priv, got, e⟩ : Clm) A) (clmA (⟨5, tok, seg, slot, g, priv, got, e⟩ : Clm) A) v m)) = (
    ∃ (tok_1 : Nat), ∃ (seg_1 : Nat), ∃ (slot_1 : Nat), ∃ (g_1 : Nat), ∃ (priv_1 : Nat), ∃ (got_1 : Bool), ∃ (e_1 : Nat), Is (Clm.mk (5 : Nat) tok_1 seg_1 slot_1 g_1 priv_1 got_1 e_1)
    (clmStep (Clm.mk (5 : Nat) tok seg slot g priv got e) A) ∧ (Value.nilFunc = Value.nilFunc ∧ (0 : Nat) = (0 : Nat) ∧ (↑tok_1 : Int) = (↑tok : Int) ∧ (↑seg_1 : Int) = (↑seg : Int) ∧
    (↑slot_1 : Int) = (↑slot : Int) ∧ (↑g_1 : Int) = (↑g : Int) ∧ (↑priv_1 : Int) = (↑priv : Int) ∧ got_1 = got ∧ (↑e_1 : Int) = (↑e : Int) ∧ True) ∧ clmA (Clm.mk (5 : Nat) tok seg slot
    g priv got e) A = A ∧ True) := by
  kernel_rfl
theorem clm5_run (tok seg slot g priv : Nat) (got : Bool) (e : Nat) (A : PA) (hc : clmOk (⟨5, tok, seg, slot, g, priv, got, e⟩ : Clm) A) : Run (callN Try.prog (tblCl : List (Smry Try.prog XP)) (fun _ _ => false) 100 20 55 [.c (.ptr 0 0)] ⟨clmHeap (⟨5, tok, seg, slot, g, priv, got, e⟩ : Clm) .mk ++ [(1, parO A)], 100⟩ (bN 3) (fun v m _ => clmPost (clmStep (⟨5, tok, seg, slot, g, priv, got, e⟩ : Clm) A) (clmA (⟨5, tok, seg, slot, g, priv, got, e⟩ : Clm) A) v m)) := by
  constructor
  rw [clm5_vc]
  exact ⟨tok, seg, slot, g, priv, got, e, rfl, ⟨rfl, rfl, rfl, rfl, rfl, rfl, rfl, rfl, rfl, trivial⟩, rfl, trivial⟩
end Go.Proofs.Ytgiakcepgbpchaa
