/- An operation upon a model, run. -/
import Derived.Test.YtaflaaiomlijbaaMdlS
set_option linter.all false
namespace Go.Proofs.Ytaflaaiomlijbaa
open Go Go.RowKit
set_option maxRecDepth 1000000
set_option maxHeartbeats 0
def leRun {E : EXT} (r : Nat) (_ : SF) (m : Mem E) (K : Mem E → Prop) : Prop := match m.hp.get r with
  | some (.ints _ _ n cap _) => n ≤ cap → K m
  | _ => Stuck 865
theorem le_ok {E : EXT} (r : Nat) (f : SF) (m : Mem E) (K : Mem E → Prop) (h : leRun r f m K) (ν : Nat → Nat) (w : World) (R : Assn) (hs : Sat w (m.hp.den ν * R)) :
    ∃ m' μ, K m' ∧ Agree m.nx ν μ ∧ m.nx ≤ m'.nx ∧ Sat w (m'.hp.den μ * R) := by
  unfold leRun at h
  split at h <;> try exact h.elim
  rename_i t k n cap g hr
  have h1 := hs
  rw [SH.den_get ν hr, Assn.mul_assoc] at h1
  simp only [SO.den] at h1
  obtain ⟨cur, h1⟩ := h1.ex_mul
  rw [Assn.mul_assoc] at h1
  obtain ⟨⟨_, h2, _⟩, _⟩ := h1.pure_mul
  exact ⟨m, ν, h h2, Agree.refl _ _, Nat.le_refl _, hs⟩
/-- A row has no more than room. -/
def leG {E : EXT} (r : Nat) : Ghost E := ⟨leRun r, le_ok r⟩
theorem mdE1 {c k a b : Int} {q : List Int} {ps ss : List (Int × Value)} (r : RightO c k a b) (h : c = 1) (hq : 256 ≤ q.length) : mdF c k a b ⟨false, q, ps, ss⟩ = ((2, 0), ⟨false, q, ps, ss⟩) := by
  subst h
  unfold mdF mdQ
  rw [if_pos ⟨r, by decide⟩, if_pos (by decide), if_neg (by decide), if_pos rfl, if_pos hq]
theorem mdE2 {c k a b : Int} {q : List Int} {ps ss : List (Int × Value)} (r : RightO c k a b) (h : c = 1) (hq : ¬ 256 ≤ q.length) : mdF c k a b ⟨false, q, ps, ss⟩ = ((0, (q.length : Int) + 1), ⟨false, q ++ [a], ps, ss⟩) := by
  subst h
  unfold mdF mdQ
  rw [if_pos ⟨r, by decide⟩, if_pos (by decide), if_neg (by decide), if_pos rfl, if_neg hq]
theorem mdD {c k a b : Int} {q : List Int} {ps ss : List (Int × Value)} (r : RightO c k a b) (h0 : c ≠ 0) (h3 : c ≤ 3) (h33 : c ≠ 3) (h1 : c ≠ 1) (hq : (q.length : Int) ≠ 0) : mdF c k a b ⟨false, q, ps, ss⟩ = ((0, qF q 0), ⟨false, q.tail, ps, ss⟩) := by
  unfold mdF mdQ
  rw [if_pos ⟨r, h0⟩, if_pos h3, if_neg h33, if_neg h1]
  cases q with
  | nil => exact absurd rfl hq
  | cons x r => rfl
theorem qF_app {q : List Int} {a : Int} {i : Nat} (h : i < (q ++ [a]).length) : qF (q ++ [a]) i = if i < q.length then qF q i else a := by
  unfold qF
  rw [List.getD_eq_getElem?_getD, List.getElem?_append]
  split
  · rw [List.getD_eq_getElem?_getD]
  · have : i - q.length = 0 := by rw [List.length_append, List.length_singleton] at h; omega
    rw [this]; rfl
theorem qF_tail {q : List Int} {i : Nat} : qF q.tail i = qF q (1 + i) := by
  unfold qF
  cases q with
  | nil => rfl
  | cons x r => rw [Nat.add_comm]; rfl
/-- What the executor leaves to be shown of (*roundelay/model.Model).Apply, written out. -/
theorem mdapply2_vc (c k a b : Int) (q : List Int) (ps ss : List (Int × Value)) (z : Nat) : (callN Try.prog ([rightS, floorS] : List (Smry Try.prog XN)) (fun _ _ => false) 100 20 34 [.c (.ptr 0 0), .agg [.int false .i64 c, .int false .i64 k, .int false .i64 a, .int false .i64 b]] ⟨mdHeap (⟨false, q, ps, ss⟩ : Md) z, 100⟩ (.ghost 0 (leG 12) (bN 16)) (fun v m _ => mdPost (respV (mdF c k a b (⟨false, q, ps, ss⟩ : Md)).1) (mdF c k a b (⟨false, q, ps, ss⟩ : Md)).2 v m)) = (
    (Md.mk false q ps ss).q.length ≤ z → True ∧ (∀ (z_1 : Un), True → ((!decide (RightO c k a b)) = true → (mdF c k a b (Md.mk false q ps ss)).snd.nilq = false ∧ ∃ (z' : Nat), (mdF c k
    a b (Md.mk false q ps ss)).fst.fst = (1 : Int) ∧ (mdF c k a b (Md.mk false q ps ss)).fst.snd = (0 : Int) ∧ (((0 : Nat) = (0 : Nat) ∧ (Md.mk false (mdF c k a b (Md.mk false q ps
    ss)).snd.q (mdF c k a b (Md.mk false q ps ss)).snd.ps (mdF c k a b (Md.mk false q ps ss)).snd.ss).q.length = (Md.mk false q ps ss).q.length ∧ z' = z) ∧ True ∧ True ∧ True) ∧ (Md.mk
    false (mdF c k a b (Md.mk false q ps ss)).snd.q (mdF c k a b (Md.mk false q ps ss)).snd.ps (mdF c k a b (Md.mk false q ps ss)).snd.ss).ps = (Md.mk false q ps ss).ps ∧ (Md.mk false
    (mdF c k a b (Md.mk false q ps ss)).snd.q (mdF c k a b (Md.mk false q ps ss)).snd.ps (mdF c k a b (Md.mk false q ps ss)).snd.ss).ss = (Md.mk false q ps ss).ss ∧ ((Md.mk false (mdF c
    k a b (Md.mk false q ps ss)).snd.q (mdF c k a b (Md.mk false q ps ss)).snd.ps (mdF c k a b (Md.mk false q ps ss)).snd.ss).q.length = (Md.mk false q ps ss).q.length ∧ z' = z ∧ ∀ (i :
    Nat), i < (Md.mk false (mdF c k a b (Md.mk false q ps ss)).snd.q (mdF c k a b (Md.mk false q ps ss)).snd.ps (mdF c k a b (Md.mk false q ps ss)).snd.ss).q.length → qF (Md.mk false
    (mdF c k a b (Md.mk false q ps ss)).snd.q (mdF c k a b (Md.mk false q ps ss)).snd.ps (mdF c k a b (Md.mk false q ps ss)).snd.ss).q i = qF (Md.mk false q ps ss).q i) ∧ True) ∧
    ((!decide (RightO c k a b)) = false → ((c == (0 : Int)) = true → (mdF c k a b (Md.mk false q ps ss)).snd.nilq = false ∧ ∃ (z' : Nat), (mdF c k a b (Md.mk false q ps ss)).fst.fst =
    (1 : Int) ∧ (mdF c k a b (Md.mk false q ps ss)).fst.snd = (0 : Int) ∧ (((0 : Nat) = (0 : Nat) ∧ (Md.mk false (mdF c k a b (Md.mk false q ps ss)).snd.q (mdF c k a b (Md.mk false q ps
    ss)).snd.ps (mdF c k a b (Md.mk false q ps ss)).snd.ss).q.length = (Md.mk false q ps ss).q.length ∧ z' = z) ∧ True ∧ True ∧ True) ∧ (Md.mk false (mdF c k a b (Md.mk false q ps
    ss)).snd.q (mdF c k a b (Md.mk false q ps ss)).snd.ps (mdF c k a b (Md.mk false q ps ss)).snd.ss).ps = (Md.mk false q ps ss).ps ∧ (Md.mk false (mdF c k a b (Md.mk false q ps
    ss)).snd.q (mdF c k a b (Md.mk false q ps ss)).snd.ps (mdF c k a b (Md.mk false q ps ss)).snd.ss).ss = (Md.mk false q ps ss).ss ∧ ((Md.mk false (mdF c k a b (Md.mk false q ps
    ss)).snd.q (mdF c k a b (Md.mk false q ps ss)).snd.ps (mdF c k a b (Md.mk false q ps ss)).snd.ss).q.length = (Md.mk false q ps ss).q.length ∧ z' = z ∧ ∀ (i : Nat), i < (Md.mk false
    (mdF c k a b (Md.mk false q ps ss)).snd.q (mdF c k a b (Md.mk false q ps ss)).snd.ps (mdF c k a b (Md.mk false q ps ss)).snd.ss).q.length → qF (Md.mk false (mdF c k a b (Md.mk false
    q ps ss)).snd.q (mdF c k a b (Md.mk false q ps ss)).snd.ps (mdF c k a b (Md.mk false q ps ss)).snd.ss).q i = qF (Md.mk false q ps ss).q i) ∧ True) ∧ ((c == (0 : Int)) = false →
    (decide (c ≤ (3 : Int)) = true → ((c == (3 : Int)) = true → (mdF c k a b (Md.mk false q ps ss)).snd.nilq = false ∧ ∃ (z' : Nat), (mdF c k a b (Md.mk false q ps ss)).fst.fst = (0 :
    Int) ∧ (mdF c k a b (Md.mk false q ps ss)).fst.snd = (↑(Md.mk false q ps ss).q.length : Int) ∧ (((0 : Nat) = (0 : Nat) ∧ (Md.mk false (mdF c k a b (Md.mk false q ps ss)).snd.q (mdF
    c k a b (Md.mk false q ps ss)).snd.ps (mdF c k a b (Md.mk false q ps ss)).snd.ss).q.length = (Md.mk false q ps ss).q.length ∧ z' = z) ∧ True ∧ True ∧ True) ∧ (Md.mk false (mdF c k a
    b (Md.mk false q ps ss)).snd.q (mdF c k a b (Md.mk false q ps ss)).snd.ps (mdF c k a b (Md.mk false q ps ss)).snd.ss).ps = (Md.mk false q ps ss).ps ∧ (Md.mk false (mdF c k a b
    (Md.mk false q ps ss)).snd.q (mdF c k a b (Md.mk false q ps ss)).snd.ps (mdF c k a b (Md.mk false q ps ss)).snd.ss).ss = (Md.mk false q ps ss).ss ∧ ((Md.mk false (mdF c k a b (Md.mk
    false q ps ss)).snd.q (mdF c k a b (Md.mk false q ps ss)).snd.ps (mdF c k a b (Md.mk false q ps ss)).snd.ss).q.length = (Md.mk false q ps ss).q.length ∧ z' = z ∧ ∀ (i : Nat), i <
    (Md.mk false (mdF c k a b (Md.mk false q ps ss)).snd.q (mdF c k a b (Md.mk false q ps ss)).snd.ps (mdF c k a b (Md.mk false q ps ss)).snd.ss).q.length → qF (Md.mk false (mdF c k a b
    (Md.mk false q ps ss)).snd.q (mdF c k a b (Md.mk false q ps ss)).snd.ps (mdF c k a b (Md.mk false q ps ss)).snd.ss).q i = qF (Md.mk false q ps ss).q i) ∧ True) ∧ ((c == (3 : Int)) =
    false → ((c == (1 : Int)) = true → (decide ((↑(Md.mk false q ps ss).q.length : Int) ≥ (256 : Int)) = true → (mdF c k a b (Md.mk false q ps ss)).snd.nilq = false ∧ ∃ (z' : Nat), (mdF
    c k a b (Md.mk false q ps ss)).fst.fst = (2 : Int) ∧ (mdF c k a b (Md.mk false q ps ss)).fst.snd = (0 : Int) ∧ (((0 : Nat) = (0 : Nat) ∧ (Md.mk false (mdF c k a b (Md.mk false q ps
    ss)).snd.q (mdF c k a b (Md.mk false q ps ss)).snd.ps (mdF c k a b (Md.mk false q ps ss)).snd.ss).q.length = (Md.mk false q ps ss).q.length ∧ z' = z) ∧ True ∧ True ∧ True) ∧ (Md.mk
    false (mdF c k a b (Md.mk false q ps ss)).snd.q (mdF c k a b (Md.mk false q ps ss)).snd.ps (mdF c k a b (Md.mk false q ps ss)).snd.ss).ps = (Md.mk false q ps ss).ps ∧ (Md.mk false
    (mdF c k a b (Md.mk false q ps ss)).snd.q (mdF c k a b (Md.mk false q ps ss)).snd.ps (mdF c k a b (Md.mk false q ps ss)).snd.ss).ss = (Md.mk false q ps ss).ss ∧ ((Md.mk false (mdF c
    k a b (Md.mk false q ps ss)).snd.q (mdF c k a b (Md.mk false q ps ss)).snd.ps (mdF c k a b (Md.mk false q ps ss)).snd.ss).q.length = (Md.mk false q ps ss).q.length ∧ z' = z ∧ ∀ (i :
    Nat), i < (Md.mk false (mdF c k a b (Md.mk false q ps ss)).snd.q (mdF c k a b (Md.mk false q ps ss)).snd.ps (mdF c k a b (Md.mk false q ps ss)).snd.ss).q.length → qF (Md.mk false
    (mdF c k a b (Md.mk false q ps ss)).snd.q (mdF c k a b (Md.mk false q ps ss)).snd.ps (mdF c k a b (Md.mk false q ps ss)).snd.ss).q i = qF (Md.mk false q ps ss).q i) ∧ True) ∧
    (decide ((↑(Md.mk false q ps ss).q.length : Int) ≥ (256 : Int)) = false → ((c == (1 : Int)) = true → ((0 : Nat) = (0 : Nat) ∧ (Md.mk false q ps ss).q.length = (Md.mk false q ps
    ss).q.length ∧ z = z ∧ c = c ∧ k = k ∧ a = a ∧ b = b ∧ ((z = z ∧ (Md.mk false q ps ss).q.length ≤ (Md.mk false q ps ss).q.length) ∧ True ∧ (Md.mk false q ps ss).q.length + (1 : Nat)
    ≤ (1000000000 : Nat) ∧ ∀ (cap : Nat), (Md.mk false q ps ss).q.length + (1 : Nat) ≤ cap → (0 : Nat) = (0 : Nat) ∧ (Md.mk false q ps ss).q.length = (Md.mk false q ps ss).q.length ∧ z
    = z ∧ c = c ∧ k = k ∧ a = a ∧ b = b ∧ ((mdF c k a b (Md.mk false q ps ss)).snd.nilq = false ∧ ∃ (z' : Nat), (mdF c k a b (Md.mk false q ps ss)).fst.fst = (0 : Int) ∧ (mdF c k a b
    (Md.mk false q ps ss)).fst.snd = (↑((Md.mk false q ps ss).q.length + (1 : Nat)) : Int) ∧ (((0 : Nat) = (0 : Nat) ∧ (Md.mk false (mdF c k a b (Md.mk false q ps ss)).snd.q (mdF c k a
    b (Md.mk false q ps ss)).snd.ps (mdF c k a b (Md.mk false q ps ss)).snd.ss).q.length = (Md.mk false q ps ss).q.length + (1 : Nat) ∧ z' = cap) ∧ True ∧ True ∧ True) ∧ (Md.mk false
    (mdF c k a b (Md.mk false q ps ss)).snd.q (mdF c k a b (Md.mk false q ps ss)).snd.ps (mdF c k a b (Md.mk false q ps ss)).snd.ss).ps = (Md.mk false q ps ss).ps ∧ (Md.mk false (mdF c
    k a b (Md.mk false q ps ss)).snd.q (mdF c k a b (Md.mk false q ps ss)).snd.ps (mdF c k a b (Md.mk false q ps ss)).snd.ss).ss = (Md.mk false q ps ss).ss ∧ ((Md.mk false (mdF c k a b
    (Md.mk false q ps ss)).snd.q (mdF c k a b (Md.mk false q ps ss)).snd.ps (mdF c k a b (Md.mk false q ps ss)).snd.ss).q.length = (Md.mk false q ps ss).q.length + (1 : Nat) ∧ z' = cap
    ∧ ∀ (i : Nat), i < (Md.mk false (mdF c k a b (Md.mk false q ps ss)).snd.q (mdF c k a b (Md.mk false q ps ss)).snd.ps (mdF c k a b (Md.mk false q ps ss)).snd.ss).q.length → qF (Md.mk
    false (mdF c k a b (Md.mk false q ps ss)).snd.q (mdF c k a b (Md.mk false q ps ss)).snd.ps (mdF c k a b (Md.mk false q ps ss)).snd.ss).q i = if i < (Md.mk false q ps ss).q.length
    then qF (Md.mk false q ps ss).q i else a) ∧ True) ∧ True) ∧ True) ∧ True) ∧ ((c == (1 : Int)) = false → (((↑(Md.mk false q ps ss).q.length : Int) == (0 : Int)) = true → (mdF c k a b
    (Md.mk false q ps ss)).snd.nilq = false ∧ ∃ (z' : Nat), (mdF c k a b (Md.mk false q ps ss)).fst.fst = (1 : Int) ∧ (mdF c k a b (Md.mk false q ps ss)).fst.snd = (0 : Int) ∧ (((0 :
    Nat) = (0 : Nat) ∧ (Md.mk false (mdF c k a b (Md.mk false q ps ss)).snd.q (mdF c k a b (Md.mk false q ps ss)).snd.ps (mdF c k a b (Md.mk false q ps ss)).snd.ss).q.length = (Md.mk
    false q ps ss).q.length ∧ z' = z) ∧ True ∧ True ∧ True) ∧ (Md.mk false (mdF c k a b (Md.mk false q ps ss)).snd.q (mdF c k a b (Md.mk false q ps ss)).snd.ps (mdF c k a b (Md.mk false
    q ps ss)).snd.ss).ps = (Md.mk false q ps ss).ps ∧ (Md.mk false (mdF c k a b (Md.mk false q ps ss)).snd.q (mdF c k a b (Md.mk false q ps ss)).snd.ps (mdF c k a b (Md.mk false q ps
    ss)).snd.ss).ss = (Md.mk false q ps ss).ss ∧ ((Md.mk false (mdF c k a b (Md.mk false q ps ss)).snd.q (mdF c k a b (Md.mk false q ps ss)).snd.ps (mdF c k a b (Md.mk false q ps
    ss)).snd.ss).q.length = (Md.mk false q ps ss).q.length ∧ z' = z ∧ ∀ (i : Nat), i < (Md.mk false (mdF c k a b (Md.mk false q ps ss)).snd.q (mdF c k a b (Md.mk false q ps ss)).snd.ps
    (mdF c k a b (Md.mk false q ps ss)).snd.ss).q.length → qF (Md.mk false (mdF c k a b (Md.mk false q ps ss)).snd.q (mdF c k a b (Md.mk false q ps ss)).snd.ps (mdF c k a b (Md.mk false
    q ps ss)).snd.ss).q i = qF (Md.mk false q ps ss).q i) ∧ True) ∧ (((↑(Md.mk false q ps ss).q.length : Int) == (0 : Int)) = false → ((0 : Int) ≤ (0 : Int) ∧ (0 : Int) < (↑(Md.mk false
    q ps ss).q.length : Int)) ∧ (0 : Nat) < (Md.mk false q ps ss).q.length ∧ ((0 : Int) ≤ (1 : Int) ∧ (1 : Int) ≤ (↑(Md.mk false q ps ss).q.length : Int)) ∧ True ∧ (if z = (1 : Nat)
    then (0 : Nat) else (1 : Nat)) + ((Md.mk false q ps ss).q.length - (1 : Nat)) ≤ (Md.mk false q ps ss).q.length ∧ (0 : Nat) + ((Md.mk false q ps ss).q.length - (1 : Nat)) ≤
    (1000000000 : Nat) ∧ ∀ (cap : Nat), (0 : Nat) + ((Md.mk false q ps ss).q.length - (1 : Nat)) ≤ cap → (mdF c k a b (Md.mk false q ps ss)).snd.nilq = false ∧ ∃ (z' : Nat), (mdF c k a
    b (Md.mk false q ps ss)).fst.fst = (0 : Int) ∧ (mdF c k a b (Md.mk false q ps ss)).fst.snd = qF (Md.mk false q ps ss).q (0 : Nat) ∧ (((0 : Nat) = (0 : Nat) ∧ (Md.mk false (mdF c k a
    b (Md.mk false q ps ss)).snd.q (mdF c k a b (Md.mk false q ps ss)).snd.ps (mdF c k a b (Md.mk false q ps ss)).snd.ss).q.length = (0 : Nat) + ((Md.mk false q ps ss).q.length - (1 :
    Nat)) ∧ z' = cap) ∧ True ∧ True ∧ True) ∧ (Md.mk false (mdF c k a b (Md.mk false q ps ss)).snd.q (mdF c k a b (Md.mk false q ps ss)).snd.ps (mdF c k a b (Md.mk false q ps
    ss)).snd.ss).ps = (Md.mk false q ps ss).ps ∧ (Md.mk false (mdF c k a b (Md.mk false q ps ss)).snd.q (mdF c k a b (Md.mk false q ps ss)).snd.ps (mdF c k a b (Md.mk false q ps
    ss)).snd.ss).ss = (Md.mk false q ps ss).ss ∧ ((Md.mk false (mdF c k a b (Md.mk false q ps ss)).snd.q (mdF c k a b (Md.mk false q ps ss)).snd.ps (mdF c k a b (Md.mk false q ps
    ss)).snd.ss).q.length = (0 : Nat) + ((Md.mk false q ps ss).q.length - (1 : Nat)) ∧ z' = cap ∧ ∀ (i : Nat), i < (Md.mk false (mdF c k a b (Md.mk false q ps ss)).snd.q (mdF c k a b
    (Md.mk false q ps ss)).snd.ps (mdF c k a b (Md.mk false q ps ss)).snd.ss).q.length → qF (Md.mk false (mdF c k a b (Md.mk false q ps ss)).snd.q (mdF c k a b (Md.mk false q ps
    ss)).snd.ps (mdF c k a b (Md.mk false q ps ss)).snd.ss).q i = qF (Md.mk false q ps ss).q (addO false (if z = (1 : Nat) then (0 : Nat) else (1 : Nat)) i)) ∧ True)))) ∧ ((c == (1 :
    Int)) = false → ((c == (1 : Int)) = true → ((0 : Nat) = (0 : Nat) ∧ (Md.mk false q ps ss).q.length = (Md.mk false q ps ss).q.length ∧ z = z ∧ c = c ∧ k = k ∧ a = a ∧ b = b ∧ ((z = z
    ∧ (Md.mk false q ps ss).q.length ≤ (Md.mk false q ps ss).q.length) ∧ True ∧ (Md.mk false q ps ss).q.length + (1 : Nat) ≤ (1000000000 : Nat) ∧ ∀ (cap : Nat), (Md.mk false q ps
    ss).q.length + (1 : Nat) ≤ cap → (0 : Nat) = (0 : Nat) ∧ (Md.mk false q ps ss).q.length = (Md.mk false q ps ss).q.length ∧ z = z ∧ c = c ∧ k = k ∧ a = a ∧ b = b ∧ ((mdF c k a b
    (Md.mk false q ps ss)).snd.nilq = false ∧ ∃ (z' : Nat), (mdF c k a b (Md.mk false q ps ss)).fst.fst = (0 : Int) ∧ (mdF c k a b (Md.mk false q ps ss)).fst.snd = (↑((Md.mk false q ps
    ss).q.length + (1 : Nat)) : Int) ∧ (((0 : Nat) = (0 : Nat) ∧ (Md.mk false (mdF c k a b (Md.mk false q ps ss)).snd.q (mdF c k a b (Md.mk false q ps ss)).snd.ps (mdF c k a b (Md.mk
    false q ps ss)).snd.ss).q.length = (Md.mk false q ps ss).q.length + (1 : Nat) ∧ z' = cap) ∧ True ∧ True ∧ True) ∧ (Md.mk false (mdF c k a b (Md.mk false q ps ss)).snd.q (mdF c k a b
    (Md.mk false q ps ss)).snd.ps (mdF c k a b (Md.mk false q ps ss)).snd.ss).ps = (Md.mk false q ps ss).ps ∧ (Md.mk false (mdF c k a b (Md.mk false q ps ss)).snd.q (mdF c k a b (Md.mk
    false q ps ss)).snd.ps (mdF c k a b (Md.mk false q ps ss)).snd.ss).ss = (Md.mk false q ps ss).ss ∧ ((Md.mk false (mdF c k a b (Md.mk false q ps ss)).snd.q (mdF c k a b (Md.mk false
    q ps ss)).snd.ps (mdF c k a b (Md.mk false q ps ss)).snd.ss).q.length = (Md.mk false q ps ss).q.length + (1 : Nat) ∧ z' = cap ∧ ∀ (i : Nat), i < (Md.mk false (mdF c k a b (Md.mk
    false q ps ss)).snd.q (mdF c k a b (Md.mk false q ps ss)).snd.ps (mdF c k a b (Md.mk false q ps ss)).snd.ss).q.length → qF (Md.mk false (mdF c k a b (Md.mk false q ps ss)).snd.q
    (mdF c k a b (Md.mk false q ps ss)).snd.ps (mdF c k a b (Md.mk false q ps ss)).snd.ss).q i = if i < (Md.mk false q ps ss).q.length then qF (Md.mk false q ps ss).q i else a) ∧ True)
    ∧ True) ∧ True) ∧ True) ∧ ((c == (1 : Int)) = false → (((↑(Md.mk false q ps ss).q.length : Int) == (0 : Int)) = true → (mdF c k a b (Md.mk false q ps ss)).snd.nilq = false ∧ ∃ (z' :
    Nat), (mdF c k a b (Md.mk false q ps ss)).fst.fst = (1 : Int) ∧ (mdF c k a b (Md.mk false q ps ss)).fst.snd = (0 : Int) ∧ (((0 : Nat) = (0 : Nat) ∧ (Md.mk false (mdF c k a b (Md.mk
    false q ps ss)).snd.q (mdF c k a b (Md.mk false q ps ss)).snd.ps (mdF c k a b (Md.mk false q ps ss)).snd.ss).q.length = (Md.mk false q ps ss).q.length ∧ z' = z) ∧ True ∧ True ∧
    True) ∧ (Md.mk false (mdF c k a b (Md.mk false q ps ss)).snd.q (mdF c k a b (Md.mk false q ps ss)).snd.ps (mdF c k a b (Md.mk false q ps ss)).snd.ss).ps = (Md.mk false q ps ss).ps ∧
    (Md.mk false (mdF c k a b (Md.mk false q ps ss)).snd.q (mdF c k a b (Md.mk false q ps ss)).snd.ps (mdF c k a b (Md.mk false q ps ss)).snd.ss).ss = (Md.mk false q ps ss).ss ∧ ((Md.mk
    false (mdF c k a b (Md.mk false q ps ss)).snd.q (mdF c k a b (Md.mk false q ps ss)).snd.ps (mdF c k a b (Md.mk false q ps ss)).snd.ss).q.length = (Md.mk false q ps ss).q.length ∧ z'
    = z ∧ ∀ (i : Nat), i < (Md.mk false (mdF c k a b (Md.mk false q ps ss)).snd.q (mdF c k a b (Md.mk false q ps ss)).snd.ps (mdF c k a b (Md.mk false q ps ss)).snd.ss).q.length → qF
    (Md.mk false (mdF c k a b (Md.mk false q ps ss)).snd.q (mdF c k a b (Md.mk false q ps ss)).snd.ps (mdF c k a b (Md.mk false q ps ss)).snd.ss).q i = qF (Md.mk false q ps ss).q i) ∧
    True) ∧ (((↑(Md.mk false q ps ss).q.length : Int) == (0 : Int)) = false → ((0 : Int) ≤ (0 : Int) ∧ (0 : Int) < (↑(Md.mk false q ps ss).q.length : Int)) ∧ (0 : Nat) < (Md.mk false q
    ps ss).q.length ∧ ((0 : Int) ≤ (1 : Int) ∧ (1 : Int) ≤ (↑(Md.mk false q ps ss).q.length : Int)) ∧ True ∧ (if z = (1 : Nat) then (0 : Nat) else (1 : Nat)) + ((Md.mk false q ps
    ss).q.length - (1 : Nat)) ≤ (Md.mk false q ps ss).q.length ∧ (0 : Nat) + ((Md.mk false q ps ss).q.length - (1 : Nat)) ≤ (1000000000 : Nat) ∧ ∀ (cap : Nat), (0 : Nat) + ((Md.mk false
    q ps ss).q.length - (1 : Nat)) ≤ cap → (mdF c k a b (Md.mk false q ps ss)).snd.nilq = false ∧ ∃ (z' : Nat), (mdF c k a b (Md.mk false q ps ss)).fst.fst = (0 : Int) ∧ (mdF c k a b
    (Md.mk false q ps ss)).fst.snd = qF (Md.mk false q ps ss).q (0 : Nat) ∧ (((0 : Nat) = (0 : Nat) ∧ (Md.mk false (mdF c k a b (Md.mk false q ps ss)).snd.q (mdF c k a b (Md.mk false q
    ps ss)).snd.ps (mdF c k a b (Md.mk false q ps ss)).snd.ss).q.length = (0 : Nat) + ((Md.mk false q ps ss).q.length - (1 : Nat)) ∧ z' = cap) ∧ True ∧ True ∧ True) ∧ (Md.mk false (mdF
    c k a b (Md.mk false q ps ss)).snd.q (mdF c k a b (Md.mk false q ps ss)).snd.ps (mdF c k a b (Md.mk false q ps ss)).snd.ss).ps = (Md.mk false q ps ss).ps ∧ (Md.mk false (mdF c k a b
    (Md.mk false q ps ss)).snd.q (mdF c k a b (Md.mk false q ps ss)).snd.ps (mdF c k a b (Md.mk false q ps ss)).snd.ss).ss = (Md.mk false q ps ss).ss ∧ ((Md.mk false (mdF c k a b (Md.mk
    false q ps ss)).snd.q (mdF c k a b (Md.mk false q ps ss)).snd.ps (mdF c k a b (Md.mk false q ps ss)).snd.ss).q.length = (0 : Nat) + ((Md.mk false q ps ss).q.length - (1 : Nat)) ∧ z'
    = cap ∧ ∀ (i : Nat), i < (Md.mk false (mdF c k a b (Md.mk false q ps ss)).snd.q (mdF c k a b (Md.mk false q ps ss)).snd.ps (mdF c k a b (Md.mk false q ps ss)).snd.ss).q.length → qF
    (Md.mk false (mdF c k a b (Md.mk false q ps ss)).snd.q (mdF c k a b (Md.mk false q ps ss)).snd.ps (mdF c k a b (Md.mk false q ps ss)).snd.ss).q i = qF (Md.mk false q ps ss).q (addO
    false (if z = (1 : Nat) then (0 : Nat) else (1 : Nat)) i)) ∧ True))))) ∧ (decide (c ≤ (3 : Int)) = false → (decide (c ≤ (9 : Int)) = true → ((∀ (y : Int × Value), List.Mem y (Md.mk
    false q ps ss).ps → ∃ (n : Int), y.snd = Value.int IntKind.i64 n) ∧ ((c == (5 : Int)) = true → (((!(look (Md.mk false q ps ss).ps k).isSome) = true → (mdF c k a b (Md.mk false q ps
    ss)).snd.nilq = false ∧ ∃ (z' : Nat), (mdF c k a b (Md.mk false q ps ss)).fst.fst = (1 : Int) ∧ (mdF c k a b (Md.mk false q ps ss)).fst.snd = (0 : Int) ∧ (((0 : Nat) = (0 : Nat) ∧
    (Md.mk false (mdF c k a b (Md.mk false q ps ss)).snd.q (mdF c k a b (Md.mk false q ps ss)).snd.ps (mdF c k a b (Md.mk false q ps ss)).snd.ss).q.length = (Md.mk false q ps
    ss).q.length ∧ z' = z) ∧ True ∧ True ∧ True) ∧ (Md.mk false (mdF c k a b (Md.mk false q ps ss)).snd.q (mdF c k a b (Md.mk false q ps ss)).snd.ps (mdF c k a b (Md.mk false q ps
    ss)).snd.ss).ps = updL (Md.mk false q ps ss).ps k (Value.int IntKind.i64 a) ∧ (Md.mk false (mdF c k a b (Md.mk false q ps ss)).snd.q (mdF c k a b (Md.mk false q ps ss)).snd.ps (mdF
    c k a b (Md.mk false q ps ss)).snd.ss).ss = (Md.mk false q ps ss).ss ∧ ((Md.mk false (mdF c k a b (Md.mk false q ps ss)).snd.q (mdF c k a b (Md.mk false q ps ss)).snd.ps (mdF c k a
    b (Md.mk false q ps ss)).snd.ss).q.length = (Md.mk false q ps ss).q.length ∧ z' = z ∧ ∀ (i : Nat), i < (Md.mk false (mdF c k a b (Md.mk false q ps ss)).snd.q (mdF c k a b (Md.mk
    false q ps ss)).snd.ps (mdF c k a b (Md.mk false q ps ss)).snd.ss).q.length → qF (Md.mk false (mdF c k a b (Md.mk false q ps ss)).snd.q (mdF c k a b (Md.mk false q ps ss)).snd.ps
    (mdF c k a b (Md.mk false q ps ss)).snd.ss).q i = qF (Md.mk false q ps ss).q i) ∧ True) ∧ ((!(look (Md.mk false q ps ss).ps k).isSome) = false → (mdF c k a b (Md.mk false q ps
    ss)).snd.nilq = false ∧ ∃ (z' : Nat), (mdF c k a b (Md.mk false q ps ss)).fst.fst = (0 : Int) ∧ (mdF c k a b (Md.mk false q ps ss)).fst.snd = lookI (Md.mk false q ps ss).ps k ∧ (((0
    : Nat) = (0 : Nat) ∧ (Md.mk false (mdF c k a b (Md.mk false q ps ss)).snd.q (mdF c k a b (Md.mk false q ps ss)).snd.ps (mdF c k a b (Md.mk false q ps ss)).snd.ss).q.length = (Md.mk
    false q ps ss).q.length ∧ z' = z) ∧ True ∧ True ∧ True) ∧ (Md.mk false (mdF c k a b (Md.mk false q ps ss)).snd.q (mdF c k a b (Md.mk false q ps ss)).snd.ps (mdF c k a b (Md.mk false
    q ps ss)).snd.ss).ps = updL (Md.mk false q ps ss).ps k (Value.int IntKind.i64 a) ∧ (Md.mk false (mdF c k a b (Md.mk false q ps ss)).snd.q (mdF c k a b (Md.mk false q ps ss)).snd.ps
    (mdF c k a b (Md.mk false q ps ss)).snd.ss).ss = (Md.mk false q ps ss).ss ∧ ((Md.mk false (mdF c k a b (Md.mk false q ps ss)).snd.q (mdF c k a b (Md.mk false q ps ss)).snd.ps (mdF c
    k a b (Md.mk false q ps ss)).snd.ss).q.length = (Md.mk false q ps ss).q.length ∧ z' = z ∧ ∀ (i : Nat), i < (Md.mk false (mdF c k a b (Md.mk false q ps ss)).snd.q (mdF c k a b (Md.mk
    false q ps ss)).snd.ps (mdF c k a b (Md.mk false q ps ss)).snd.ss).q.length → qF (Md.mk false (mdF c k a b (Md.mk false q ps ss)).snd.q (mdF c k a b (Md.mk false q ps ss)).snd.ps
    (mdF c k a b (Md.mk false q ps ss)).snd.ss).q i = qF (Md.mk false q ps ss).q i) ∧ True)) ∧ True) ∧ ((c == (5 : Int)) = false → ((c == (6 : Int)) = true → (((!(look (Md.mk false q ps
    ss).ps k).isSome) = true → (mdF c k a b (Md.mk false q ps ss)).snd.nilq = false ∧ ∃ (z' : Nat), (mdF c k a b (Md.mk false q ps ss)).fst.fst = (1 : Int) ∧ (mdF c k a b (Md.mk false q
    ps ss)).fst.snd = (0 : Int) ∧ (((0 : Nat) = (0 : Nat) ∧ (Md.mk false (mdF c k a b (Md.mk false q ps ss)).snd.q (mdF c k a b (Md.mk false q ps ss)).snd.ps (mdF c k a b (Md.mk false q
    ps ss)).snd.ss).q.length = (Md.mk false q ps ss).q.length ∧ z' = z) ∧ True ∧ True ∧ True) ∧ (Md.mk false (mdF c k a b (Md.mk false q ps ss)).snd.q (mdF c k a b (Md.mk false q ps
    ss)).snd.ps (mdF c k a b (Md.mk false q ps ss)).snd.ss).ps = delL (Md.mk false q ps ss).ps k ∧ (Md.mk false (mdF c k a b (Md.mk false q ps ss)).snd.q (mdF c k a b (Md.mk false q ps
    ss)).snd.ps (mdF c k a b (Md.mk false q ps ss)).snd.ss).ss = (Md.mk false q ps ss).ss ∧ ((Md.mk false (mdF c k a b (Md.mk false q ps ss)).snd.q (mdF c k a b (Md.mk false q ps
    ss)).snd.ps (mdF c k a b (Md.mk false q ps ss)).snd.ss).q.length = (Md.mk false q ps ss).q.length ∧ z' = z ∧ ∀ (i : Nat), i < (Md.mk false (mdF c k a b (Md.mk false q ps ss)).snd.q
    (mdF c k a b (Md.mk false q ps ss)).snd.ps (mdF c k a b (Md.mk false q ps ss)).snd.ss).q.length → qF (Md.mk false (mdF c k a b (Md.mk false q ps ss)).snd.q (mdF c k a b (Md.mk false
    q ps ss)).snd.ps (mdF c k a b (Md.mk false q ps ss)).snd.ss).q i = qF (Md.mk false q ps ss).q i) ∧ True) ∧ ((!(look (Md.mk false q ps ss).ps k).isSome) = false → (mdF c k a b (Md.mk
    false q ps ss)).snd.nilq = false ∧ ∃ (z' : Nat), (mdF c k a b (Md.mk false q ps ss)).fst.fst = (0 : Int) ∧ (mdF c k a b (Md.mk false q ps ss)).fst.snd = lookI (Md.mk false q ps
    ss).ps k ∧ (((0 : Nat) = (0 : Nat) ∧ (Md.mk false (mdF c k a b (Md.mk false q ps ss)).snd.q (mdF c k a b (Md.mk false q ps ss)).snd.ps (mdF c k a b (Md.mk false q ps
    ss)).snd.ss).q.length = (Md.mk false q ps ss).q.length ∧ z' = z) ∧ True ∧ True ∧ True) ∧ (Md.mk false (mdF c k a b (Md.mk false q ps ss)).snd.q (mdF c k a b (Md.mk false q ps
    ss)).snd.ps (mdF c k a b (Md.mk false q ps ss)).snd.ss).ps = delL (Md.mk false q ps ss).ps k ∧ (Md.mk false (mdF c k a b (Md.mk false q ps ss)).snd.q (mdF c k a b (Md.mk false q ps
    ss)).snd.ps (mdF c k a b (Md.mk false q ps ss)).snd.ss).ss = (Md.mk false q ps ss).ss ∧ ((Md.mk false (mdF c k a b (Md.mk false q ps ss)).snd.q (mdF c k a b (Md.mk false q ps
    ss)).snd.ps (mdF c k a b (Md.mk false q ps ss)).snd.ss).q.length = (Md.mk false q ps ss).q.length ∧ z' = z ∧ ∀ (i : Nat), i < (Md.mk false (mdF c k a b (Md.mk false q ps ss)).snd.q
    (mdF c k a b (Md.mk false q ps ss)).snd.ps (mdF c k a b (Md.mk false q ps ss)).snd.ss).q.length → qF (Md.mk false (mdF c k a b (Md.mk false q ps ss)).snd.q (mdF c k a b (Md.mk false
    q ps ss)).snd.ps (mdF c k a b (Md.mk false q ps ss)).snd.ss).q i = qF (Md.mk false q ps ss).q i) ∧ True)) ∧ True) ∧ ((c == (6 : Int)) = false → ((c == (7 : Int)) = true → ((look
    (Md.mk false q ps ss).ps k).isSome = true → ((lookI (Md.mk false q ps ss).ps k != a) = true → (mdF c k a b (Md.mk false q ps ss)).snd.nilq = false ∧ ∃ (z' : Nat), (mdF c k a b
    (Md.mk false q ps ss)).fst.fst = (4 : Int) ∧ (mdF c k a b (Md.mk false q ps ss)).fst.snd = lookI (Md.mk false q ps ss).ps k ∧ (((0 : Nat) = (0 : Nat) ∧ (Md.mk false (mdF c k a b
    (Md.mk false q ps ss)).snd.q (mdF c k a b (Md.mk false q ps ss)).snd.ps (mdF c k a b (Md.mk false q ps ss)).snd.ss).q.length = (Md.mk false q ps ss).q.length ∧ z' = z) ∧ True ∧ True
    ∧ True) ∧ (Md.mk false (mdF c k a b (Md.mk false q ps ss)).snd.q (mdF c k a b (Md.mk false q ps ss)).snd.ps (mdF c k a b (Md.mk false q ps ss)).snd.ss).ps = (Md.mk false q ps ss).ps
    ∧ (Md.mk false (mdF c k a b (Md.mk false q ps ss)).snd.q (mdF c k a b (Md.mk false q ps ss)).snd.ps (mdF c k a b (Md.mk false q ps ss)).snd.ss).ss = (Md.mk false q ps ss).ss ∧
    ((Md.mk false (mdF c k a b (Md.mk false q ps ss)).snd.q (mdF c k a b (Md.mk false q ps ss)).snd.ps (mdF c k a b (Md.mk false q ps ss)).snd.ss).q.length = (Md.mk false q ps
    ss).q.length ∧ z' = z ∧ ∀ (i : Nat), i < (Md.mk false (mdF c k a b (Md.mk false q ps ss)).snd.q (mdF c k a b (Md.mk false q ps ss)).snd.ps (mdF c k a b (Md.mk false q ps
    ss)).snd.ss).q.length → qF (Md.mk false (mdF c k a b (Md.mk false q ps ss)).snd.q (mdF c k a b (Md.mk false q ps ss)).snd.ps (mdF c k a b (Md.mk false q ps ss)).snd.ss).q i = qF
    (Md.mk false q ps ss).q i) ∧ True) ∧ ((lookI (Md.mk false q ps ss).ps k != a) = false → ((look (Md.mk false q ps ss).ps k).isSome = true → (((!(look (Md.mk false q ps ss).ps
    k).isSome) = true → (mdF c k a b (Md.mk false q ps ss)).snd.nilq = false ∧ ∃ (z' : Nat), (mdF c k a b (Md.mk false q ps ss)).fst.fst = (1 : Int) ∧ (mdF c k a b (Md.mk false q ps
    ss)).fst.snd = (0 : Int) ∧ (((0 : Nat) = (0 : Nat) ∧ (Md.mk false (mdF c k a b (Md.mk false q ps ss)).snd.q (mdF c k a b (Md.mk false q ps ss)).snd.ps (mdF c k a b (Md.mk false q ps
    ss)).snd.ss).q.length = (Md.mk false q ps ss).q.length ∧ z' = z) ∧ True ∧ True ∧ True) ∧ (Md.mk false (mdF c k a b (Md.mk false q ps ss)).snd.q (mdF c k a b (Md.mk false q ps
    ss)).snd.ps (mdF c k a b (Md.mk false q ps ss)).snd.ss).ps = updL (Md.mk false q ps ss).ps k (Value.int IntKind.i64 b) ∧ (Md.mk false (mdF c k a b (Md.mk false q ps ss)).snd.q (mdF
    c k a b (Md.mk false q ps ss)).snd.ps (mdF c k a b (Md.mk false q ps ss)).snd.ss).ss = (Md.mk false q ps ss).ss ∧ ((Md.mk false (mdF c k a b (Md.mk false q ps ss)).snd.q (mdF c k a
    b (Md.mk false q ps ss)).snd.ps (mdF c k a b (Md.mk false q ps ss)).snd.ss).q.length = (Md.mk false q ps ss).q.length ∧ z' = z ∧ ∀ (i : Nat), i < (Md.mk false (mdF c k a b (Md.mk
    false q ps ss)).snd.q (mdF c k a b (Md.mk false q ps ss)).snd.ps (mdF c k a b (Md.mk false q ps ss)).snd.ss).q.length → qF (Md.mk false (mdF c k a b (Md.mk false q ps ss)).snd.q
    (mdF c k a b (Md.mk false q ps ss)).snd.ps (mdF c k a b (Md.mk false q ps ss)).snd.ss).q i = qF (Md.mk false q ps ss).q i) ∧ True) ∧ ((!(look (Md.mk false q ps ss).ps k).isSome) =
    false → (mdF c k a b (Md.mk false q ps ss)).snd.nilq = false ∧ ∃ (z' : Nat), (mdF c k a b (Md.mk false q ps ss)).fst.fst = (0 : Int) ∧ (mdF c k a b (Md.mk false q ps ss)).fst.snd =
    lookI (Md.mk false q ps ss).ps k ∧ (((0 : Nat) = (0 : Nat) ∧ (Md.mk false (mdF c k a b (Md.mk false q ps ss)).snd.q (mdF c k a b (Md.mk false q ps ss)).snd.ps (mdF c k a b (Md.mk
    false q ps ss)).snd.ss).q.length = (Md.mk false q ps ss).q.length ∧ z' = z) ∧ True ∧ True ∧ True) ∧ (Md.mk false (mdF c k a b (Md.mk false q ps ss)).snd.q (mdF c k a b (Md.mk false
    q ps ss)).snd.ps (mdF c k a b (Md.mk false q ps ss)).snd.ss).ps = updL (Md.mk false q ps ss).ps k (Value.int IntKind.i64 b) ∧ (Md.mk false (mdF c k a b (Md.mk false q ps ss)).snd.q
    (mdF c k a b (Md.mk false q ps ss)).snd.ps (mdF c k a b (Md.mk false q ps ss)).snd.ss).ss = (Md.mk false q ps ss).ss ∧ ((Md.mk false (mdF c k a b (Md.mk false q ps ss)).snd.q (mdF c
    k a b (Md.mk false q ps ss)).snd.ps (mdF c k a b (Md.mk false q ps ss)).snd.ss).q.length = (Md.mk false q ps ss).q.length ∧ z' = z ∧ ∀ (i : Nat), i < (Md.mk false (mdF c k a b
    (Md.mk false q ps ss)).snd.q (mdF c k a b (Md.mk false q ps ss)).snd.ps (mdF c k a b (Md.mk false q ps ss)).snd.ss).q.length → qF (Md.mk false (mdF c k a b (Md.mk false q ps
    ss)).snd.q (mdF c k a b (Md.mk false q ps ss)).snd.ps (mdF c k a b (Md.mk false q ps ss)).snd.ss).q i = qF (Md.mk false q ps ss).q i) ∧ True)) ∧ True) ∧ ((look (Md.mk false q ps
    ss).ps k).isSome = false → ((!(look (Md.mk false q ps ss).ps k).isSome) = true → (mdF c k a b (Md.mk false q ps ss)).snd.nilq = false ∧ ∃ (z' : Nat), (mdF c k a b (Md.mk false q ps
    ss)).fst.fst = (1 : Int) ∧ (mdF c k a b (Md.mk false q ps ss)).fst.snd = (0 : Int) ∧ (((0 : Nat) = (0 : Nat) ∧ (Md.mk false (mdF c k a b (Md.mk false q ps ss)).snd.q (mdF c k a b
    (Md.mk false q ps ss)).snd.ps (mdF c k a b (Md.mk false q ps ss)).snd.ss).q.length = (Md.mk false q ps ss).q.length ∧ z' = z) ∧ True ∧ True ∧ True) ∧ (Md.mk false (mdF c k a b
    (Md.mk false q ps ss)).snd.q (mdF c k a b (Md.mk false q ps ss)).snd.ps (mdF c k a b (Md.mk false q ps ss)).snd.ss).ps = (Md.mk false q ps ss).ps ∧ (Md.mk false (mdF c k a b (Md.mk
    false q ps ss)).snd.q (mdF c k a b (Md.mk false q ps ss)).snd.ps (mdF c k a b (Md.mk false q ps ss)).snd.ss).ss = (Md.mk false q ps ss).ss ∧ ((Md.mk false (mdF c k a b (Md.mk false
    q ps ss)).snd.q (mdF c k a b (Md.mk false q ps ss)).snd.ps (mdF c k a b (Md.mk false q ps ss)).snd.ss).q.length = (Md.mk false q ps ss).q.length ∧ z' = z ∧ ∀ (i : Nat), i < (Md.mk
    false (mdF c k a b (Md.mk false q ps ss)).snd.q (mdF c k a b (Md.mk false q ps ss)).snd.ps (mdF c k a b (Md.mk false q ps ss)).snd.ss).q.length → qF (Md.mk false (mdF c k a b (Md.mk
    false q ps ss)).snd.q (mdF c k a b (Md.mk false q ps ss)).snd.ps (mdF c k a b (Md.mk false q ps ss)).snd.ss).q i = qF (Md.mk false q ps ss).q i) ∧ True) ∧ ((!(look (Md.mk false q ps
    ss).ps k).isSome) = false → (mdF c k a b (Md.mk false q ps ss)).snd.nilq = false ∧ ∃ (z' : Nat), (mdF c k a b (Md.mk false q ps ss)).fst.fst = (0 : Int) ∧ (mdF c k a b (Md.mk false
    q ps ss)).fst.snd = lookI (Md.mk false q ps ss).ps k ∧ (((0 : Nat) = (0 : Nat) ∧ (Md.mk false (mdF c k a b (Md.mk false q ps ss)).snd.q (mdF c k a b (Md.mk false q ps ss)).snd.ps
    (mdF c k a b (Md.mk false q ps ss)).snd.ss).q.length = (Md.mk false q ps ss).q.length ∧ z' = z) ∧ True ∧ True ∧ True) ∧ (Md.mk false (mdF c k a b (Md.mk false q ps ss)).snd.q (mdF c
    k a b (Md.mk false q ps ss)).snd.ps (mdF c k a b (Md.mk false q ps ss)).snd.ss).ps = (Md.mk false q ps ss).ps ∧ (Md.mk false (mdF c k a b (Md.mk false q ps ss)).snd.q (mdF c k a b
    (Md.mk false q ps ss)).snd.ps (mdF c k a b (Md.mk false q ps ss)).snd.ss).ss = (Md.mk false q ps ss).ss ∧ ((Md.mk false (mdF c k a b (Md.mk false q ps ss)).snd.q (mdF c k a b (Md.mk
    false q ps ss)).snd.ps (mdF c k a b (Md.mk false q ps ss)).snd.ss).q.length = (Md.mk false q ps ss).q.length ∧ z' = z ∧ ∀ (i : Nat), i < (Md.mk false (mdF c k a b (Md.mk false q ps
    ss)).snd.q (mdF c k a b (Md.mk false q ps ss)).snd.ps (mdF c k a b (Md.mk false q ps ss)).snd.ss).q.length → qF (Md.mk false (mdF c k a b (Md.mk false q ps ss)).snd.q (mdF c k a b
    (Md.mk false q ps ss)).snd.ps (mdF c k a b (Md.mk false q ps ss)).snd.ss).q i = qF (Md.mk false q ps ss).q i) ∧ True)))) ∧ ((look (Md.mk false q ps ss).ps k).isSome = false → ((look
    (Md.mk false q ps ss).ps k).isSome = true → (((!(look (Md.mk false q ps ss).ps k).isSome) = true → (mdF c k a b (Md.mk false q ps ss)).snd.nilq = false ∧ ∃ (z' : Nat), (mdF c k a b
    (Md.mk false q ps ss)).fst.fst = (1 : Int) ∧ (mdF c k a b (Md.mk false q ps ss)).fst.snd = (0 : Int) ∧ (((0 : Nat) = (0 : Nat) ∧ (Md.mk false (mdF c k a b (Md.mk false q ps
    ss)).snd.q (mdF c k a b (Md.mk false q ps ss)).snd.ps (mdF c k a b (Md.mk false q ps ss)).snd.ss).q.length = (Md.mk false q ps ss).q.length ∧ z' = z) ∧ True ∧ True ∧ True) ∧ (Md.mk
    false (mdF c k a b (Md.mk false q ps ss)).snd.q (mdF c k a b (Md.mk false q ps ss)).snd.ps (mdF c k a b (Md.mk false q ps ss)).snd.ss).ps = updL (Md.mk false q ps ss).ps k
    (Value.int IntKind.i64 b) ∧ (Md.mk false (mdF c k a b (Md.mk false q ps ss)).snd.q (mdF c k a b (Md.mk false q ps ss)).snd.ps (mdF c k a b (Md.mk false q ps ss)).snd.ss).ss = (Md.mk
    false q ps ss).ss ∧ ((Md.mk false (mdF c k a b (Md.mk false q ps ss)).snd.q (mdF c k a b (Md.mk false q ps ss)).snd.ps (mdF c k a b (Md.mk false q ps ss)).snd.ss).q.length = (Md.mk
    false q ps ss).q.length ∧ z' = z ∧ ∀ (i : Nat), i < (Md.mk false (mdF c k a b (Md.mk false q ps ss)).snd.q (mdF c k a b (Md.mk false q ps ss)).snd.ps (mdF c k a b (Md.mk false q ps
    ss)).snd.ss).q.length → qF (Md.mk false (mdF c k a b (Md.mk false q ps ss)).snd.q (mdF c k a b (Md.mk false q ps ss)).snd.ps (mdF c k a b (Md.mk false q ps ss)).snd.ss).q i = qF
    (Md.mk false q ps ss).q i) ∧ True) ∧ ((!(look (Md.mk false q ps ss).ps k).isSome) = false → (mdF c k a b (Md.mk false q ps ss)).snd.nilq = false ∧ ∃ (z' : Nat), (mdF c k a b (Md.mk
    false q ps ss)).fst.fst = (0 : Int) ∧ (mdF c k a b (Md.mk false q ps ss)).fst.snd = lookI (Md.mk false q ps ss).ps k ∧ (((0 : Nat) = (0 : Nat) ∧ (Md.mk false (mdF c k a b (Md.mk
    false q ps ss)).snd.q (mdF c k a b (Md.mk false q ps ss)).snd.ps (mdF c k a b (Md.mk false q ps ss)).snd.ss).q.length = (Md.mk false q ps ss).q.length ∧ z' = z) ∧ True ∧ True ∧
    True) ∧ (Md.mk false (mdF c k a b (Md.mk false q ps ss)).snd.q (mdF c k a b (Md.mk false q ps ss)).snd.ps (mdF c k a b (Md.mk false q ps ss)).snd.ss).ps = updL (Md.mk false q ps
    ss).ps k (Value.int IntKind.i64 b) ∧ (Md.mk false (mdF c k a b (Md.mk false q ps ss)).snd.q (mdF c k a b (Md.mk false q ps ss)).snd.ps (mdF c k a b (Md.mk false q ps ss)).snd.ss).ss
    = (Md.mk false q ps ss).ss ∧ ((Md.mk false (mdF c k a b (Md.mk false q ps ss)).snd.q (mdF c k a b (Md.mk false q ps ss)).snd.ps (mdF c k a b (Md.mk false q ps ss)).snd.ss).q.length
    = (Md.mk false q ps ss).q.length ∧ z' = z ∧ ∀ (i : Nat), i < (Md.mk false (mdF c k a b (Md.mk false q ps ss)).snd.q (mdF c k a b (Md.mk false q ps ss)).snd.ps (mdF c k a b (Md.mk
    false q ps ss)).snd.ss).q.length → qF (Md.mk false (mdF c k a b (Md.mk false q ps ss)).snd.q (mdF c k a b (Md.mk false q ps ss)).snd.ps (mdF c k a b (Md.mk false q ps ss)).snd.ss).q
    i = qF (Md.mk false q ps ss).q i) ∧ True)) ∧ True) ∧ ((look (Md.mk false q ps ss).ps k).isSome = false → ((!(look (Md.mk false q ps ss).ps k).isSome) = true → (mdF c k a b (Md.mk
    false q ps ss)).snd.nilq = false ∧ ∃ (z' : Nat), (mdF c k a b (Md.mk false q ps ss)).fst.fst = (1 : Int) ∧ (mdF c k a b (Md.mk false q ps ss)).fst.snd = (0 : Int) ∧ (((0 : Nat) = (0
    : Nat) ∧ (Md.mk false (mdF c k a b (Md.mk false q ps ss)).snd.q (mdF c k a b (Md.mk false q ps ss)).snd.ps (mdF c k a b (Md.mk false q ps ss)).snd.ss).q.length = (Md.mk false q ps
    ss).q.length ∧ z' = z) ∧ True ∧ True ∧ True) ∧ (Md.mk false (mdF c k a b (Md.mk false q ps ss)).snd.q (mdF c k a b (Md.mk false q ps ss)).snd.ps (mdF c k a b (Md.mk false q ps
    ss)).snd.ss).ps = (Md.mk false q ps ss).ps ∧ (Md.mk false (mdF c k a b (Md.mk false q ps ss)).snd.q (mdF c k a b (Md.mk false q ps ss)).snd.ps (mdF c k a b (Md.mk false q ps
    ss)).snd.ss).ss = (Md.mk false q ps ss).ss ∧ ((Md.mk false (mdF c k a b (Md.mk false q ps ss)).snd.q (mdF c k a b (Md.mk false q ps ss)).snd.ps (mdF c k a b (Md.mk false q ps
    ss)).snd.ss).q.length = (Md.mk false q ps ss).q.length ∧ z' = z ∧ ∀ (i : Nat), i < (Md.mk false (mdF c k a b (Md.mk false q ps ss)).snd.q (mdF c k a b (Md.mk false q ps ss)).snd.ps
    (mdF c k a b (Md.mk false q ps ss)).snd.ss).q.length → qF (Md.mk false (mdF c k a b (Md.mk false q ps ss)).snd.q (mdF c k a b (Md.mk false q ps ss)).snd.ps (mdF c k a b (Md.mk false
    q ps ss)).snd.ss).q i = qF (Md.mk false q ps ss).q i) ∧ True) ∧ ((!(look (Md.mk false q ps ss).ps k).isSome) = false → (mdF c k a b (Md.mk false q ps ss)).snd.nilq = false ∧ ∃ (z' :
    Nat), (mdF c k a b (Md.mk false q ps ss)).fst.fst = (0 : Int) ∧ (mdF c k a b (Md.mk false q ps ss)).fst.snd = lookI (Md.mk false q ps ss).ps k ∧ (((0 : Nat) = (0 : Nat) ∧ (Md.mk
    false (mdF c k a b (Md.mk false q ps ss)).snd.q (mdF c k a b (Md.mk false q ps ss)).snd.ps (mdF c k a b (Md.mk false q ps ss)).snd.ss).q.length = (Md.mk false q ps ss).q.length ∧ z'
    = z) ∧ True ∧ True ∧ True) ∧ (Md.mk false (mdF c k a b (Md.mk false q ps ss)).snd.q (mdF c k a b (Md.mk false q ps ss)).snd.ps (mdF c k a b (Md.mk false q ps ss)).snd.ss).ps =
    (Md.mk false q ps ss).ps ∧ (Md.mk false (mdF c k a b (Md.mk false q ps ss)).snd.q (mdF c k a b (Md.mk false q ps ss)).snd.ps (mdF c k a b (Md.mk false q ps ss)).snd.ss).ss = (Md.mk
    false q ps ss).ss ∧ ((Md.mk false (mdF c k a b (Md.mk false q ps ss)).snd.q (mdF c k a b (Md.mk false q ps ss)).snd.ps (mdF c k a b (Md.mk false q ps ss)).snd.ss).q.length = (Md.mk
    false q ps ss).q.length ∧ z' = z ∧ ∀ (i : Nat), i < (Md.mk false (mdF c k a b (Md.mk false q ps ss)).snd.q (mdF c k a b (Md.mk false q ps ss)).snd.ps (mdF c k a b (Md.mk false q ps
    ss)).snd.ss).q.length → qF (Md.mk false (mdF c k a b (Md.mk false q ps ss)).snd.q (mdF c k a b (Md.mk false q ps ss)).snd.ps (mdF c k a b (Md.mk false q ps ss)).snd.ss).q i = qF
    (Md.mk false q ps ss).q i) ∧ True)))) ∧ ((c == (7 : Int)) = false → ((c == (8 : Int)) = true → (mdF c k a b (Md.mk false q ps ss)).snd.nilq = false ∧ ∃ (z' : Nat), (mdF c k a b
    (Md.mk false q ps ss)).fst.fst = (0 : Int) ∧ (mdF c k a b (Md.mk false q ps ss)).fst.snd = (↑(Md.mk false q ps ss).ps.length : Int) ∧ (((0 : Nat) = (0 : Nat) ∧ (Md.mk false (mdF c k
    a b (Md.mk false q ps ss)).snd.q (mdF c k a b (Md.mk false q ps ss)).snd.ps (mdF c k a b (Md.mk false q ps ss)).snd.ss).q.length = (Md.mk false q ps ss).q.length ∧ z' = z) ∧ True ∧
    True ∧ True) ∧ (Md.mk false (mdF c k a b (Md.mk false q ps ss)).snd.q (mdF c k a b (Md.mk false q ps ss)).snd.ps (mdF c k a b (Md.mk false q ps ss)).snd.ss).ps = (Md.mk false q ps
    ss).ps ∧ (Md.mk false (mdF c k a b (Md.mk false q ps ss)).snd.q (mdF c k a b (Md.mk false q ps ss)).snd.ps (mdF c k a b (Md.mk false q ps ss)).snd.ss).ss = (Md.mk false q ps ss).ss
    ∧ ((Md.mk false (mdF c k a b (Md.mk false q ps ss)).snd.q (mdF c k a b (Md.mk false q ps ss)).snd.ps (mdF c k a b (Md.mk false q ps ss)).snd.ss).q.length = (Md.mk false q ps
    ss).q.length ∧ z' = z ∧ ∀ (i : Nat), i < (Md.mk false (mdF c k a b (Md.mk false q ps ss)).snd.q (mdF c k a b (Md.mk false q ps ss)).snd.ps (mdF c k a b (Md.mk false q ps
    ss)).snd.ss).q.length → qF (Md.mk false (mdF c k a b (Md.mk false q ps ss)).snd.q (mdF c k a b (Md.mk false q ps ss)).snd.ps (mdF c k a b (Md.mk false q ps ss)).snd.ss).q i = qF
    (Md.mk false q ps ss).q i) ∧ True) ∧ ((c == (8 : Int)) = false → ((c == (9 : Int)) = true → (OfNat.ofNat (145 : Nat) = OfNat.ofNat (145 : Nat) ∧ MapOk (Md.mk false q ps ss).ps ∧ (0
    : Int) ≤ k ∧ k ≤ (255 : Int)) ∧ (mdF c k a b (Md.mk false q ps ss)).snd.nilq = false ∧ ∃ (z' : Nat), (mdF c k a b (Md.mk false q ps ss)).fst.fst = (floorI (Md.mk false q ps ss).ps
    k).fst ∧ (mdF c k a b (Md.mk false q ps ss)).fst.snd = (floorI (Md.mk false q ps ss).ps k).snd ∧ (((0 : Nat) = (0 : Nat) ∧ (Md.mk false (mdF c k a b (Md.mk false q ps ss)).snd.q
    (mdF c k a b (Md.mk false q ps ss)).snd.ps (mdF c k a b (Md.mk false q ps ss)).snd.ss).q.length = (Md.mk false q ps ss).q.length ∧ z' = z) ∧ True ∧ True ∧ True) ∧ (Md.mk false (mdF
    c k a b (Md.mk false q ps ss)).snd.q (mdF c k a b (Md.mk false q ps ss)).snd.ps (mdF c k a b (Md.mk false q ps ss)).snd.ss).ps = (Md.mk false q ps ss).ps ∧ (Md.mk false (mdF c k a b
    (Md.mk false q ps ss)).snd.q (mdF c k a b (Md.mk false q ps ss)).snd.ps (mdF c k a b (Md.mk false q ps ss)).snd.ss).ss = (Md.mk false q ps ss).ss ∧ ((Md.mk false (mdF c k a b (Md.mk
    false q ps ss)).snd.q (mdF c k a b (Md.mk false q ps ss)).snd.ps (mdF c k a b (Md.mk false q ps ss)).snd.ss).q.length = (Md.mk false q ps ss).q.length ∧ z' = z ∧ ∀ (i : Nat), i <
    (Md.mk false (mdF c k a b (Md.mk false q ps ss)).snd.q (mdF c k a b (Md.mk false q ps ss)).snd.ps (mdF c k a b (Md.mk false q ps ss)).snd.ss).q.length → qF (Md.mk false (mdF c k a b
    (Md.mk false q ps ss)).snd.q (mdF c k a b (Md.mk false q ps ss)).snd.ps (mdF c k a b (Md.mk false q ps ss)).snd.ss).q i = qF (Md.mk false q ps ss).q i) ∧ True) ∧ ((c == (9 : Int)) =
    false → ((!(look (Md.mk false q ps ss).ps k).isSome) = true → (mdF c k a b (Md.mk false q ps ss)).snd.nilq = false ∧ ∃ (z' : Nat), (mdF c k a b (Md.mk false q ps ss)).fst.fst = (1 :
    Int) ∧ (mdF c k a b (Md.mk false q ps ss)).fst.snd = (0 : Int) ∧ (((0 : Nat) = (0 : Nat) ∧ (Md.mk false (mdF c k a b (Md.mk false q ps ss)).snd.q (mdF c k a b (Md.mk false q ps
    ss)).snd.ps (mdF c k a b (Md.mk false q ps ss)).snd.ss).q.length = (Md.mk false q ps ss).q.length ∧ z' = z) ∧ True ∧ True ∧ True) ∧ (Md.mk false (mdF c k a b (Md.mk false q ps
    ss)).snd.q (mdF c k a b (Md.mk false q ps ss)).snd.ps (mdF c k a b (Md.mk false q ps ss)).snd.ss).ps = (Md.mk false q ps ss).ps ∧ (Md.mk false (mdF c k a b (Md.mk false q ps
    ss)).snd.q (mdF c k a b (Md.mk false q ps ss)).snd.ps (mdF c k a b (Md.mk false q ps ss)).snd.ss).ss = (Md.mk false q ps ss).ss ∧ ((Md.mk false (mdF c k a b (Md.mk false q ps
    ss)).snd.q (mdF c k a b (Md.mk false q ps ss)).snd.ps (mdF c k a b (Md.mk false q ps ss)).snd.ss).q.length = (Md.mk false q ps ss).q.length ∧ z' = z ∧ ∀ (i : Nat), i < (Md.mk false
    (mdF c k a b (Md.mk false q ps ss)).snd.q (mdF c k a b (Md.mk false q ps ss)).snd.ps (mdF c k a b (Md.mk false q ps ss)).snd.ss).q.length → qF (Md.mk false (mdF c k a b (Md.mk false
    q ps ss)).snd.q (mdF c k a b (Md.mk false q ps ss)).snd.ps (mdF c k a b (Md.mk false q ps ss)).snd.ss).q i = qF (Md.mk false q ps ss).q i) ∧ True) ∧ ((!(look (Md.mk false q ps
    ss).ps k).isSome) = false → (mdF c k a b (Md.mk false q ps ss)).snd.nilq = false ∧ ∃ (z' : Nat), (mdF c k a b (Md.mk false q ps ss)).fst.fst = (0 : Int) ∧ (mdF c k a b (Md.mk false
    q ps ss)).fst.snd = lookI (Md.mk false q ps ss).ps k ∧ (((0 : Nat) = (0 : Nat) ∧ (Md.mk false (mdF c k a b (Md.mk false q ps ss)).snd.q (mdF c k a b (Md.mk false q ps ss)).snd.ps
    (mdF c k a b (Md.mk false q ps ss)).snd.ss).q.length = (Md.mk false q ps ss).q.length ∧ z' = z) ∧ True ∧ True ∧ True) ∧ (Md.mk false (mdF c k a b (Md.mk false q ps ss)).snd.q (mdF c
    k a b (Md.mk false q ps ss)).snd.ps (mdF c k a b (Md.mk false q ps ss)).snd.ss).ps = (Md.mk false q ps ss).ps ∧ (Md.mk false (mdF c k a b (Md.mk false q ps ss)).snd.q (mdF c k a b
    (Md.mk false q ps ss)).snd.ps (mdF c k a b (Md.mk false q ps ss)).snd.ss).ss = (Md.mk false q ps ss).ss ∧ ((Md.mk false (mdF c k a b (Md.mk false q ps ss)).snd.q (mdF c k a b (Md.mk
    false q ps ss)).snd.ps (mdF c k a b (Md.mk false q ps ss)).snd.ss).q.length = (Md.mk false q ps ss).q.length ∧ z' = z ∧ ∀ (i : Nat), i < (Md.mk false (mdF c k a b (Md.mk false q ps
    ss)).snd.q (mdF c k a b (Md.mk false q ps ss)).snd.ps (mdF c k a b (Md.mk false q ps ss)).snd.ss).q.length → qF (Md.mk false (mdF c k a b (Md.mk false q ps ss)).snd.q (mdF c k a b
    (Md.mk false q ps ss)).snd.ps (mdF c k a b (Md.mk false q ps ss)).snd.ss).q i = qF (Md.mk false q ps ss).q i) ∧ True))))))) ∧ True) ∧ (decide (c ≤ (9 : Int)) = false → ((∀ (y : Int
    × Value), List.Mem y (Md.mk false q ps ss).ss → ∃ (n : Int), y.snd = Value.int IntKind.i64 n) ∧ ((c == (10 : Int)) = true → (((!(look (Md.mk false q ps ss).ss k).isSome) = true →
    (mdF c k a b (Md.mk false q ps ss)).snd.nilq = false ∧ ∃ (z' : Nat), (mdF c k a b (Md.mk false q ps ss)).fst.fst = (1 : Int) ∧ (mdF c k a b (Md.mk false q ps ss)).fst.snd = (0 :
    Int) ∧ (((0 : Nat) = (0 : Nat) ∧ (Md.mk false (mdF c k a b (Md.mk false q ps ss)).snd.q (mdF c k a b (Md.mk false q ps ss)).snd.ps (mdF c k a b (Md.mk false q ps
    ss)).snd.ss).q.length = (Md.mk false q ps ss).q.length ∧ z' = z) ∧ True ∧ True ∧ True) ∧ (Md.mk false (mdF c k a b (Md.mk false q ps ss)).snd.q (mdF c k a b (Md.mk false q ps
    ss)).snd.ps (mdF c k a b (Md.mk false q ps ss)).snd.ss).ps = (Md.mk false q ps ss).ps ∧ (Md.mk false (mdF c k a b (Md.mk false q ps ss)).snd.q (mdF c k a b (Md.mk false q ps
    ss)).snd.ps (mdF c k a b (Md.mk false q ps ss)).snd.ss).ss = updL (Md.mk false q ps ss).ss k (Value.int IntKind.i64 a) ∧ ((Md.mk false (mdF c k a b (Md.mk false q ps ss)).snd.q (mdF
    c k a b (Md.mk false q ps ss)).snd.ps (mdF c k a b (Md.mk false q ps ss)).snd.ss).q.length = (Md.mk false q ps ss).q.length ∧ z' = z ∧ ∀ (i : Nat), i < (Md.mk false (mdF c k a b
    (Md.mk false q ps ss)).snd.q (mdF c k a b (Md.mk false q ps ss)).snd.ps (mdF c k a b (Md.mk false q ps ss)).snd.ss).q.length → qF (Md.mk false (mdF c k a b (Md.mk false q ps
    ss)).snd.q (mdF c k a b (Md.mk false q ps ss)).snd.ps (mdF c k a b (Md.mk false q ps ss)).snd.ss).q i = qF (Md.mk false q ps ss).q i) ∧ True) ∧ ((!(look (Md.mk false q ps ss).ss
    k).isSome) = false → (mdF c k a b (Md.mk false q ps ss)).snd.nilq = false ∧ ∃ (z' : Nat), (mdF c k a b (Md.mk false q ps ss)).fst.fst = (0 : Int) ∧ (mdF c k a b (Md.mk false q ps
    ss)).fst.snd = lookI (Md.mk false q ps ss).ss k ∧ (((0 : Nat) = (0 : Nat) ∧ (Md.mk false (mdF c k a b (Md.mk false q ps ss)).snd.q (mdF c k a b (Md.mk false q ps ss)).snd.ps (mdF c
    k a b (Md.mk false q ps ss)).snd.ss).q.length = (Md.mk false q ps ss).q.length ∧ z' = z) ∧ True ∧ True ∧ True) ∧ (Md.mk false (mdF c k a b (Md.mk false q ps ss)).snd.q (mdF c k a b
    (Md.mk false q ps ss)).snd.ps (mdF c k a b (Md.mk false q ps ss)).snd.ss).ps = (Md.mk false q ps ss).ps ∧ (Md.mk false (mdF c k a b (Md.mk false q ps ss)).snd.q (mdF c k a b (Md.mk
    false q ps ss)).snd.ps (mdF c k a b (Md.mk false q ps ss)).snd.ss).ss = updL (Md.mk false q ps ss).ss k (Value.int IntKind.i64 a) ∧ ((Md.mk false (mdF c k a b (Md.mk false q ps
    ss)).snd.q (mdF c k a b (Md.mk false q ps ss)).snd.ps (mdF c k a b (Md.mk false q ps ss)).snd.ss).q.length = (Md.mk false q ps ss).q.length ∧ z' = z ∧ ∀ (i : Nat), i < (Md.mk false
    (mdF c k a b (Md.mk false q ps ss)).snd.q (mdF c k a b (Md.mk false q ps ss)).snd.ps (mdF c k a b (Md.mk false q ps ss)).snd.ss).q.length → qF (Md.mk false (mdF c k a b (Md.mk false
    q ps ss)).snd.q (mdF c k a b (Md.mk false q ps ss)).snd.ps (mdF c k a b (Md.mk false q ps ss)).snd.ss).q i = qF (Md.mk false q ps ss).q i) ∧ True)) ∧ True) ∧ ((c == (10 : Int)) =
    false → ((c == (14 : Int)) = true → (((!(look (Md.mk false q ps ss).ss k).isSome) = true → (mdF c k a b (Md.mk false q ps ss)).snd.nilq = false ∧ ∃ (z' : Nat), (mdF c k a b (Md.mk
    false q ps ss)).fst.fst = (1 : Int) ∧ (mdF c k a b (Md.mk false q ps ss)).fst.snd = (0 : Int) ∧ (((0 : Nat) = (0 : Nat) ∧ (Md.mk false (mdF c k a b (Md.mk false q ps ss)).snd.q (mdF
    c k a b (Md.mk false q ps ss)).snd.ps (mdF c k a b (Md.mk false q ps ss)).snd.ss).q.length = (Md.mk false q ps ss).q.length ∧ z' = z) ∧ True ∧ True ∧ True) ∧ (Md.mk false (mdF c k a
    b (Md.mk false q ps ss)).snd.q (mdF c k a b (Md.mk false q ps ss)).snd.ps (mdF c k a b (Md.mk false q ps ss)).snd.ss).ps = (Md.mk false q ps ss).ps ∧ (Md.mk false (mdF c k a b
    (Md.mk false q ps ss)).snd.q (mdF c k a b (Md.mk false q ps ss)).snd.ps (mdF c k a b (Md.mk false q ps ss)).snd.ss).ss = delL (Md.mk false q ps ss).ss k ∧ ((Md.mk false (mdF c k a b
    (Md.mk false q ps ss)).snd.q (mdF c k a b (Md.mk false q ps ss)).snd.ps (mdF c k a b (Md.mk false q ps ss)).snd.ss).q.length = (Md.mk false q ps ss).q.length ∧ z' = z ∧ ∀ (i : Nat),
    i < (Md.mk false (mdF c k a b (Md.mk false q ps ss)).snd.q (mdF c k a b (Md.mk false q ps ss)).snd.ps (mdF c k a b (Md.mk false q ps ss)).snd.ss).q.length → qF (Md.mk false (mdF c k
    a b (Md.mk false q ps ss)).snd.q (mdF c k a b (Md.mk false q ps ss)).snd.ps (mdF c k a b (Md.mk false q ps ss)).snd.ss).q i = qF (Md.mk false q ps ss).q i) ∧ True) ∧ ((!(look (Md.mk
    false q ps ss).ss k).isSome) = false → (mdF c k a b (Md.mk false q ps ss)).snd.nilq = false ∧ ∃ (z' : Nat), (mdF c k a b (Md.mk false q ps ss)).fst.fst = (0 : Int) ∧ (mdF c k a b
    (Md.mk false q ps ss)).fst.snd = lookI (Md.mk false q ps ss).ss k ∧ (((0 : Nat) = (0 : Nat) ∧ (Md.mk false (mdF c k a b (Md.mk false q ps ss)).snd.q (mdF c k a b (Md.mk false q ps
    ss)).snd.ps (mdF c k a b (Md.mk false q ps ss)).snd.ss).q.length = (Md.mk false q ps ss).q.length ∧ z' = z) ∧ True ∧ True ∧ True) ∧ (Md.mk false (mdF c k a b (Md.mk false q ps
    ss)).snd.q (mdF c k a b (Md.mk false q ps ss)).snd.ps (mdF c k a b (Md.mk false q ps ss)).snd.ss).ps = (Md.mk false q ps ss).ps ∧ (Md.mk false (mdF c k a b (Md.mk false q ps
    ss)).snd.q (mdF c k a b (Md.mk false q ps ss)).snd.ps (mdF c k a b (Md.mk false q ps ss)).snd.ss).ss = delL (Md.mk false q ps ss).ss k ∧ ((Md.mk false (mdF c k a b (Md.mk false q ps
    ss)).snd.q (mdF c k a b (Md.mk false q ps ss)).snd.ps (mdF c k a b (Md.mk false q ps ss)).snd.ss).q.length = (Md.mk false q ps ss).q.length ∧ z' = z ∧ ∀ (i : Nat), i < (Md.mk false
    (mdF c k a b (Md.mk false q ps ss)).snd.q (mdF c k a b (Md.mk false q ps ss)).snd.ps (mdF c k a b (Md.mk false q ps ss)).snd.ss).q.length → qF (Md.mk false (mdF c k a b (Md.mk false
    q ps ss)).snd.q (mdF c k a b (Md.mk false q ps ss)).snd.ps (mdF c k a b (Md.mk false q ps ss)).snd.ss).q i = qF (Md.mk false q ps ss).q i) ∧ True)) ∧ True) ∧ ((c == (14 : Int)) =
    false → ((c == (11 : Int)) = true → ((look (Md.mk false q ps ss).ss k).isSome = true → ((lookI (Md.mk false q ps ss).ss k == (0 : Int)) = true → (mdF c k a b (Md.mk false q ps
    ss)).snd.nilq = false ∧ ∃ (z' : Nat), (mdF c k a b (Md.mk false q ps ss)).fst.fst = (3 : Int) ∧ (mdF c k a b (Md.mk false q ps ss)).fst.snd = (0 : Int) ∧ (((0 : Nat) = (0 : Nat) ∧
    (Md.mk false (mdF c k a b (Md.mk false q ps ss)).snd.q (mdF c k a b (Md.mk false q ps ss)).snd.ps (mdF c k a b (Md.mk false q ps ss)).snd.ss).q.length = (Md.mk false q ps
    ss).q.length ∧ z' = z) ∧ True ∧ True ∧ True) ∧ (Md.mk false (mdF c k a b (Md.mk false q ps ss)).snd.q (mdF c k a b (Md.mk false q ps ss)).snd.ps (mdF c k a b (Md.mk false q ps
    ss)).snd.ss).ps = (Md.mk false q ps ss).ps ∧ (Md.mk false (mdF c k a b (Md.mk false q ps ss)).snd.q (mdF c k a b (Md.mk false q ps ss)).snd.ps (mdF c k a b (Md.mk false q ps
    ss)).snd.ss).ss = (Md.mk false q ps ss).ss ∧ ((Md.mk false (mdF c k a b (Md.mk false q ps ss)).snd.q (mdF c k a b (Md.mk false q ps ss)).snd.ps (mdF c k a b (Md.mk false q ps
    ss)).snd.ss).q.length = (Md.mk false q ps ss).q.length ∧ z' = z ∧ ∀ (i : Nat), i < (Md.mk false (mdF c k a b (Md.mk false q ps ss)).snd.q (mdF c k a b (Md.mk false q ps ss)).snd.ps
    (mdF c k a b (Md.mk false q ps ss)).snd.ss).q.length → qF (Md.mk false (mdF c k a b (Md.mk false q ps ss)).snd.q (mdF c k a b (Md.mk false q ps ss)).snd.ps (mdF c k a b (Md.mk false
    q ps ss)).snd.ss).q i = qF (Md.mk false q ps ss).q i) ∧ True) ∧ ((lookI (Md.mk false q ps ss).ss k == (0 : Int)) = false → ((-9223372036854775808 : Int) ≤ lookI (Md.mk false q ps
    ss).ss k + (-1 : Int) ∧ lookI (Md.mk false q ps ss).ss k + (-1 : Int) ≤ (9223372036854775807 : Int)) ∧ ((-9223372036854775808 : Int) ≤ lookI (Md.mk false q ps ss).ss k + (-1 : Int)
    ∧ lookI (Md.mk false q ps ss).ss k + (-1 : Int) ≤ (9223372036854775807 : Int)) ∧ (mdF c k a b (Md.mk false q ps ss)).snd.nilq = false ∧ ∃ (z' : Nat), (mdF c k a b (Md.mk false q ps
    ss)).fst.fst = (0 : Int) ∧ (mdF c k a b (Md.mk false q ps ss)).fst.snd = lookI (Md.mk false q ps ss).ss k + (-1 : Int) ∧ (((0 : Nat) = (0 : Nat) ∧ (Md.mk false (mdF c k a b (Md.mk
    false q ps ss)).snd.q (mdF c k a b (Md.mk false q ps ss)).snd.ps (mdF c k a b (Md.mk false q ps ss)).snd.ss).q.length = (Md.mk false q ps ss).q.length ∧ z' = z) ∧ True ∧ True ∧
    True) ∧ (Md.mk false (mdF c k a b (Md.mk false q ps ss)).snd.q (mdF c k a b (Md.mk false q ps ss)).snd.ps (mdF c k a b (Md.mk false q ps ss)).snd.ss).ps = (Md.mk false q ps ss).ps ∧
    (Md.mk false (mdF c k a b (Md.mk false q ps ss)).snd.q (mdF c k a b (Md.mk false q ps ss)).snd.ps (mdF c k a b (Md.mk false q ps ss)).snd.ss).ss = updL (Md.mk false q ps ss).ss k
    (Value.int IntKind.i64 (lookI (Md.mk false q ps ss).ss k + Int.negSucc (0 : Nat))) ∧ ((Md.mk false (mdF c k a b (Md.mk false q ps ss)).snd.q (mdF c k a b (Md.mk false q ps
    ss)).snd.ps (mdF c k a b (Md.mk false q ps ss)).snd.ss).q.length = (Md.mk false q ps ss).q.length ∧ z' = z ∧ ∀ (i : Nat), i < (Md.mk false (mdF c k a b (Md.mk false q ps ss)).snd.q
    (mdF c k a b (Md.mk false q ps ss)).snd.ps (mdF c k a b (Md.mk false q ps ss)).snd.ss).q.length → qF (Md.mk false (mdF c k a b (Md.mk false q ps ss)).snd.q (mdF c k a b (Md.mk false
    q ps ss)).snd.ps (mdF c k a b (Md.mk false q ps ss)).snd.ss).q i = qF (Md.mk false q ps ss).q i) ∧ True)) ∧ ((look (Md.mk false q ps ss).ss k).isSome = false → ((c == (12 : Int)) =
    true → ((look (Md.mk false q ps ss).ss k).isSome = true → ((lookI (Md.mk false q ps ss).ss k == (1023 : Int)) = true → (mdF c k a b (Md.mk false q ps ss)).snd.nilq = false ∧ ∃ (z' :
    Nat), (mdF c k a b (Md.mk false q ps ss)).fst.fst = (2 : Int) ∧ (mdF c k a b (Md.mk false q ps ss)).fst.snd = (0 : Int) ∧ (((0 : Nat) = (0 : Nat) ∧ (Md.mk false (mdF c k a b (Md.mk
    false q ps ss)).snd.q (mdF c k a b (Md.mk false q ps ss)).snd.ps (mdF c k a b (Md.mk false q ps ss)).snd.ss).q.length = (Md.mk false q ps ss).q.length ∧ z' = z) ∧ True ∧ True ∧
    True) ∧ (Md.mk false (mdF c k a b (Md.mk false q ps ss)).snd.q (mdF c k a b (Md.mk false q ps ss)).snd.ps (mdF c k a b (Md.mk false q ps ss)).snd.ss).ps = (Md.mk false q ps ss).ps ∧
    (Md.mk false (mdF c k a b (Md.mk false q ps ss)).snd.q (mdF c k a b (Md.mk false q ps ss)).snd.ps (mdF c k a b (Md.mk false q ps ss)).snd.ss).ss = (Md.mk false q ps ss).ss ∧ ((Md.mk
    false (mdF c k a b (Md.mk false q ps ss)).snd.q (mdF c k a b (Md.mk false q ps ss)).snd.ps (mdF c k a b (Md.mk false q ps ss)).snd.ss).q.length = (Md.mk false q ps ss).q.length ∧ z'
    = z ∧ ∀ (i : Nat), i < (Md.mk false (mdF c k a b (Md.mk false q ps ss)).snd.q (mdF c k a b (Md.mk false q ps ss)).snd.ps (mdF c k a b (Md.mk false q ps ss)).snd.ss).q.length → qF
    (Md.mk false (mdF c k a b (Md.mk false q ps ss)).snd.q (mdF c k a b (Md.mk false q ps ss)).snd.ps (mdF c k a b (Md.mk false q ps ss)).snd.ss).q i = qF (Md.mk false q ps ss).q i) ∧
    True) ∧ ((lookI (Md.mk false q ps ss).ss k == (1023 : Int)) = false → ((-9223372036854775808 : Int) ≤ lookI (Md.mk false q ps ss).ss k + (1 : Int) ∧ lookI (Md.mk false q ps ss).ss k
    + (1 : Int) ≤ (9223372036854775807 : Int)) ∧ ((-9223372036854775808 : Int) ≤ lookI (Md.mk false q ps ss).ss k + (1 : Int) ∧ lookI (Md.mk false q ps ss).ss k + (1 : Int) ≤
    (9223372036854775807 : Int)) ∧ (mdF c k a b (Md.mk false q ps ss)).snd.nilq = false ∧ ∃ (z' : Nat), (mdF c k a b (Md.mk false q ps ss)).fst.fst = (0 : Int) ∧ (mdF c k a b (Md.mk
    false q ps ss)).fst.snd = lookI (Md.mk false q ps ss).ss k + (1 : Int) ∧ (((0 : Nat) = (0 : Nat) ∧ (Md.mk false (mdF c k a b (Md.mk false q ps ss)).snd.q (mdF c k a b (Md.mk false q
    ps ss)).snd.ps (mdF c k a b (Md.mk false q ps ss)).snd.ss).q.length = (Md.mk false q ps ss).q.length ∧ z' = z) ∧ True ∧ True ∧ True) ∧ (Md.mk false (mdF c k a b (Md.mk false q ps
    ss)).snd.q (mdF c k a b (Md.mk false q ps ss)).snd.ps (mdF c k a b (Md.mk false q ps ss)).snd.ss).ps = (Md.mk false q ps ss).ps ∧ (Md.mk false (mdF c k a b (Md.mk false q ps
    ss)).snd.q (mdF c k a b (Md.mk false q ps ss)).snd.ps (mdF c k a b (Md.mk false q ps ss)).snd.ss).ss = updL (Md.mk false q ps ss).ss k (Value.int IntKind.i64 (lookI (Md.mk false q
    ps ss).ss k + Int.ofNat ((0 : Nat) + (1 : Nat)))) ∧ ((Md.mk false (mdF c k a b (Md.mk false q ps ss)).snd.q (mdF c k a b (Md.mk false q ps ss)).snd.ps (mdF c k a b (Md.mk false q ps
    ss)).snd.ss).q.length = (Md.mk false q ps ss).q.length ∧ z' = z ∧ ∀ (i : Nat), i < (Md.mk false (mdF c k a b (Md.mk false q ps ss)).snd.q (mdF c k a b (Md.mk false q ps ss)).snd.ps
    (mdF c k a b (Md.mk false q ps ss)).snd.ss).q.length → qF (Md.mk false (mdF c k a b (Md.mk false q ps ss)).snd.q (mdF c k a b (Md.mk false q ps ss)).snd.ps (mdF c k a b (Md.mk false
    q ps ss)).snd.ss).q i = qF (Md.mk false q ps ss).q i) ∧ True)) ∧ ((look (Md.mk false q ps ss).ss k).isSome = false → ((!(look (Md.mk false q ps ss).ss k).isSome) = true → (mdF c k a
    b (Md.mk false q ps ss)).snd.nilq = false ∧ ∃ (z' : Nat), (mdF c k a b (Md.mk false q ps ss)).fst.fst = (1 : Int) ∧ (mdF c k a b (Md.mk false q ps ss)).fst.snd = (0 : Int) ∧ (((0 :
    Nat) = (0 : Nat) ∧ (Md.mk false (mdF c k a b (Md.mk false q ps ss)).snd.q (mdF c k a b (Md.mk false q ps ss)).snd.ps (mdF c k a b (Md.mk false q ps ss)).snd.ss).q.length = (Md.mk
    false q ps ss).q.length ∧ z' = z) ∧ True ∧ True ∧ True) ∧ (Md.mk false (mdF c k a b (Md.mk false q ps ss)).snd.q (mdF c k a b (Md.mk false q ps ss)).snd.ps (mdF c k a b (Md.mk false
    q ps ss)).snd.ss).ps = (Md.mk false q ps ss).ps ∧ (Md.mk false (mdF c k a b (Md.mk false q ps ss)).snd.q (mdF c k a b (Md.mk false q ps ss)).snd.ps (mdF c k a b (Md.mk false q ps
    ss)).snd.ss).ss = (Md.mk false q ps ss).ss ∧ ((Md.mk false (mdF c k a b (Md.mk false q ps ss)).snd.q (mdF c k a b (Md.mk false q ps ss)).snd.ps (mdF c k a b (Md.mk false q ps
    ss)).snd.ss).q.length = (Md.mk false q ps ss).q.length ∧ z' = z ∧ ∀ (i : Nat), i < (Md.mk false (mdF c k a b (Md.mk false q ps ss)).snd.q (mdF c k a b (Md.mk false q ps ss)).snd.ps
    (mdF c k a b (Md.mk false q ps ss)).snd.ss).q.length → qF (Md.mk false (mdF c k a b (Md.mk false q ps ss)).snd.q (mdF c k a b (Md.mk false q ps ss)).snd.ps (mdF c k a b (Md.mk false
    q ps ss)).snd.ss).q i = qF (Md.mk false q ps ss).q i) ∧ True) ∧ ((!(look (Md.mk false q ps ss).ss k).isSome) = false → (mdF c k a b (Md.mk false q ps ss)).snd.nilq = false ∧ ∃ (z' :
    Nat), (mdF c k a b (Md.mk false q ps ss)).fst.fst = (0 : Int) ∧ (mdF c k a b (Md.mk false q ps ss)).fst.snd = lookI (Md.mk false q ps ss).ss k ∧ (((0 : Nat) = (0 : Nat) ∧ (Md.mk
    false (mdF c k a b (Md.mk false q ps ss)).snd.q (mdF c k a b (Md.mk false q ps ss)).snd.ps (mdF c k a b (Md.mk false q ps ss)).snd.ss).q.length = (Md.mk false q ps ss).q.length ∧ z'
    = z) ∧ True ∧ True ∧ True) ∧ (Md.mk false (mdF c k a b (Md.mk false q ps ss)).snd.q (mdF c k a b (Md.mk false q ps ss)).snd.ps (mdF c k a b (Md.mk false q ps ss)).snd.ss).ps =
    (Md.mk false q ps ss).ps ∧ (Md.mk false (mdF c k a b (Md.mk false q ps ss)).snd.q (mdF c k a b (Md.mk false q ps ss)).snd.ps (mdF c k a b (Md.mk false q ps ss)).snd.ss).ss = (Md.mk
    false q ps ss).ss ∧ ((Md.mk false (mdF c k a b (Md.mk false q ps ss)).snd.q (mdF c k a b (Md.mk false q ps ss)).snd.ps (mdF c k a b (Md.mk false q ps ss)).snd.ss).q.length = (Md.mk
    false q ps ss).q.length ∧ z' = z ∧ ∀ (i : Nat), i < (Md.mk false (mdF c k a b (Md.mk false q ps ss)).snd.q (mdF c k a b (Md.mk false q ps ss)).snd.ps (mdF c k a b (Md.mk false q ps
    ss)).snd.ss).q.length → qF (Md.mk false (mdF c k a b (Md.mk false q ps ss)).snd.q (mdF c k a b (Md.mk false q ps ss)).snd.ps (mdF c k a b (Md.mk false q ps ss)).snd.ss).q i = qF
    (Md.mk false q ps ss).q i) ∧ True))) ∧ ((c == (12 : Int)) = false → ((!(look (Md.mk false q ps ss).ss k).isSome) = true → (mdF c k a b (Md.mk false q ps ss)).snd.nilq = false ∧ ∃
    (z' : Nat), (mdF c k a b (Md.mk false q ps ss)).fst.fst = (1 : Int) ∧ (mdF c k a b (Md.mk false q ps ss)).fst.snd = (0 : Int) ∧ (((0 : Nat) = (0 : Nat) ∧ (Md.mk false (mdF c k a b
    (Md.mk false q ps ss)).snd.q (mdF c k a b (Md.mk false q ps ss)).snd.ps (mdF c k a b (Md.mk false q ps ss)).snd.ss).q.length = (Md.mk false q ps ss).q.length ∧ z' = z) ∧ True ∧ True
    ∧ True) ∧ (Md.mk false (mdF c k a b (Md.mk false q ps ss)).snd.q (mdF c k a b (Md.mk false q ps ss)).snd.ps (mdF c k a b (Md.mk false q ps ss)).snd.ss).ps = (Md.mk false q ps ss).ps
    ∧ (Md.mk false (mdF c k a b (Md.mk false q ps ss)).snd.q (mdF c k a b (Md.mk false q ps ss)).snd.ps (mdF c k a b (Md.mk false q ps ss)).snd.ss).ss = (Md.mk false q ps ss).ss ∧
    ((Md.mk false (mdF c k a b (Md.mk false q ps ss)).snd.q (mdF c k a b (Md.mk false q ps ss)).snd.ps (mdF c k a b (Md.mk false q ps ss)).snd.ss).q.length = (Md.mk false q ps
    ss).q.length ∧ z' = z ∧ ∀ (i : Nat), i < (Md.mk false (mdF c k a b (Md.mk false q ps ss)).snd.q (mdF c k a b (Md.mk false q ps ss)).snd.ps (mdF c k a b (Md.mk false q ps
    ss)).snd.ss).q.length → qF (Md.mk false (mdF c k a b (Md.mk false q ps ss)).snd.q (mdF c k a b (Md.mk false q ps ss)).snd.ps (mdF c k a b (Md.mk false q ps ss)).snd.ss).q i = qF
    (Md.mk false q ps ss).q i) ∧ True) ∧ ((!(look (Md.mk false q ps ss).ss k).isSome) = false → (mdF c k a b (Md.mk false q ps ss)).snd.nilq = false ∧ ∃ (z' : Nat), (mdF c k a b (Md.mk
    false q ps ss)).fst.fst = (0 : Int) ∧ (mdF c k a b (Md.mk false q ps ss)).fst.snd = lookI (Md.mk false q ps ss).ss k ∧ (((0 : Nat) = (0 : Nat) ∧ (Md.mk false (mdF c k a b (Md.mk
    false q ps ss)).snd.q (mdF c k a b (Md.mk false q ps ss)).snd.ps (mdF c k a b (Md.mk false q ps ss)).snd.ss).q.length = (Md.mk false q ps ss).q.length ∧ z' = z) ∧ True ∧ True ∧
    True) ∧ (Md.mk false (mdF c k a b (Md.mk false q ps ss)).snd.q (mdF c k a b (Md.mk false q ps ss)).snd.ps (mdF c k a b (Md.mk false q ps ss)).snd.ss).ps = (Md.mk false q ps ss).ps ∧
    (Md.mk false (mdF c k a b (Md.mk false q ps ss)).snd.q (mdF c k a b (Md.mk false q ps ss)).snd.ps (mdF c k a b (Md.mk false q ps ss)).snd.ss).ss = (Md.mk false q ps ss).ss ∧ ((Md.mk
    false (mdF c k a b (Md.mk false q ps ss)).snd.q (mdF c k a b (Md.mk false q ps ss)).snd.ps (mdF c k a b (Md.mk false q ps ss)).snd.ss).q.length = (Md.mk false q ps ss).q.length ∧ z'
    = z ∧ ∀ (i : Nat), i < (Md.mk false (mdF c k a b (Md.mk false q ps ss)).snd.q (mdF c k a b (Md.mk false q ps ss)).snd.ps (mdF c k a b (Md.mk false q ps ss)).snd.ss).q.length → qF
    (Md.mk false (mdF c k a b (Md.mk false q ps ss)).snd.q (mdF c k a b (Md.mk false q ps ss)).snd.ps (mdF c k a b (Md.mk false q ps ss)).snd.ss).q i = qF (Md.mk false q ps ss).q i) ∧
    True)))) ∧ ((c == (11 : Int)) = false → ((c == (12 : Int)) = true → ((look (Md.mk false q ps ss).ss k).isSome = true → ((lookI (Md.mk false q ps ss).ss k == (1023 : Int)) = true →
    (mdF c k a b (Md.mk false q ps ss)).snd.nilq = false ∧ ∃ (z' : Nat), (mdF c k a b (Md.mk false q ps ss)).fst.fst = (2 : Int) ∧ (mdF c k a b (Md.mk false q ps ss)).fst.snd = (0 :
    Int) ∧ (((0 : Nat) = (0 : Nat) ∧ (Md.mk false (mdF c k a b (Md.mk false q ps ss)).snd.q (mdF c k a b (Md.mk false q ps ss)).snd.ps (mdF c k a b (Md.mk false q ps
    ss)).snd.ss).q.length = (Md.mk false q ps ss).q.length ∧ z' = z) ∧ True ∧ True ∧ True) ∧ (Md.mk false (mdF c k a b (Md.mk false q ps ss)).snd.q (mdF c k a b (Md.mk false q ps
    ss)).snd.ps (mdF c k a b (Md.mk false q ps ss)).snd.ss).ps = (Md.mk false q ps ss).ps ∧ (Md.mk false (mdF c k a b (Md.mk false q ps ss)).snd.q (mdF c k a b (Md.mk false q ps
    ss)).snd.ps (mdF c k a b (Md.mk false q ps ss)).snd.ss).ss = (Md.mk false q ps ss).ss ∧ ((Md.mk false (mdF c k a b (Md.mk false q ps ss)).snd.q (mdF c k a b (Md.mk false q ps
    ss)).snd.ps (mdF c k a b (Md.mk false q ps ss)).snd.ss).q.length = (Md.mk false q ps ss).q.length ∧ z' = z ∧ ∀ (i : Nat), i < (Md.mk false (mdF c k a b (Md.mk false q ps ss)).snd.q
    (mdF c k a b (Md.mk false q ps ss)).snd.ps (mdF c k a b (Md.mk false q ps ss)).snd.ss).q.length → qF (Md.mk false (mdF c k a b (Md.mk false q ps ss)).snd.q (mdF c k a b (Md.mk false
    q ps ss)).snd.ps (mdF c k a b (Md.mk false q ps ss)).snd.ss).q i = qF (Md.mk false q ps ss).q i) ∧ True) ∧ ((lookI (Md.mk false q ps ss).ss k == (1023 : Int)) = false →
    ((-9223372036854775808 : Int) ≤ lookI (Md.mk false q ps ss).ss k + (1 : Int) ∧ lookI (Md.mk false q ps ss).ss k + (1 : Int) ≤ (9223372036854775807 : Int)) ∧ ((-9223372036854775808 :
    Int) ≤ lookI (Md.mk false q ps ss).ss k + (1 : Int) ∧ lookI (Md.mk false q ps ss).ss k + (1 : Int) ≤ (9223372036854775807 : Int)) ∧ (mdF c k a b (Md.mk false q ps ss)).snd.nilq =
    false ∧ ∃ (z' : Nat), (mdF c k a b (Md.mk false q ps ss)).fst.fst = (0 : Int) ∧ (mdF c k a b (Md.mk false q ps ss)).fst.snd = lookI (Md.mk false q ps ss).ss k + (1 : Int) ∧ (((0 :
    Nat) = (0 : Nat) ∧ (Md.mk false (mdF c k a b (Md.mk false q ps ss)).snd.q (mdF c k a b (Md.mk false q ps ss)).snd.ps (mdF c k a b (Md.mk false q ps ss)).snd.ss).q.length = (Md.mk
    false q ps ss).q.length ∧ z' = z) ∧ True ∧ True ∧ True) ∧ (Md.mk false (mdF c k a b (Md.mk false q ps ss)).snd.q (mdF c k a b (Md.mk false q ps ss)).snd.ps (mdF c k a b (Md.mk false
    q ps ss)).snd.ss).ps = (Md.mk false q ps ss).ps ∧ (Md.mk false (mdF c k a b (Md.mk false q ps ss)).snd.q (mdF c k a b (Md.mk false q ps ss)).snd.ps (mdF c k a b (Md.mk false q ps
    ss)).snd.ss).ss = updL (Md.mk false q ps ss).ss k (Value.int IntKind.i64 (lookI (Md.mk false q ps ss).ss k + Int.ofNat ((0 : Nat) + (1 : Nat)))) ∧ ((Md.mk false (mdF c k a b (Md.mk
    false q ps ss)).snd.q (mdF c k a b (Md.mk false q ps ss)).snd.ps (mdF c k a b (Md.mk false q ps ss)).snd.ss).q.length = (Md.mk false q ps ss).q.length ∧ z' = z ∧ ∀ (i : Nat), i <
    (Md.mk false (mdF c k a b (Md.mk false q ps ss)).snd.q (mdF c k a b (Md.mk false q ps ss)).snd.ps (mdF c k a b (Md.mk false q ps ss)).snd.ss).q.length → qF (Md.mk false (mdF c k a b
    (Md.mk false q ps ss)).snd.q (mdF c k a b (Md.mk false q ps ss)).snd.ps (mdF c k a b (Md.mk false q ps ss)).snd.ss).q i = qF (Md.mk false q ps ss).q i) ∧ True)) ∧ ((look (Md.mk
    false q ps ss).ss k).isSome = false → ((!(look (Md.mk false q ps ss).ss k).isSome) = true → (mdF c k a b (Md.mk false q ps ss)).snd.nilq = false ∧ ∃ (z' : Nat), (mdF c k a b (Md.mk
    false q ps ss)).fst.fst = (1 : Int) ∧ (mdF c k a b (Md.mk false q ps ss)).fst.snd = (0 : Int) ∧ (((0 : Nat) = (0 : Nat) ∧ (Md.mk false (mdF c k a b (Md.mk false q ps ss)).snd.q (mdF
    c k a b (Md.mk false q ps ss)).snd.ps (mdF c k a b (Md.mk false q ps ss)).snd.ss).q.length = (Md.mk false q ps ss).q.length ∧ z' = z) ∧ True ∧ True ∧ True) ∧ (Md.mk false (mdF c k a
    b (Md.mk false q ps ss)).snd.q (mdF c k a b (Md.mk false q ps ss)).snd.ps (mdF c k a b (Md.mk false q ps ss)).snd.ss).ps = (Md.mk false q ps ss).ps ∧ (Md.mk false (mdF c k a b
    (Md.mk false q ps ss)).snd.q (mdF c k a b (Md.mk false q ps ss)).snd.ps (mdF c k a b (Md.mk false q ps ss)).snd.ss).ss = (Md.mk false q ps ss).ss ∧ ((Md.mk false (mdF c k a b (Md.mk
    false q ps ss)).snd.q (mdF c k a b (Md.mk false q ps ss)).snd.ps (mdF c k a b (Md.mk false q ps ss)).snd.ss).q.length = (Md.mk false q ps ss).q.length ∧ z' = z ∧ ∀ (i : Nat), i <
    (Md.mk false (mdF c k a b (Md.mk false q ps ss)).snd.q (mdF c k a b (Md.mk false q ps ss)).snd.ps (mdF c k a b (Md.mk false q ps ss)).snd.ss).q.length → qF (Md.mk false (mdF c k a b
    (Md.mk false q ps ss)).snd.q (mdF c k a b (Md.mk false q ps ss)).snd.ps (mdF c k a b (Md.mk false q ps ss)).snd.ss).q i = qF (Md.mk false q ps ss).q i) ∧ True) ∧ ((!(look (Md.mk
    false q ps ss).ss k).isSome) = false → (mdF c k a b (Md.mk false q ps ss)).snd.nilq = false ∧ ∃ (z' : Nat), (mdF c k a b (Md.mk false q ps ss)).fst.fst = (0 : Int) ∧ (mdF c k a b
    (Md.mk false q ps ss)).fst.snd = lookI (Md.mk false q ps ss).ss k ∧ (((0 : Nat) = (0 : Nat) ∧ (Md.mk false (mdF c k a b (Md.mk false q ps ss)).snd.q (mdF c k a b (Md.mk false q ps
    ss)).snd.ps (mdF c k a b (Md.mk false q ps ss)).snd.ss).q.length = (Md.mk false q ps ss).q.length ∧ z' = z) ∧ True ∧ True ∧ True) ∧ (Md.mk false (mdF c k a b (Md.mk false q ps
    ss)).snd.q (mdF c k a b (Md.mk false q ps ss)).snd.ps (mdF c k a b (Md.mk false q ps ss)).snd.ss).ps = (Md.mk false q ps ss).ps ∧ (Md.mk false (mdF c k a b (Md.mk false q ps
    ss)).snd.q (mdF c k a b (Md.mk false q ps ss)).snd.ps (mdF c k a b (Md.mk false q ps ss)).snd.ss).ss = (Md.mk false q ps ss).ss ∧ ((Md.mk false (mdF c k a b (Md.mk false q ps
    ss)).snd.q (mdF c k a b (Md.mk false q ps ss)).snd.ps (mdF c k a b (Md.mk false q ps ss)).snd.ss).q.length = (Md.mk false q ps ss).q.length ∧ z' = z ∧ ∀ (i : Nat), i < (Md.mk false
    (mdF c k a b (Md.mk false q ps ss)).snd.q (mdF c k a b (Md.mk false q ps ss)).snd.ps (mdF c k a b (Md.mk false q ps ss)).snd.ss).q.length → qF (Md.mk false (mdF c k a b (Md.mk false
    q ps ss)).snd.q (mdF c k a b (Md.mk false q ps ss)).snd.ps (mdF c k a b (Md.mk false q ps ss)).snd.ss).q i = qF (Md.mk false q ps ss).q i) ∧ True))) ∧ ((c == (12 : Int)) = false →
    ((!(look (Md.mk false q ps ss).ss k).isSome) = true → (mdF c k a b (Md.mk false q ps ss)).snd.nilq = false ∧ ∃ (z' : Nat), (mdF c k a b (Md.mk false q ps ss)).fst.fst = (1 : Int) ∧
    (mdF c k a b (Md.mk false q ps ss)).fst.snd = (0 : Int) ∧ (((0 : Nat) = (0 : Nat) ∧ (Md.mk false (mdF c k a b (Md.mk false q ps ss)).snd.q (mdF c k a b (Md.mk false q ps ss)).snd.ps
    (mdF c k a b (Md.mk false q ps ss)).snd.ss).q.length = (Md.mk false q ps ss).q.length ∧ z' = z) ∧ True ∧ True ∧ True) ∧ (Md.mk false (mdF c k a b (Md.mk false q ps ss)).snd.q (mdF c
    k a b (Md.mk false q ps ss)).snd.ps (mdF c k a b (Md.mk false q ps ss)).snd.ss).ps = (Md.mk false q ps ss).ps ∧ (Md.mk false (mdF c k a b (Md.mk false q ps ss)).snd.q (mdF c k a b
    (Md.mk false q ps ss)).snd.ps (mdF c k a b (Md.mk false q ps ss)).snd.ss).ss = (Md.mk false q ps ss).ss ∧ ((Md.mk false (mdF c k a b (Md.mk false q ps ss)).snd.q (mdF c k a b (Md.mk
    false q ps ss)).snd.ps (mdF c k a b (Md.mk false q ps ss)).snd.ss).q.length = (Md.mk false q ps ss).q.length ∧ z' = z ∧ ∀ (i : Nat), i < (Md.mk false (mdF c k a b (Md.mk false q ps
    ss)).snd.q (mdF c k a b (Md.mk false q ps ss)).snd.ps (mdF c k a b (Md.mk false q ps ss)).snd.ss).q.length → qF (Md.mk false (mdF c k a b (Md.mk false q ps ss)).snd.q (mdF c k a b
    (Md.mk false q ps ss)).snd.ps (mdF c k a b (Md.mk false q ps ss)).snd.ss).q i = qF (Md.mk false q ps ss).q i) ∧ True) ∧ ((!(look (Md.mk false q ps ss).ss k).isSome) = false → (mdF c
    k a b (Md.mk false q ps ss)).snd.nilq = false ∧ ∃ (z' : Nat), (mdF c k a b (Md.mk false q ps ss)).fst.fst = (0 : Int) ∧ (mdF c k a b (Md.mk false q ps ss)).fst.snd = lookI (Md.mk
    false q ps ss).ss k ∧ (((0 : Nat) = (0 : Nat) ∧ (Md.mk false (mdF c k a b (Md.mk false q ps ss)).snd.q (mdF c k a b (Md.mk false q ps ss)).snd.ps (mdF c k a b (Md.mk false q ps
    ss)).snd.ss).q.length = (Md.mk false q ps ss).q.length ∧ z' = z) ∧ True ∧ True ∧ True) ∧ (Md.mk false (mdF c k a b (Md.mk false q ps ss)).snd.q (mdF c k a b (Md.mk false q ps
    ss)).snd.ps (mdF c k a b (Md.mk false q ps ss)).snd.ss).ps = (Md.mk false q ps ss).ps ∧ (Md.mk false (mdF c k a b (Md.mk false q ps ss)).snd.q (mdF c k a b (Md.mk false q ps
    ss)).snd.ps (mdF c k a b (Md.mk false q ps ss)).snd.ss).ss = (Md.mk false q ps ss).ss ∧ ((Md.mk false (mdF c k a b (Md.mk false q ps ss)).snd.q (mdF c k a b (Md.mk false q ps
    ss)).snd.ps (mdF c k a b (Md.mk false q ps ss)).snd.ss).q.length = (Md.mk false q ps ss).q.length ∧ z' = z ∧ ∀ (i : Nat), i < (Md.mk false (mdF c k a b (Md.mk false q ps ss)).snd.q
    (mdF c k a b (Md.mk false q ps ss)).snd.ps (mdF c k a b (Md.mk false q ps ss)).snd.ss).q.length → qF (Md.mk false (mdF c k a b (Md.mk false q ps ss)).snd.q (mdF c k a b (Md.mk false
    q ps ss)).snd.ps (mdF c k a b (Md.mk false q ps ss)).snd.ss).q i = qF (Md.mk false q ps ss).q i) ∧ True)))))) ∧ True))))) ∧ True) := by
  kernel_rfl
theorem mdapply2_run (c k a b : Int) (q : List Int) (ps ss : List (Int × Value)) (z : Nat) (hc : MdOk (⟨false, q, ps, ss⟩ : Md)) : Run (callN Try.prog ([rightS, floorS] : List (Smry Try.prog XN)) (fun _ _ => false) 100 20 34 [.c (.ptr 0 0), .agg [.int false .i64 c, .int false .i64 k, .int false .i64 a, .int false .i64 b]] ⟨mdHeap (⟨false, q, ps, ss⟩ : Md) z, 100⟩ (.ghost 0 (leG 12) (bN 16)) (fun v m _ => mdPost (respV (mdF c k a b (⟨false, q, ps, ss⟩ : Md)).1) (mdF c k a b (⟨false, q, ps, ss⟩ : Md)).2 v m)) := by
  constructor
  rw [mdapply2_vc]
  have i1 := hc.ps.ints
  have i2 := hc.ss.ints
  have b1 := hc.ps
  have b2 := hc.ss
  have b3 := hc.ql
  have b4 : 0 ≤ lookI ss k ∧ lookI ss k ≤ 1023 := hc.ss.at k
  refine fun hz => ?_
  have hz : q.length ≤ z := hz
  have fk : RightO c k a b → floorI ps k = floorF ps k.toNat := fun h => by unfold floorI; rw [if_neg (by have := h.k0; omega)]
  repeat' first
    | with_reducible apply And.intro
    | with_reducible exact trivial
    | with_reducible exact Eq.refl _
    | (with_reducible refine fun (h : decide _ = true) => ?_; replace h := of_decide_eq_true h)
    | (with_reducible refine fun (h : decide _ = false) => ?_; replace h := of_decide_eq_false h)
    | (with_reducible refine fun (h : (!decide _) = true) => ?_; replace h := of_decide_eq_false (notT h))
    | (with_reducible refine fun (h : (!decide _) = false) => ?_; replace h := of_decide_eq_true (notF h))
    | (with_reducible refine fun (h : (_ == _) = true) => ?_; replace h := eq_of_beq h)
    | (with_reducible refine fun (h : (_ == _) = false) => ?_; replace h := beq_eq_false_iff_ne.1 h)
    | (rename_i cap hcap; with_reducible refine (Exists.intro cap ?_ : ∃ z' : Nat, _))
    | (with_reducible refine (Exists.intro z ?_ : ∃ z' : Nat, _))
    | exact i1
    | exact i2
    | intro _
  all_goals (try dsimp only at *)
  all_goals first
    | exact i1
    | exact i2
    | exact b1
    | omega
    | (exfalso; omega)
    | exact (‹RightO c k a b›).k0
    | exact (‹RightO c k a b›).k1
    | (have hr := ‹RightO c k a b›; rw [fk hr]; clear fk b4; simp_all [mdF, mdM]; done)
    | (rw [mdE1 ‹RightO c k a b› (by omega) (by omega)]; done)
    | (rw [mdE2 ‹RightO c k a b› (by omega) (by omega)]; first | rfl | done | (simp; done))
    | (rw [mdD ‹RightO c k a b› (by omega) (by omega) (by omega) (by omega) (by omega)]; first | rfl | done | (simp only [List.length_tail]; omega) | (rw [qF_tail]; first | rfl | (rw [addO_eq]; done)) | (simp; done))
    | (rename_i i hi; rw [mdE2 ‹RightO c k a b› (by omega) (by omega)] at hi ⊢; exact qF_app hi)
    | (rename_i i hi; rw [mdD ‹RightO c k a b› (by omega) (by omega) (by omega) (by omega) (by omega)]; rw [qF_tail]; first | rfl | (rw [addO_eq]; done) | (split <;> first | rfl | omega | (rw [addO_eq]; done)))
    | (split <;> omega)
    | (rename_i i hi; rw [mdD ‹RightO c k a b› (by omega) (by omega) (by omega) (by omega) (by omega)] at hi ⊢; rw [qF_tail, addO_eq]; rw [if_neg (by rw [List.length_tail] at hi; omega)])
    | (clear fk b4; simp_all [mdF, mdQ, mdM, mdS, stepS, hadF, atK_lookI, intV]; done)
    | (clear fk b4; simp_all [mdF, mdQ, mdM, mdS, stepS, hadF, atK_lookI, intV, qF]; done)
    | (have h4 : c = 4 := by omega
       subst h4; clear fk b4; simp_all [mdF, mdM, hadF, atK_lookI]; done)
    | (have h4 : c = 13 := by have := (‹RightO c k a b›).c1; omega
       subst h4; clear fk b4; simp_all [mdF, mdS, hadF, atK_lookI]; done)
    | skip
end Go.Proofs.Ytaflaaiomlijbaa
