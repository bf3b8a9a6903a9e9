/- Layer 13's place of a slot: told by the handles of the segments. -/
import Derived.Test.YtnfpkadepomjjaaFrame
import Derived.Test.YtnfpkadepomjjaaSumDir
import Derived.Test.YtnfpkadepomjjaaBaseS
import Derived.Test.YtnfpkadepomjjaaBaseSeg
set_option linter.all false
namespace Go.Proofs.Ytnfpkadepomjjaa
open Go Go.RowKit
set_option maxRecDepth 1000000
set_option maxHeartbeats 0
def s15 (s : Int) : Int := s % 15
/-- What the executor leaves to be shown of roundelay/roundelaylaw13.place, written out. -/
theorem place13_vc (cap : Nat) (s : Int) : (callN Try.prog ([rsegS] : List (Smry Try.prog XE)) (fun _ _ => false) 100 20 21 [.c (.sli 1 1 true 0 true 4 cap), .c (.int false .u8 s)] ⟨[(1, .ints 25 .u64 4 cap hsF)], 100⟩ (.nil) (fun v m _ => outM (.agg [.int false .u64 (hsF (segG (s % 15).toNat)), .int false .i64 (s % 15)]) [(1, .ints 25 .u64 4 cap hsF)] v m)) = (
    ((0 : Int) ≤ s ∧ (0 : Int) < (15 : Int)) ∧ ((0 : Int) ≤ (↑(segG (s % (15 : Int)).toNat) : Int) ∧ (↑(segG (s % (15 : Int)).toNat) : Int) < (4 : Int)) ∧ addO true (0 : Nat) (↑(segG (s
    % (15 : Int)).toNat) : Int).toNat < (4 : Nat) ∧ hsF (segG (s % (15 : Int)).toNat) = hsF (addO true (0 : Nat) (↑(segG (s % (15 : Int)).toNat) : Int).toNat) ∧ s % (15 : Int) = s % (15
    : Int) ∧ ((4 : Nat) = (4 : Nat) ∧ cap = cap ∧ ∀ (i : Nat), i < (4 : Nat) → hsF i = hsF i) ∧ True) := by
  kernel_rfl
theorem place13_run (cap : Nat) (s : Int) (hc : 0 ≤ s ∧ s ≤ 255) : Run (callN Try.prog ([rsegS] : List (Smry Try.prog XE)) (fun _ _ => false) 100 20 21 [.c (.sli 1 1 true 0 true 4 cap), .c (.int false .u8 s)] ⟨[(1, .ints 25 .u64 4 cap hsF)], 100⟩ (.nil) (fun v m _ => outM (.agg [.int false .u64 (hsF (segG (s % 15).toNat)), .int false .i64 (s % 15)]) [(1, .ints 25 .u64 4 cap hsF)] v m)) := by
  constructor
  rw [place13_vc]
  have h1 := Int.emod_lt_of_pos s (show (0 : Int) < 15 by omega)
  have h2 := Int.emod_nonneg s (show (15 : Int) ≠ 0 by omega)
  have h3 : segG (s % 15).toNat ≤ 3 := by
    have h1 := (seg_facts (s := (s % 15).toNat) (by omega)).2.1
    rcases Nat.lt_or_ge (segG (s % 15).toNat) 4 with h2 | h2
    · omega
    · have : 2 ^ 4 ≤ 2 ^ segG (s % 15).toNat := Nat.pow_le_pow_right (by omega) h2
      omega
  have h4 : ∀ g : Nat, 0 ≤ hsF g := fun g => Int.natCast_nonneg _
  simp only [Int.toNat_natCast, addO_eq, Nat.zero_add]
  repeat' first
    | with_reducible apply And.intro
    | with_reducible exact trivial
    | with_reducible exact Eq.refl _
    | with_reducible exact fun _ h => h
    | (refine fun (K : KO XE) => ?_; simp only [eq_self, true_and, and_true, imp_self, implies_true]; done)
    | (refine fun (K : KO XE) => ?_; simp only [eq_self, true_and, and_true, imp_self, implies_true]; exact id)
    | omega
    | exact h4 _
    | exact fun _ _ => trivial
    | exact fun _ _ => rfl
/-- A slot's place. -/
def placeX : Smry Try.prog XE where
  g := 21
  run := fun args m K => match args with
    | [.c (.sli n 1 true 0 true 4 cap), .c (.int _ .u8 s _)] => match m.hp.get n with
      | some (.ints T .u64 4 cap' f) => if T = 25 then (cap' = cap ∧ (∀ i, i < 4 → f i = hsF i) ∧ (0 ≤ s ∧ s ≤ 255)) ∧ K (.agg [.int false .u64 (hsF (segG (s % 15).toNat)), .int false .i64 (s % 15)]) m else Stuck 670
      | _ => Stuck 671
    | _ => Stuck 672
  ok := fun args m K hr => by
    split at hr <;> try exact hr.elim
    rename_i n cap l s bd
    split at hr <;> try exact hr.elim
    rename_i T cap' f hn
    split at hr <;> try exact hr.elim
    rename_i hT
    subst hT
    obtain ⟨⟨rfl, hf, hs⟩, hk⟩ := hr
    intro ν w R w0 H HK
    have H1 := H
    rw [SH.den_get ν hn, Assn.mul_assoc] at H1
    have ef : intsOf .u64 4 f = intsOf .u64 4 hsF := by
      unfold intsOf
      exact List.map_congr_left fun i hi => by rw [hf i (List.mem_range.1 hi)]
    have hd : ∀ (κ : Nat → Nat) (Q : Assn), κ 1 = ν n → (SH.den κ [(1, (.ints 25 .u64 4 cap' hsF : SO XE))]) * Q = (SO.ints 25 .u64 4 cap' f : SO XE).den ν (ν n) * Q := fun κ Q e => by
      simp only [SH.den, SO.den, e, ef]
      rw [Assn.mul_comm _ (1 : Assn), Assn.one_mul]
    have H2 : Sat w ((SH.den (fun _ => ν n) [(1, (.ints 25 .u64 4 cap' hsF : SO XE))]) * (SH.den ν (m.hp.del n) * R)) := H1.cast (hd _ _ rfl).symm
    refine (frame_calls (place13_run cap' s hs) H2 HK).mono ?_
    rintro e w' ⟨κ, ag, he, hs', hk'⟩
    refine ⟨_, m, ν, hk, Agree.refl _ _, Nat.le_refl _, by rw [he]; rfl, ?_, hk'⟩
    rw [hd κ _ (ag 1 (by decide))] at hs'
    rw [SH.den_get ν hn, Assn.mul_assoc]
    exact hs'
end Go.Proofs.Ytnfpkadepomjjaa
