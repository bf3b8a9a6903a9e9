/- Layer 13's found, as the executor takes it. -/
import Derived.Test.YtnfpkadepomjjaaFnd13
set_option linter.all false
namespace Go.Proofs.Ytnfpkadepomjjaa
open Go Go.RowKit

def foundX : Smry Try.prog XC where
  g := 17
  run := fun args m K => match args with
    | [.c (.ptr c 0), .c (.sli h 1 true 0 true 4 cap), .c (.sliv a false len _), .c (.sli b1 1 true 0 false l1 c1), .c (.sli b2 1 true 0 false l2 c2), .c (.int _ .i64 rd _)] => match m.hp.get 0 with
      | some (.seen W) => match (m.hp.del 0).get c with
        | some (.ext (HO.obj [p] x)) => match ((m.hp.del 0).del c).get p with
          | some (.ext (HO.old (XO.ar A))) => match (((m.hp.del 0).del c).del p).get h with
            | some (.ints T .u64 4 cap' f) => match ((((m.hp.del 0).del c).del p).del h).get b1 with
              | some (.vals T1 1 n1 k1 f1) => match (((((m.hp.del 0).del c).del p).del h).del b1).get b2 with
                | some (.vals T2 1 n2 k2 f2) => if T = 25 then if T1 = 4 then if T2 = 4 then
                    (∃ (alw som : Nat → Bool) (reads : Nat), ((cap = cap' ∧ ∀ i, i < 4 → f i = hsF i) ∧ (len = l1 ∧ len = c1 ∧ len = n1 ∧ len = k1) ∧ (len = l2 ∧ len = c2 ∧ len = n2 ∧ len = k2)) ∧ (∀ j, j < len → f1 j = [.bool (alw j)]) ∧ (∀ j, j < len → f2 j = [.bool (som j)]) ∧ rd = (reads : Nat) ∧ FoundOk W a len x alw som reads) ∧ K (.c (.boo false true)) m
                  else Stuck 680 else Stuck 681 else Stuck 682
                | _ => Stuck 683
              | _ => Stuck 684
            | _ => Stuck 685
          | _ => Stuck 686
        | _ => Stuck 687
      | _ => Stuck 688
    | _ => Stuck 689
  ok := fun args m K hr => by
    split at hr <;> try exact hr.elim
    rename_i c h cap a len scap b1 l1 c1 b2 l2 c2 lit rd bd
    split at hr <;> try exact hr.elim
    rename_i W h0
    split at hr <;> try exact hr.elim
    rename_i p x hc
    split at hr <;> try exact hr.elim
    rename_i A hp
    split at hr <;> try exact hr.elim
    rename_i T cap' f hh
    split at hr <;> try exact hr.elim
    rename_i T1 n1 k1 f1 hb1
    split at hr <;> try exact hr.elim
    rename_i T2 n2 k2 f2 hb2
    split at hr <;> try exact hr.elim
    rename_i hT
    split at hr <;> try exact hr.elim
    rename_i hT1
    split at hr <;> try exact hr.elim
    rename_i hT2
    subst hT hT1 hT2
    obtain ⟨⟨alw, som, reads, ⟨⟨rfl, hf⟩, ⟨rfl, rfl, rfl, rfl⟩, rfl, rfl, rfl, rfl⟩, hf1, hf2, rfl, hok⟩, hk⟩ := hr
    intro ν w R w0 H HK
    let τ : Nat → Nat := fun i => match i with | 0 => 0 | 1 => p | 2 => c | 3 => h | 4 => b1 | 5 => b2 | _ => 0
    have ef : intsOf .u64 4 f = intsOf .u64 4 hsF := by
      unfold intsOf
      exact List.map_congr_left fun i hi => by rw [hf i (List.mem_range.1 hi)]
    have ev : ∀ {g1 g2 : Nat → List Value} {n : Nat}, (∀ j, j < n → g1 j = g2 j) → ∀ (t : TypeId) (b : Nat), (SO.vals (E := XC) t 1 n n g1).den ν b = (SO.vals (E := XC) t 1 n n g2).den ν b := fun {g1 g2 n} e t b => by
      simp only [SO.den]
      rw [valsOf_congr e]
      congr 2
      apply propext
      exact ⟨fun q i hi => by rw [← e i hi]; exact q i hi, fun q i hi => by rw [e i hi]; exact q i hi⟩
    have hd : ∀ (κ : Nat → Nat) (Q : Assn), Agree 10 (ν ∘ τ) κ → SH.den κ (memF W A x len cap alw som) * Q = (SO.seen W : SO XC).den ν (ν 0) * ((SO.ext (HO.obj [p] x) : SO XC).den ν (ν c) * ((SO.ext (HO.old (XO.ar A)) : SO XC).den ν (ν p) * ((SO.ints 25 .u64 4 cap f : SO XC).den ν (ν h) * ((SO.vals 4 1 len len f1 : SO XC).den ν (ν b1) * ((SO.vals 4 1 len len f2 : SO XC).den ν (ν b2) * Q))))) := fun κ Q ag => by
      rw [SH.den_eq (ν := κ) (μ := ν ∘ τ) (memF W A x len cap alw som) fun n hn => ag n (by
        have : ∀ k ∈ (memF W A x len cap alw som).names, k < 10 := by
          intro k hk
          simp only [memF, SH.names, SO.names, List.nil_append, List.mem_cons, List.mem_append] at hk
          have hn1 : ∀ k ∈ EXT.names (XE.hid colH) (HO.old (XO.ar A)), k < 10 := fun k hk => by cases hk
          have hn2 : ∀ k ∈ EXT.names (XE.hid colH) (HO.obj [1] x), k < 10 := fun k hk => by
            have : k ∈ [1] := hk
            simp only [List.mem_singleton] at this
            omega
          rcases hk with rfl | rfl | hk | rfl | hk | rfl | rfl | rfl | hk
          · decide
          · decide
          · exact hn1 k hk
          · decide
          · exact hn2 k hk
          · decide
          · decide
          · decide
          · cases hk
        exact this n hn)]
      have e := renSH_den τ ν (memF W A x len cap alw som)
      rw [← e]
      have e2 : renSH τ (memF W A x len cap alw som) = [(0, .seen W), (p, .ext (HO.old (XO.ar A))), (c, .ext (HO.obj [p] x)), (h, .ints 25 .u64 4 cap hsF), (b1, boC len alw), (b2, boC len som)] := rfl
      rw [e2]
      simp only [SH.den]
      rw [ev (g1 := f1) (g2 := fun j => [.bool (alw j)]) hf1, ev (g1 := f2) (g2 := fun j => [.bool (som j)]) hf2]
      have e3 : (SO.ints 25 .u64 4 cap f : SO XC).den ν (ν h) = (SO.ints 25 .u64 4 cap hsF : SO XC).den ν (ν h) := by simp only [SO.den, ef]
      rw [e3, Assn.mul_comm _ (1 : Assn), Assn.one_mul]
      ac_rfl
    have hm : ∀ Q : Assn, m.hp.den ν * Q = (SO.seen W : SO XC).den ν (ν 0) * ((SO.ext (HO.obj [p] x) : SO XC).den ν (ν c) * ((SO.ext (HO.old (XO.ar A)) : SO XC).den ν (ν p) * ((SO.ints 25 .u64 4 cap f : SO XC).den ν (ν h) * ((SO.vals 4 1 len len f1 : SO XC).den ν (ν b1) * ((SO.vals 4 1 len len f2 : SO XC).den ν (ν b2) * (SH.den ν ((((((m.hp.del 0).del c).del p).del h).del b1).del b2) * Q)))))) := fun Q => by
      rw [SH.den_get ν h0, SH.den_get ν hc, SH.den_get ν hp, SH.den_get ν hh, SH.den_get ν hb1, SH.den_get ν hb2]
      simp only [Assn.mul_assoc]
    rw [hm, ← hd (ν ∘ τ) _ (Agree.refl _ _)] at H
    have hcall := frame_calls (found13_run W A x a len cap scap alw som reads hok) H HK
    have eargs : (List.map (SV.den ν) [.c (.ptr c 0), .c (.sli h 1 true 0 true 4 cap), .c (.sliv a false len scap), .c (.sli b1 1 true 0 false len len), .c (.sli b2 1 true 0 false len len), .c (.int lit .i64 (reads : Nat) bd)]) = List.map (SV.den (ν ∘ τ)) [.c (.ptr 2 0), .c (.sli 3 1 true 0 true 4 cap), .c (.sliv a false len scap), .c (.sli 4 1 true 0 false len len), .c (.sli 5 1 true 0 false len len), .c (.int false .i64 (reads : Nat))] := rfl
    rw [eargs]
    refine hcall.mono ?_
    rintro e w' ⟨κ, ag, he, hs', hk'⟩
    refine ⟨_, m, ν, hk, Agree.refl _ _, Nat.le_refl _, by rw [he]; rfl, ?_, hk'⟩
    rw [hm, ← hd κ _ ag]
    exact hs'
end Go.Proofs.Ytnfpkadepomjjaa
