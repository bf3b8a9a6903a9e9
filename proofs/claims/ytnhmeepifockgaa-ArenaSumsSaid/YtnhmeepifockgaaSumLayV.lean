/- What the executor knows of Lay, of words that lie in the old memory. -/
import Derived.Test.YtnhmeepifockgaaBaseS
set_option linter.all false
namespace Go.Proofs.Ytnhmeepifockgaa
open Go Go.RowKit
theorem natsOf_get {n : Nat} {f : Nat → Int} {j : Nat} {u : Value} (h0 : ∀ i, i < n → 0 ≤ f i) (h : (u64s (natsOf n f))[j]? = some u) : j < n ∧ u = .int .u64 (f j) := by
  rw [natsOf_u64s h0] at h
  have hj : j < n := by
    rcases Nat.lt_or_ge j n with h' | h'
    · exact h'
    · rw [List.getElem?_eq_none (by simp [intsOf]; exact h')] at h; cases h
  rw [intsOf_get _ _ _ j hj] at h
  exact ⟨hj, (Option.some.inj h).symm⟩
theorem gives_layV {n len cap : Nat} {a : Option Addr} {lo : Bool} {m : MX} {K : SV → MX → Prop} {A : Ar} {W : World} {l : Bool} (hA : m.hp.get n = some (arO A)) (hS : seenOf (m.hp.del n) = some W) (hx : ∀ j, j < len → Seen .u64 W (addOpt a j))
    (h1 : 1 ≤ len) (h2 : len ≤ 2048) (hc : A.used + len ≤ A.cap) (hb : A.s.back = []) (hbi : A.births < 268435455)
    (hk : ∀ v, K (.tup [(false, [.int l .u64 (layH A : Nat)]), okE]) ⟨m.hp.set n (arO (A.lay (natsOf len fun j => seenInt .u64 W (addOpt a j)) v)), m.nx⟩) :
    Gives Try.prog 93 [.c (.ptr n 0), .c (.sliv a lo len cap)] m K := fun ν w R w0 H HK => by
  obtain ⟨g, rfl⟩ : ∃ g, a = some g := by
    obtain ⟨x, hx0, _⟩ := hx 0 (by omega)
    cases a with
    | none => cases hx0
    | some g => exact ⟨g, rfl⟩
  have hbd : ∀ i, 0 ≤ seenInt .u64 W (addOpt (some g) i) ∧ seenInt .u64 W (addOpt (some g) i) ≤ 18446744073709551615 := fun i => seenInt_bd .u64 W _
  have hlen : (natsOf len fun j => seenInt .u64 W (addOpt (some g) j)).length = len := by simp [natsOf]
  have hcell : ∀ w R, Sat w ((m.hp.del n).den ν * R) → ∀ j, j < len → w.cell? (g.add j) = some (.int .u64 (seenInt .u64 W (addOpt (some g) j))) := fun w R HH j hj => by
    obtain ⟨x, hx0, hv⟩ := hx j hj
    have e : x = g.add j := (Option.some.inj hx0).symm
    rw [e] at hv
    exact seenOf_cell hv hS HH
  rw [SH.den_get ν hA, Assn.mul_assoc] at H
  have hcall := lay_any (ν n) A (natsOf len fun j => seenInt .u64 W (addOpt (some g) j)) len hlen g cap w (Q := (m.hp.del n).den ν) (R := R) H (fun w R HH => ⟨?_, fun j u hj => ?_⟩) (by omega) (by omega) (by omega) hb hbi (fun x hxm => ?_)
  · have hargs : (List.map (SV.den ν) [.c (.ptr n 0), .c (.sliv (some g) lo len cap)]).toArray = #[.pointer (some ⟨ν n, 0, none⟩), .slice (some g) len cap] := by simp [SV.den, SC.den]
    rw [hargs]
    refine hcall.mono fun e w' ⟨he, ⟨v', hs⟩, hk'⟩ => ?_
    refine ⟨_, _, ν, hk v', Agree.refl _ _, Nat.le_refl _, he, ?_, HK.trans hk'⟩
    rw [SH.den_set ν hA, Assn.mul_assoc]
    exact hs
  · have h0 := hcell w R HH 0 (by omega)
    rcases Nat.lt_or_ge g.block w.heap.size with h' | h'
    · exact h'
    · exfalso
      have : w.cell? (g.add 0) = none := by
        unfold World.cell?
        simp [Addr.add, Array.getElem?_eq_none h']
      rw [this] at h0; cases h0
  · obtain ⟨hjl, rfl⟩ := natsOf_get (fun i _ => (hbd i).1) hj
    exact hcell w R HH j hjl
  · simp only [natsOf, List.mem_map, List.mem_range] at hxm
    obtain ⟨i, hi, rfl⟩ := hxm
    have := hbd i
    unfold TW
    omega
def layV (lit : Bool) : Smry Try.prog XE where
  g := 93
  run := fun args m K => match args with
    | [.c (.ptr n 0), .c (.sliv a _ len cap)] => match m.hp.get n with
      | some (.ext (.ar A)) => match seenOf (m.hp.del n) with
        | some W => (∀ j, j < len → Seen .u64 W (addOpt a j)) ∧ (1 ≤ len ∧ len ≤ 2048) ∧ A.used + len ≤ A.cap ∧ A.s.back = [] ∧ A.births < 268435455 ∧
            ∀ v, K (.tup [(false, [.int lit .u64 (layH A : Nat)]), okE]) ⟨m.hp.set n (arO (A.lay (natsOf len fun j => seenInt .u64 W (addOpt a j)) v)), m.nx⟩
        | none => Stuck 744
      | _ => Stuck 742
    | _ => Stuck 743
  ok := fun args m K hr => by
    split at hr <;> try exact hr.elim
    split at hr <;> try exact hr.elim
    rename_i A hA
    split at hr <;> try exact hr.elim
    rename_i W hS
    obtain ⟨hx, ⟨h1, h2⟩, hc, hb, hbi, hk⟩ := hr
    exact gives_layV hA hS hx h1 h2 hc hb hbi hk
end Go.Proofs.Ytnhmeepifockgaa
