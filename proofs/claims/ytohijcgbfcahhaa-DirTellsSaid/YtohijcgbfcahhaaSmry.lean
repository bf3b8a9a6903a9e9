/- The executor: contracts as it takes them. -/
import Derived.Test.YtohijcgbfcahhaaSymTop
namespace Go.Proofs.Ytohijcgbfcahhaa
open Go Go.RowKit

section
variable {E : EXT} {P : Program}

/-- What a contract is to give. -/
def Gives (P : Program) (g : FuncId) (args : List SV) (m : Mem E) (K : SV → Mem E → Prop) : Prop := ∀ ν w R w0, Sat w (m.hp.den ν * R) → Kept w0 w → Calls P g (args.map (SV.den ν)).toArray w fun e w' =>
    ∃ v m' μ, K v m' ∧ Agree m.nx ν μ ∧ m.nx ≤ m'.nx ∧ e = .returned (v.den μ) ∧ Sat w' (m'.hp.den μ * R) ∧ Kept w0 w'
/-- A function that hands back a value, and makes memory at most. -/
theorem gives_pure {g : FuncId} {args : List SV} {m : Mem E} {K : SV → Mem E → Prop} {v : SV} (hk : K v m)
    (hc : ∀ ν w, Calls P g (args.map (SV.den ν)).toArray w fun e w' => e = .returned (v.den ν) ∧ Below w.heap.size w w') : Gives P g args m K := fun ν w R w0 H HK =>
  (hc ν w).mono fun _ _ ⟨he, hb⟩ => ⟨v, m, ν, hk, Agree.refl _ _, Nat.le_refl _, he, H.below hb, HK.below hb⟩
theorem gives_same {g : FuncId} {args : List SV} {m : Mem E} {K : SV → Mem E → Prop} {v : SV} (hk : K v m)
    (hc : ∀ ν w, Calls P g (args.map (SV.den ν)).toArray w fun e w' => e = .returned (v.den ν) ∧ w = w') : Gives P g args m K :=
  gives_pure hk fun ν w => (hc ν w).mono fun _ _ ⟨he, hb⟩ => ⟨he, hb ▸ Below.refl _ _⟩
theorem gives_draws {g : FuncId} {args : List SV} {m : Mem E} {K : SV → Mem E → Prop} {v : SV} (hk : K v m)
    (hc : ∀ ν w, Calls P g (args.map (SV.den ν)).toArray w fun e w' => e = .returned (v.den ν) ∧ ∃ n, w' = w.drewN n) : Gives P g args m K := fun ν w R w0 H HK =>
  (hc ν w).mono fun _ _ ⟨he, n, hb⟩ => ⟨v, m, ν, hk, Agree.refl _ _, Nat.le_refl _, he, by subst hb; exact H.draws n, by subst hb; exact HK.draws n⟩
def newOk (m : Mem E) (o : SO E) : Bool := !(m.hp.names.contains m.nx) && !(o.names.contains m.nx)
/-- A new block under the next name. -/
def withNew (m : Mem E) (o : SO E) : Mem E := ⟨m.hp.put m.nx o, m.nx + 1⟩
theorem withNew_sat {m : Mem E} {o : SO E} (h : newOk m o = true) {ν : Nat → Nat} {w : World} {R : Assn} {b : Nat} (H : Sat w (o.den ν b * (m.hp.den ν * R))) : Sat w ((withNew m o).hp.den (upd ν m.nx b) * R) := by
  simp only [newOk, Bool.and_eq_true, Bool.not_eq_true'] at h
  simp only [withNew]
  rw [SH.den_put, upd_same, Assn.mul_assoc, SO.den_eq o fun k hk => not_mem_upd h.2 k hk, SH.den_eq m.hp fun k hk => not_mem_upd h.1 k hk]
  exact H
/-- A function that hands back a row of integers in new memory. -/
def rowRun (m : Mem E) (T : TypeId) (k : IntKind) (n : Nat) (f : Nat → Int) (K : SV → Mem E → Prop) : Prop :=
  0 < n ∧ ∀ cap, n ≤ cap → (bif newOk m (.ints T k n cap f) then K (.c (.sli m.nx 1 true 0 false n cap)) (withNew m (.ints T k n cap f)) else Stuck 620)
theorem gives_row {g : FuncId} {args : List SV} {m : Mem E} {K : SV → Mem E → Prop} {T : TypeId} {k : IntKind} {n : Nat} {f : Nat → Int} (hk : rowRun m T k n f K)
    (hc : ∀ ν w, Calls P g (args.map (SV.den ν)).toArray w fun e w' => ∃ v, e = .returned v ∧ w'.ownsRow w.heap.size T 1 v n (intsOf k n f) ∧ Below w.heap.size w w') : Gives P g args m K := fun ν w R w0 H HK =>
  (hc ν w).mono fun _ w' ⟨v, he, ho, hb⟩ => by
    obtain ⟨hpos, hk⟩ := hk
    have h1 := rowAt_made H hb ho
    rw [rowAt_rowK] at h1
    have hlen : (intsOf k n f).length = n := by simp [intsOf]
    rw [hlen] at h1
    have hne : v ≠ .slice none 0 0 := by
      rintro rfl
      obtain ⟨_, ⟨_, h, _⟩ | ⟨_, _, _, h, _⟩⟩ := rowK_open h1
      · omega
      · cases h
    obtain ⟨b, cap, rfl, hcap, h2⟩ := rowK_head h1 hne
    have h3 := hk cap hcap
    cases hn : newOk m (.ints T k n cap f) <;> rw [hn] at h3
    · exact h3.elim
    simp only [cond_true] at h3
    refine ⟨_, _, upd ν m.nx b, h3, Agree.upd (Nat.le_refl _) _, Nat.le_succ _, ?_, withNew_sat hn h2, HK.below hb⟩
    rw [he]
    simp [SV.den, SC.den, upd_same]
/-- The way in: what the executor shows, as a contract. -/
theorem calls_of (hf : NamesOk P) (hm : P.follows .mixedOrders = true) {T : List (Smry P E)} {wr : FuncId → Nat → Bool} {LF k : Nat} {g : FuncId} {args : List SV} {m : Mem E} {s : Scr E} {K : SV → Mem E → Prop} (h : callN P T wr LF k g args m s fun v m _ => K v m) : Gives P g args m K := fun ν w R w0 H HK =>
  (callN_ok hf hm T wr LF k g args m s _ h ν w R w0 H HK).mono fun _ _ ⟨v, m', _, μ, r⟩ => ⟨v, m', μ, r⟩
def numI (l : Bool) (n : Int) (b : Bd n := .any) : Bool × List SC := (false, [.int l .i64 n b])
/-- A condition, where bounds don't show it already. -/
def needIf (b : Bool) (p q : Prop) : Prop := match b with | true => q | false => p ∧ q
theorem needIf_elim {b : Bool} {p q : Prop} (hb : b = true → p) (h : needIf b p q) : p ∧ q := by cases b; exact h; exact ⟨hb rfl, h⟩
/-- Do bounds show that it is so much at least, so much at most? -/
def Bd.in {n : Int} (b : Bd n) (lo hi : Int) : Bool := match b with
  | .w l h _ => leI lo l && leI h hi
  | .any => false
theorem Bd.in_sound {n : Int} {b : Bd n} {lo hi : Int} (h : b.in lo hi = true) : lo ≤ n ∧ n ≤ hi := by
  unfold Bd.in at h
  split at h
  · simp only [Bool.and_eq_true] at h
    have h1 := leI_le h.1
    have h2 := leI_le h.2
    omega
  · cases h
/-- Bounds of a number, or of nothing in its stead. -/
theorem orZero_bd {n lo hi : Int} (c : Bool) (h : lo ≤ n ∧ n ≤ hi) : minI lo 0 ≤ (if c = true then n else 0) ∧ (if c = true then n else 0) ≤ maxI hi 0 := by
  rw [minI_eq, maxI_eq]; split <;> omega
def Bd.orZero (c : Bool) {n : Int} (b : Bd n) : Bd (if c = true then n else 0) := match b with
  | .w _ _ h => .w _ _ (orZero_bd c h)
  | .any => .any
def okB (b : Bool) : Bool × List SC := (false, [.boo true b])
end
end Go.Proofs.Ytohijcgbfcahhaa
