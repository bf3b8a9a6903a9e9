/- What the executor knows of counts, of an arena's faults and tally. -/
import Derived.Test.YtgiakcepgbpchaaSumAr
namespace Go.Proofs.Ytgiakcepgbpchaa
open Go Go.RowKit

def cntAddr (st : Cnt) : Nat := 5 * 2 ^ segG st.s + (st.s + 1) / 2 ^ st.first
def stepC (st : Cnt) : Cnt := if st.first < st.last then { st with first := st.first + 1 } else st
def stepA (st : Cnt) (A : Ar) : Ar := if st.first < st.last then A.add (st.sg : Nat) (cntAddr st : Nat) (st.by' : Nat) else A
/-- A step of the count may be done. -/
def CntOk (st : Cnt) (A : Ar) : Prop := st.s ≤ 254 ∧ st.last ≤ segG st.s + 1 ∧ st.sg ≠ 0 ∧ (st.first < st.last → A.Has (st.sg : Nat) (cntAddr st : Nat))
/-- The memory with two blocks turned. -/
def put2 (m : MX) (c p : Nat) (x y : SO XE) : MX := ⟨(((m.hp.del c).del p).put p y).put c x, m.nx⟩
theorem gives_two {g : FuncId} {args : List SV} {m : MX} {K : SV → MX → Prop} {c p : Nat} {x x' y y' : XO} (hc : m.hp.get c = some (.ext x)) (hp : (m.hp.del c).get p = some (.ext y)) {v : SV} (hk : K v (put2 m c p (.ext x') (.ext y')))
    (hcall : ∀ ν w R, Sat w (XO.den ν (ν c) x * (XO.den ν (ν p) y * R)) → Calls Try.prog g (args.map (SV.den ν)).toArray w fun e w' => e = .returned (v.den ν) ∧ Sat w' (XO.den ν (ν c) x' * (XO.den ν (ν p) y' * R)) ∧ Kept w w') : Gives Try.prog g args m K := fun ν w R w0 H HK => by
  rw [SH.den_get ν hc, SH.den_get ν hp, Assn.mul_assoc, Assn.mul_assoc] at H
  refine (hcall ν w _ H).mono fun e w' ⟨he, hs, hk'⟩ => ⟨v, _, ν, hk, Agree.refl _ _, Nat.le_refl _, he, ?_, HK.trans hk'⟩
  unfold put2
  rw [SH.den_put, SH.den_put, Assn.mul_assoc, Assn.mul_assoc]
  exact hs
def stepX : Smry Try.prog XE where
  g := 19
  run := fun args m K => match args with
    | [.c (.ptr c 0)] => match m.hp.get c with
      | some (.ext (.cnt p st)) => match (m.hp.del c).get p with
        | some (.ext (.ar A)) => CntOk st A ∧ K (.tup []) (put2 m c p (cntO p (stepC st)) (arO (stepA st A)))
        | _ => Stuck 750
      | _ => Stuck 751
    | _ => Stuck 752
  ok := fun args m K hr => by
    split at hr <;> try exact hr.elim
    rename_i c
    split at hr <;> try exact hr.elim
    rename_i p st hc
    split at hr <;> try exact hr.elim
    rename_i A hA
    refine gives_two (x := .cnt p st) (y := .ar A) (x' := .cnt p (stepC st)) (y' := .ar (stepA st A)) hc hA hr.2 fun ν w R H => ?_
    obtain ⟨hs, hl, h0, hh⟩ := hr.1
    unfold stepC stepA
    by_cases hf : st.first < st.last
    · rw [if_pos hf, if_pos hf]
      obtain ⟨⟨a, ha, hat⟩, _, hcs⟩ := has_cases (hh hf)
      have ha' : a = st.sg := by omega
      subst ha'
      rcases hcs with ⟨hz, _⟩ | ⟨_, b, hfb, hx⟩
      · exact absurd (by simpa using hz) h0
      · exact count_step_add (ν c) (ν p) _ A b st w H hs hf hl hat h0 (by simpa using hfb) (by rw [Int.toNat_natCast] at hx; exact hx)
    · rw [if_neg hf, if_neg hf]
      refine (count_step_end (ν c) (ν p) st w H (by omega)).mono fun e w' ⟨he, hw⟩ => ?_
      subst hw
      exact ⟨he, H, Kept.refl _⟩
def doneX : Smry Try.prog XE where
  g := 43
  run := fun args m K => match args with
    | [.c (.ptr c 0)] => match m.hp.get c with
      | some (.ext (.cnt _ st)) => K (.c (.boo false (isDone st))) m
      | _ => Stuck 753
    | _ => Stuck 754
  ok := fun args m K hr => by
    split at hr <;> try exact hr.elim
    rename_i c
    split at hr <;> try exact hr.elim
    rename_i p st hc
    intro ν w R w0 H HK
    have H' := H
    rw [SH.den_get ν hc, Assn.mul_assoc] at H'
    refine (count_done (ν c) (ν p) st w H').mono fun e w' ⟨he, hw⟩ => ?_
    subst hw
    exact ⟨_, m, ν, hr, Agree.refl _ _, Nat.le_refl _, he, H, HK⟩
theorem gives_made {g : FuncId} {args : List SV} {m : MX} {K : SV → MX → Prop} {x : XO} (hn : newOk m (.ext x) = true) (hk : K (.c (.ptr m.nx 0)) (withNew m (.ext x)))
    (hc : ∀ ν w R, Sat w R → Calls Try.prog g (args.map (SV.den ν)).toArray w fun e w' => ∃ c, e = .returned (.pointer (some ⟨c, 0, none⟩)) ∧ Sat w' (XO.den ν c x * R) ∧ Kept w w') : Gives Try.prog g args m K := fun ν w R w0 H HK =>
  (hc ν w _ H).mono fun e w' ⟨c, he, hs, hk'⟩ => ⟨_, _, upd ν m.nx c, hk, Agree.upd (Nat.le_refl _) _, Nat.le_succ _, by rw [he]; simp [SV.den, SC.den, upd_same], withNew_sat hn hs, HK.trans hk'⟩
/-- A count of an enter. -/
def enterC (sg s : Int) : Cnt := ⟨sg.toNat, s.toNat, 0, segG s.toNat + 1, 1⟩
def enterX : Smry Try.prog XE where
  g := 18
  run := fun args m K => match args with
    | [.c (.ptr p 0), .agg [.int _ .u64 sg _, .int _ .i64 s _]] => (0 ≤ sg ∧ 0 ≤ s ∧ s ≤ 254) ∧
        bif newOk m (cntO p (enterC sg s)) then K (.c (.ptr m.nx 0)) (withNew m (cntO p (enterC sg s))) else Stuck 755
    | _ => Stuck 756
  ok := fun args m K hr => by
    split at hr <;> try exact hr.elim
    rename_i p _ sg _ _ s _
    obtain ⟨⟨h0, h1, h2⟩, hk⟩ := hr
    obtain ⟨a, rfl⟩ : ∃ z : Nat, sg = z := ⟨sg.toNat, by omega⟩
    obtain ⟨b, rfl⟩ : ∃ z : Nat, s = z := ⟨s.toNat, by omega⟩
    cases hn : newOk m (cntO p (enterC (a : Int) (b : Int))) <;> rw [hn] at hk
    · exact hk.elim
    exact gives_made hn hk fun ν w R H => count_enter (ν p) a b w H (by omega)
def exitX : Smry Try.prog XE where
  g := 45
  run := fun args m K => match args with
    | [.c (.ptr p 0), .agg [.int _ .u64 sg _, .int _ .i64 s _], .c (.int _ .i64 a _), .c (.int _ .i64 b _)] => (0 ≤ sg ∧ 0 ≤ s ∧ s ≤ 254) ∧
        bif newOk m (cntO p (cntNew sg.toNat s.toNat a b 18446744073709551615)) then K (.c (.ptr m.nx 0)) (withNew m (cntO p (cntNew sg.toNat s.toNat a b 18446744073709551615))) else Stuck 757
    | _ => Stuck 758
  ok := fun args m K hr => by
    split at hr <;> try exact hr.elim
    rename_i p _ sg _ _ s _ _ x _ _ y _
    obtain ⟨⟨h0, h1, h2⟩, hk⟩ := hr
    obtain ⟨a, rfl⟩ : ∃ z : Nat, sg = z := ⟨sg.toNat, by omega⟩
    obtain ⟨b, rfl⟩ : ∃ z : Nat, s = z := ⟨s.toNat, by omega⟩
    cases hn : newOk m (cntO p (cntNew (a : Int).toNat (b : Int).toNat x y 18446744073709551615)) <;> rw [hn] at hk
    · exact hk.elim
    exact gives_made hn hk fun ν w R H => count_exit (ν p) a b x y w H (by omega)
-- what an arena tells
theorem ar_faults (p : Nat) (A : Ar) (w : World) {R : Assn} (H : Sat w (arAt p A * R)) :
    Calls Try.prog 24 #[.pointer (some ⟨p, 0, none⟩)] w fun e w' => e = .returned (.int .i64 (wr64 A.faults)) ∧ w = w' := by
  obtain ⟨ps, pb, _, H1⟩ := arAt_open H
  have hc := H1.cell 3
  simp [arCells] at hc
  clear H H1
  go_enter Try.func24, Try.ntmps24
  go_wp2
  go_ret
  exact ⟨rfl, rfl⟩
theorem gives_told {g : FuncId} {args : List SV} {m : MX} {K : SV → MX → Prop} {n : Nat} {A : Ar} {v : SV} (hA : m.hp.get n = some (arO A)) (hk : K v m)
    (hc : ∀ ν w R, Sat w (arAt (ν n) A * R) → Calls Try.prog g (args.map (SV.den ν)).toArray w fun e w' => e = .returned (v.den ν) ∧ w = w') : Gives Try.prog g args m K := fun ν w R w0 H HK => by
  have H' := H
  rw [SH.den_get ν hA, Assn.mul_assoc] at H'
  refine (hc ν w _ H').mono fun e w' ⟨he, hw⟩ => ?_
  subst hw
  exact ⟨_, m, ν, hk, Agree.refl _ _, Nat.le_refl _, he, H, HK⟩
def faultsX : Smry Try.prog XE where
  g := 24
  run := fun args m K => match args with
    | [.c (.ptr n 0)] => match m.hp.get n with
      | some (.ext (.ar A)) => K (.c (.int false .i64 (wr64 A.faults))) m
      | _ => Stuck 760
    | _ => Stuck 761
  ok := fun args m K hr => by
    split at hr <;> try exact hr.elim
    split at hr <;> try exact hr.elim
    rename_i A hA
    exact gives_told hA hr fun ν w R H => ar_faults _ A w H
end Go.Proofs.Ytgiakcepgbpchaa
