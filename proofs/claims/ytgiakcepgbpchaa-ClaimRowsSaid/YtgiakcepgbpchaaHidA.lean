/- Objects that are made by a call with a number beside. -/
import Derived.Test.YtgiakcepgbpchaaBaseC
set_option linter.all false
namespace Go.Proofs.Ytgiakcepgbpchaa
open Go Go.RowKit

section
variable {E : EXT} {H : Hid E}
def MadeOk1 (H : Hid E) (g : FuncId) (cond : Int → E.X → Prop) (x0 : Int → E.X → H.X) : Prop :=
  ∀ t a, cond t a → ∀ (ν : Nat → Nat) (p : Nat) (w : World) (R : Assn) (w0 : World), Sat w (E.den ν (ν p) a * R) → Kept w0 w →
    Calls Try.prog g #[.pointer (some ⟨ν p, 0, none⟩), .int .u64 t] w fun e w' => ∃ c, e = .returned (.pointer (some ⟨c, 0, none⟩)) ∧ Sat w' (hidDen H ν c [p] (x0 t a) * (E.den ν (ν p) a * R)) ∧ Kept w0 w'
theorem made_ok1 {g : FuncId} {cond : Int → E.X → Prop} {x0 : Int → E.X → H.X} (hn : ∀ t a, cond t a → E.names a = [])
    (run : ∀ t a, cond t a → ∃ (T : List (Smry Try.prog E)) (wr : FuncId → Nat → Bool) (LF k : Nat) (s : Scr E) (post : SV → Mem E → Prop), Run (callN Try.prog T wr LF k g [.c (.ptr 1 0), .c (.int false .u64 t)] ⟨[(1, .ext a)], 100⟩ s fun v m _ => post v m) ∧ ∀ v m, post v m → ∃ z', outM (.c (.ptr 10 0)) (renHeap (H.heap (x0 t a) z') ++ [(1, .ext a)]) v m) :
    MadeOk1 H g cond x0 := by
  intro t a hc ν p w R w0 Hs HK
  have n1 := hn t a hc
  have law : ∀ (μ κ : Nat → Nat) b, E.den μ b a = E.den κ b a := fun μ κ b => E.law μ κ b a (by rw [n1]; intro n hn; cases hn)
  obtain ⟨T, wr, LF, k, s, post, hrun, hpost⟩ := run t a hc
  have H1 : Sat w ((⟨[(1, .ext a)], 100⟩ : Mem E).hp.den (fun _ => ν p) * R) := by
    refine Hs.cast ?_
    simp only [SH.den, SO.den]
    rw [law ν (fun _ => ν p), Assn.mul_comm _ (1 : Assn), Assn.one_mul]
  refine (callN_ok namesOk mixed T wr LF k g _ _ s _ hrun.out (fun _ => ν p) w R w0 H1 HK).mono ?_
  rintro e w' ⟨v, m', s', ξ, hv, ag, _, he, hs, hk⟩
  obtain ⟨z', ho⟩ := hpost v m' hv
  obtain ⟨κ, ag2, hv2, hs⟩ := outM_sound ho hs
  have k1 : κ 1 = ν p := by rw [ag2 1 (by decide), ag 1 (show 1 < 100 by decide)]
  refine ⟨κ 10, ?_, ?_, hk⟩
  · rw [he, hv2]; rfl
  · unfold hidDen
    refine Sat.mk_ex_mul (κ ∘ renSelf) (Sat.mk_ex_mul z' ?_)
    rw [Assn.mul_assoc]
    refine Sat.mk_pure_mul ⟨rfl, fun i n hi => ?_⟩ ?_
    · cases i with
      | zero =>
        simp only [List.getElem?_cons_zero, Option.some.injEq] at hi
        subst hi
        exact k1
      | succ i => simp at hi
    · refine hs.cast ?_
      simp only [SH.den_append, SH.den, SO.den]
      rw [renHeap_den, k1, law κ ν, Assn.mul_comm _ (1 : Assn), Assn.one_mul, Assn.mul_assoc]
def madeS1 (g : FuncId) (cond : Int → E.X → Prop) (x0 : Int → E.X → H.X) (hok : MadeOk1 H g cond x0) : Smry Try.prog (E.hid H) where
  g := g
  run := fun args m K => match args with
    | [.c (.ptr p 0), .c (.int _ .u64 t _)] => match m.hp.get p with
      | some (.ext (HO.old a)) => cond t a ∧ bif newOk m (.ext (HO.obj [p] (x0 t a))) then K (.c (.ptr m.nx 0)) (withNew m (.ext (HO.obj [p] (x0 t a)))) else Stuck 794
      | _ => Stuck 795
    | _ => Stuck 796
  ok := fun args m K hr => by
    split at hr <;> try exact hr.elim
    rename_i p l t bd
    split at hr <;> try exact hr.elim
    rename_i a ha
    obtain ⟨hc, hk⟩ := hr
    cases hn : newOk m (SO.ext (HO.obj [p] (x0 t a)) : SO (E.hid H)) <;> rw [hn] at hk
    · exact hk.elim
    simp only [cond_true] at hk
    intro ν w R w0 Hs HK
    rw [SH.den_get ν ha, Assn.mul_assoc] at Hs
    refine (hok t a hc ν p w _ w0 Hs HK).mono ?_
    rintro e w' ⟨c, he, hs, hk'⟩
    refine ⟨_, _, upd ν m.nx c, hk, Agree.upd (Nat.le_refl _) _, Nat.le_succ _, ?_, ?_, hk'⟩
    · rw [he]
      simp [SV.den, SC.den, upd_same]
    · refine withNew_sat hn ?_
      refine hs.cast ?_
      rw [SH.den_get ν ha, Assn.mul_assoc]
      rfl
end
end Go.Proofs.Ytgiakcepgbpchaa
