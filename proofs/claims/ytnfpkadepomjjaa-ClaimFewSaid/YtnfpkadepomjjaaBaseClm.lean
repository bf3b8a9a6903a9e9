/- A claim as plain data: what it holds, what a step makes of it and of the arena. -/
import Derived.Test.YtnfpkadepomjjaaBaseParL
import Derived.Test.YtnfpkadepomjjaaSumDir
import Derived.Test.YtnfpkadepomjjaaBaseC
import Derived.Test.YtnfpkadepomjjaaWords
import Derived.Test.YtnfpkadepomjjaaBaseLayI
set_option linter.all false
namespace Go.Proofs.Ytnfpkadepomjjaa
open Go Go.RowKit
set_option maxRecDepth 100000

/-- What comes next (0 look, 1 lay, 2 install, 3 drop, 4 take, else nothing); the rest as in the program. -/
structure Clm where
  ph : Nat
  tok : Nat
  seg : Nat
  slot : Nat
  g : Nat
  priv : Nat
  got : Bool
  e : Nat
def clmGear : Nat → SC
  | 0 => .fn (.func 184) [.ptr 0 0] []
  | 1 => .fn (.func 211) [.ptr 0 0] []
  | 2 => .fn (.func 233) [.ptr 0 0] []
  | 3 => .fn (.func 249) [.ptr 0 0] []
  | 4 => .fn (.func 185) [.ptr 0 0] []
  | _ => .raw .nilFunc
def clmHeap (x : Clm) (_ : Un) : SH XP := [(0, .cells [clmGear x.ph, .ptr 1 0, .int false .u64 (x.tok : Int), .int false .u64 (x.seg : Int), .int false .i64 (x.slot : Int), .int false .i64 (x.g : Int), .int false .u64 (x.priv : Int), .boo false x.got, .int false .i64 (x.e : Int)] 207)]
def clmH : Hid XP := ⟨Clm, Un, clmHeap⟩
abbrev XM : EXT := XP.hid clmH
def clmOn (x : Clm) : Clm := if 254 < x.slot then { x with e := 12, ph := 5 } else if segO x.slot = 0 then { x with g := segG x.slot, ph := 0 } else { x with ph := 4 }
def zerosG (g : Nat) : List Nat := natsOf (7 * 2 ^ g) fun _ => 0
def clmStep (x : Clm) (A : PA) : Clm := match x.ph with
  | 0 => { x with seg := A.rd 0 ((x.g : Int) + 1), ph := if A.rd 0 ((x.g : Int) + 1) = 0 then 1 else 4 }
  | 1 => { x with priv := A.hdl, ph := 2 }
  | 2 => if A.rd 0 ((x.g : Int) + 1) = 0 then { x with seg := x.priv, priv := 0, ph := 4 } else { x with ph := 3 }
  | 4 => if A.rd (x.seg : Nat) (5 * (segO x.slot : Nat) : Int) = 0 then { x with got := true, ph := 5 } else clmOn { x with slot := x.slot + 1 }
  | _ => x
def clmA (x : Clm) (A : PA) : PA := match x.ph with
  | 0 => A.read
  | 1 => A.lay (zerosG x.g)
  | 2 => A.swapQ 0 ((x.g : Int) + 1) 0 (x.priv : Nat)
  | 4 => A.swapQ (x.seg : Nat) (5 * (segO x.slot : Nat) : Int) 0 (x.tok : Nat)
  | _ => A
def clmOk (x : Clm) (A : PA) : Prop := match x.ph with
  | 0 => x.g < 8 ∧ A.Has 0 ((x.g : Int) + 1)
  | 1 => x.g < 8 ∧ A.used + 7 * 2 ^ x.g ≤ A.cap ∧ A.bk = [] ∧ A.births < 268435455
  | 2 => x.g < 8 ∧ A.Has 0 ((x.g : Int) + 1) ∧ x.priv < 18446744073709551616
  | 3 => False
  | 4 => x.slot ≤ 254 ∧ A.Has (x.seg : Nat) (5 * (segO x.slot : Nat) : Int) ∧ x.tok < 18446744073709551616
  | _ => True
/-- The shape that a claim in memory has. -/
def selClm (h : SH XP) : Nat := match h.get 0 with
  | some (.cells (.fn (.func n) _ _ :: _) _) => bif Nat.beq n 184 then 0 else bif Nat.beq n 211 then 1 else bif Nat.beq n 233 then 2 else bif Nat.beq n 249 then 3 else 4
  | _ => 5
def clmAny (P : Clm → Prop) (n : Nat) : Prop := ∃ (tok seg slot g priv : Nat) (got : Bool) (e : Nat), P ⟨n, tok, seg, slot, g, priv, got, e⟩
def clmPost (x : Clm) (A : PA) (v : SV) (m : MP) : Prop := forceN (selClm m.hp) (clmAny fun y => Is y x ∧ outM (.tup []) (clmHeap y .mk ++ [(1, parO A)]) v m)
theorem clmPost_of {x : Clm} {A : PA} {v : SV} {m : MP} (h : clmPost x A v m) : outM (.tup []) (clmHeap x .mk ++ [(1, parO A)]) v m := by
  unfold clmPost at h
  rw [forceN_eq] at h
  obtain ⟨tok, seg, slot, g, priv, got, e, hi, h⟩ := h
  cases hi
  exact h
end Go.Proofs.Ytnfpkadepomjjaa

/- Objects that are made by a call with a number beside. -/
namespace Go.Proofs.Ytnfpkadepomjjaa
open Go Go.RowKit

section
variable {E : EXT} {H : Hid E}
def MadeOk1 (H : Hid E) (g : FuncId) (cond : Int → E.X → Prop) (x0 : Int → E.X → H.X) : Prop :=
  ∀ t a, cond t a → ∀ (ν : Nat → Nat) (p : Nat) (w : World) (R : Assn) (w0 : World), Sat w (E.den ν (ν p) a * R) → Kept w0 w →
    Calls Try.prog g #[.pointer (some ⟨ν p, 0, none⟩), .int .u64 t] w fun e w' => ∃ c, e = .returned (.pointer (some ⟨c, 0, none⟩)) ∧ Sat w' (hidDen H ν c [p] (x0 t a) * (E.den ν (ν p) a * R)) ∧ Kept w0 w'
theorem made_ok1 {g : FuncId} {cond : Int → E.X → Prop} {x0 : Int → E.X → H.X} (hn : ∀ t a, cond t a → E.names a = [])
    (run : ∀ t a, cond t a → ∃ (T : List (Smry Try.prog E)) (wr : FuncId → Nat → Bool) (LF k : Nat) (s : Scr E) (post : SV → Mem E → Prop), Run (callN Try.prog T wr LF k g [.c (.ptr 1 0), .c (.int false .u64 t)] ⟨[(1, .ext a)], 100⟩ s fun v m _ => post v m) ∧ ∀ v m, post v m → ∃ z', outM (.c (.ptr 10 0)) (renHeap (H.heap (x0 t a) z') ++ [(1, .ext a)]) v m) :
    MadeOk1 H g cond x0 := by
  intro t a hc ν p w R w0 Hs HK
  have n1 := hn t a hc
  have law : ∀ (μ κ : Nat → Nat) b, E.den μ b a = E.den κ b a := fun μ κ b => E.law μ κ b a (by rw [n1]; intro n hn; cases hn)
  obtain ⟨T, wr, LF, k, s, post, hrun, hpost⟩ := run t a hc
  have H1 : Sat w ((⟨[(1, .ext a)], 100⟩ : Mem E).hp.den (fun _ => ν p) * R) := by
    refine Hs.cast ?_
    simp only [SH.den, SO.den]
    rw [law ν (fun _ => ν p), Assn.mul_comm _ (1 : Assn), Assn.one_mul]
  refine (callN_ok namesOk mixed T wr LF k g _ _ s _ hrun.out (fun _ => ν p) w R w0 H1 HK).mono ?_
  rintro e w' ⟨v, m', s', ξ, hv, ag, _, he, hs, hk⟩
  obtain ⟨z', ho⟩ := hpost v m' hv
  obtain ⟨κ, ag2, hv2, hs⟩ := outM_sound ho hs
  have k1 : κ 1 = ν p := by rw [ag2 1 (by decide), ag 1 (show 1 < 100 by decide)]
  refine ⟨κ 10, ?_, ?_, hk⟩
  · rw [he, hv2]; rfl
  · unfold hidDen
    refine Sat.mk_ex_mul (κ ∘ renSelf) (Sat.mk_ex_mul z' ?_)
    rw [Assn.mul_assoc]
    refine Sat.mk_pure_mul ⟨rfl, fun i n hi => ?_⟩ ?_
    · cases i with
      | zero =>
        simp only [List.getElem?_cons_zero, Option.some.injEq] at hi
        subst hi
        exact k1
      | succ i => simp at hi
    · refine hs.cast ?_
      simp only [SH.den_append, SH.den, SO.den]
      rw [renHeap_den, k1, law κ ν, Assn.mul_comm _ (1 : Assn), Assn.one_mul, Assn.mul_assoc]
def madeS1 (g : FuncId) (cond : Int → E.X → Prop) (x0 : Int → E.X → H.X) (hok : MadeOk1 H g cond x0) : Smry Try.prog (E.hid H) where
  g := g
  run := fun args m K => match args with
    | [.c (.ptr p 0), .c (.int _ .u64 t _)] => match m.hp.get p with
      | some (.ext (HO.old a)) => cond t a ∧ bif newOk m (.ext (HO.obj [p] (x0 t a))) then K (.c (.ptr m.nx 0)) (withNew m (.ext (HO.obj [p] (x0 t a)))) else Stuck 794
      | _ => Stuck 795
    | _ => Stuck 796
  ok := fun args m K hr => by
    split at hr <;> try exact hr.elim
    rename_i p l t bd
    split at hr <;> try exact hr.elim
    rename_i a ha
    obtain ⟨hc, hk⟩ := hr
    cases hn : newOk m (SO.ext (HO.obj [p] (x0 t a)) : SO (E.hid H)) <;> rw [hn] at hk
    · exact hk.elim
    simp only [cond_true] at hk
    intro ν w R w0 Hs HK
    rw [SH.den_get ν ha, Assn.mul_assoc] at Hs
    refine (hok t a hc ν p w _ w0 Hs HK).mono ?_
    rintro e w' ⟨c, he, hs, hk'⟩
    refine ⟨_, _, upd ν m.nx c, hk, Agree.upd (Nat.le_refl _) _, Nat.le_succ _, ?_, ?_, hk'⟩
    · rw [he]
      simp [SV.den, SC.den, upd_same]
    · refine withNew_sat hn ?_
      refine hs.cast ?_
      rw [SH.den_get ν ha, Assn.mul_assoc]
      rfl
end
end Go.Proofs.Ytnfpkadepomjjaa

/- A claim: New, Step, Done, Place as contracts. -/
namespace Go.Proofs.Ytnfpkadepomjjaa
open Go Go.RowKit
set_option maxRecDepth 1000000
set_option maxHeartbeats 0
set_option maxRecDepth 100000
/-- What the executor leaves to be shown of (*roundelay/claim.Claim).Done, written out. -/
theorem clmD0_vc (tok seg slot g priv : Nat) (got : Bool) (e : Nat) (A : PA) : (callN Try.prog ([] : List (Smry Try.prog XP)) (fun _ _ => false) 100 20 43 [.c (.ptr 0 0)] ⟨clmHeap (⟨0, tok, seg, slot, g, priv, got, e⟩ : Clm) .mk ++ [(1, parO A)], 100⟩ (.nil) (fun v m _ => outM (.c (.boo false false)) (clmHeap (⟨0, tok, seg, slot, g, priv, got, e⟩ : Clm) .mk ++ [(1, parO A)]) v m)) = (
    false = false ∧ ((((0 : Nat) = (0 : Nat) ∧ True) ∧ True) ∧ (0 : Nat) = (0 : Nat) ∧ (↑tok : Int) = (↑tok : Int) ∧ (↑seg : Int) = (↑seg : Int) ∧ (↑slot : Int) = (↑slot : Int) ∧ (↑g :
    Int) = (↑g : Int) ∧ (↑priv : Int) = (↑priv : Int) ∧ got = got ∧ (↑e : Int) = (↑e : Int) ∧ True) ∧ A = A ∧ True) := by
  kernel_rfl
theorem clmD0_run (tok seg slot g priv : Nat) (got : Bool) (e : Nat) (A : PA) (hc : True) : Run (callN Try.prog ([] : List (Smry Try.prog XP)) (fun _ _ => false) 100 20 43 [.c (.ptr 0 0)] ⟨clmHeap (⟨0, tok, seg, slot, g, priv, got, e⟩ : Clm) .mk ++ [(1, parO A)], 100⟩ (.nil) (fun v m _ => outM (.c (.boo false false)) (clmHeap (⟨0, tok, seg, slot, g, priv, got, e⟩ : Clm) .mk ++ [(1, parO A)]) v m)) := by
  constructor
  rw [clmD0_vc]
  repeat' first
    | with_reducible apply And.intro
    | with_reducible exact trivial
    | with_reducible exact fun _ h => h
    | with_reducible exact Eq.refl _
    | (refine fun (K : KO XP) => ?_; simp only [eq_self, true_and, and_true, imp_self, implies_true]; done)
    | (refine fun (K : KO XP) => ?_; simp only [eq_self, true_and, and_true, imp_self, implies_true]; exact id)
    | (refine fun (K : KO XP) => ?_; simp only [eq_self, true_and, and_true, and_imp, imp_self, implies_true]; intros; simp_all only [and_self, imp_self, implies_true]; done)
    | (intro (K : KO XP); simp only [and_imp]; intros; repeat' first | with_reducible apply And.intro | with_reducible exact trivial | with_reducible exact Eq.refl _ | with_reducible assumption)
    | intro _

  all_goals first
    | rfl
    | (rename_i h; simp_all)
/-- What the executor leaves to be shown of (*roundelay/claim.Claim).Done, written out. -/
theorem clmD1_vc (tok seg slot g priv : Nat) (got : Bool) (e : Nat) (A : PA) : (callN Try.prog ([] : List (Smry Try.prog XP)) (fun _ _ => false) 100 20 43 [.c (.ptr 0 0)] ⟨clmHeap (⟨1, tok, seg, slot, g, priv, got, e⟩ : Clm) .mk ++ [(1, parO A)], 100⟩ (.nil) (fun v m _ => outM (.c (.boo false false)) (clmHeap (⟨1, tok, seg, slot, g, priv, got, e⟩ : Clm) .mk ++ [(1, parO A)]) v m)) = (
    false = false ∧ ((((0 : Nat) = (0 : Nat) ∧ True) ∧ True) ∧ (0 : Nat) = (0 : Nat) ∧ (↑tok : Int) = (↑tok : Int) ∧ (↑seg : Int) = (↑seg : Int) ∧ (↑slot : Int) = (↑slot : Int) ∧ (↑g :
    Int) = (↑g : Int) ∧ (↑priv : Int) = (↑priv : Int) ∧ got = got ∧ (↑e : Int) = (↑e : Int) ∧ True) ∧ A = A ∧ True) := by
  kernel_rfl
theorem clmD1_run (tok seg slot g priv : Nat) (got : Bool) (e : Nat) (A : PA) (hc : True) : Run (callN Try.prog ([] : List (Smry Try.prog XP)) (fun _ _ => false) 100 20 43 [.c (.ptr 0 0)] ⟨clmHeap (⟨1, tok, seg, slot, g, priv, got, e⟩ : Clm) .mk ++ [(1, parO A)], 100⟩ (.nil) (fun v m _ => outM (.c (.boo false false)) (clmHeap (⟨1, tok, seg, slot, g, priv, got, e⟩ : Clm) .mk ++ [(1, parO A)]) v m)) := by
  constructor
  rw [clmD1_vc]
  repeat' first
    | with_reducible apply And.intro
    | with_reducible exact trivial
    | with_reducible exact fun _ h => h
    | with_reducible exact Eq.refl _
    | (refine fun (K : KO XP) => ?_; simp only [eq_self, true_and, and_true, imp_self, implies_true]; done)
    | (refine fun (K : KO XP) => ?_; simp only [eq_self, true_and, and_true, imp_self, implies_true]; exact id)
    | (refine fun (K : KO XP) => ?_; simp only [eq_self, true_and, and_true, and_imp, imp_self, implies_true]; intros; simp_all only [and_self, imp_self, implies_true]; done)
    | (intro (K : KO XP); simp only [and_imp]; intros; repeat' first | with_reducible apply And.intro | with_reducible exact trivial | with_reducible exact Eq.refl _ | with_reducible assumption)
    | intro _

  all_goals first
    | rfl
    | (rename_i h; simp_all)
/-- What the executor leaves to be shown of (*roundelay/claim.Claim).Done, written out. -/
theorem clmD2_vc (tok seg slot g priv : Nat) (got : Bool) (e : Nat) (A : PA) : (callN Try.prog ([] : List (Smry Try.prog XP)) (fun _ _ => false) 100 20 43 [.c (.ptr 0 0)] ⟨clmHeap (⟨2, tok, seg, slot, g, priv, got, e⟩ : Clm) .mk ++ [(1, parO A)], 100⟩ (.nil) (fun v m _ => outM (.c (.boo false false)) (clmHeap (⟨2, tok, seg, slot, g, priv, got, e⟩ : Clm) .mk ++ [(1, parO A)]) v m)) = (
    false = false ∧ ((((0 : Nat) = (0 : Nat) ∧ True) ∧ True) ∧ (0 : Nat) = (0 : Nat) ∧ (↑tok : Int) = (↑tok : Int) ∧ (↑seg : Int) = (↑seg : Int) ∧ (↑slot : Int) = (↑slot : Int) ∧ (↑g :
    Int) = (↑g : Int) ∧ (↑priv : Int) = (↑priv : Int) ∧ got = got ∧ (↑e : Int) = (↑e : Int) ∧ True) ∧ A = A ∧ True) := by
  kernel_rfl
theorem clmD2_run (tok seg slot g priv : Nat) (got : Bool) (e : Nat) (A : PA) (hc : True) : Run (callN Try.prog ([] : List (Smry Try.prog XP)) (fun _ _ => false) 100 20 43 [.c (.ptr 0 0)] ⟨clmHeap (⟨2, tok, seg, slot, g, priv, got, e⟩ : Clm) .mk ++ [(1, parO A)], 100⟩ (.nil) (fun v m _ => outM (.c (.boo false false)) (clmHeap (⟨2, tok, seg, slot, g, priv, got, e⟩ : Clm) .mk ++ [(1, parO A)]) v m)) := by
  constructor
  rw [clmD2_vc]
  repeat' first
    | with_reducible apply And.intro
    | with_reducible exact trivial
    | with_reducible exact fun _ h => h
    | with_reducible exact Eq.refl _
    | (refine fun (K : KO XP) => ?_; simp only [eq_self, true_and, and_true, imp_self, implies_true]; done)
    | (refine fun (K : KO XP) => ?_; simp only [eq_self, true_and, and_true, imp_self, implies_true]; exact id)
    | (refine fun (K : KO XP) => ?_; simp only [eq_self, true_and, and_true, and_imp, imp_self, implies_true]; intros; simp_all only [and_self, imp_self, implies_true]; done)
    | (intro (K : KO XP); simp only [and_imp]; intros; repeat' first | with_reducible apply And.intro | with_reducible exact trivial | with_reducible exact Eq.refl _ | with_reducible assumption)
    | intro _

  all_goals first
    | rfl
    | (rename_i h; simp_all)
/-- What the executor leaves to be shown of (*roundelay/claim.Claim).Done, written out. -/
theorem clmD3_vc (tok seg slot g priv : Nat) (got : Bool) (e : Nat) (A : PA) : (callN Try.prog ([] : List (Smry Try.prog XP)) (fun _ _ => false) 100 20 43 [.c (.ptr 0 0)] ⟨clmHeap (⟨3, tok, seg, slot, g, priv, got, e⟩ : Clm) .mk ++ [(1, parO A)], 100⟩ (.nil) (fun v m _ => outM (.c (.boo false false)) (clmHeap (⟨3, tok, seg, slot, g, priv, got, e⟩ : Clm) .mk ++ [(1, parO A)]) v m)) = (
    false = false ∧ ((((0 : Nat) = (0 : Nat) ∧ True) ∧ True) ∧ (0 : Nat) = (0 : Nat) ∧ (↑tok : Int) = (↑tok : Int) ∧ (↑seg : Int) = (↑seg : Int) ∧ (↑slot : Int) = (↑slot : Int) ∧ (↑g :
    Int) = (↑g : Int) ∧ (↑priv : Int) = (↑priv : Int) ∧ got = got ∧ (↑e : Int) = (↑e : Int) ∧ True) ∧ A = A ∧ True) := by
  kernel_rfl
theorem clmD3_run (tok seg slot g priv : Nat) (got : Bool) (e : Nat) (A : PA) (hc : True) : Run (callN Try.prog ([] : List (Smry Try.prog XP)) (fun _ _ => false) 100 20 43 [.c (.ptr 0 0)] ⟨clmHeap (⟨3, tok, seg, slot, g, priv, got, e⟩ : Clm) .mk ++ [(1, parO A)], 100⟩ (.nil) (fun v m _ => outM (.c (.boo false false)) (clmHeap (⟨3, tok, seg, slot, g, priv, got, e⟩ : Clm) .mk ++ [(1, parO A)]) v m)) := by
  constructor
  rw [clmD3_vc]
  repeat' first
    | with_reducible apply And.intro
    | with_reducible exact trivial
    | with_reducible exact fun _ h => h
    | with_reducible exact Eq.refl _
    | (refine fun (K : KO XP) => ?_; simp only [eq_self, true_and, and_true, imp_self, implies_true]; done)
    | (refine fun (K : KO XP) => ?_; simp only [eq_self, true_and, and_true, imp_self, implies_true]; exact id)
    | (refine fun (K : KO XP) => ?_; simp only [eq_self, true_and, and_true, and_imp, imp_self, implies_true]; intros; simp_all only [and_self, imp_self, implies_true]; done)
    | (intro (K : KO XP); simp only [and_imp]; intros; repeat' first | with_reducible apply And.intro | with_reducible exact trivial | with_reducible exact Eq.refl _ | with_reducible assumption)
    | intro _

  all_goals first
    | rfl
    | (rename_i h; simp_all)
/-- What the executor leaves to be shown of (*roundelay/claim.Claim).Done, written out. -/
theorem clmD4_vc (tok seg slot g priv : Nat) (got : Bool) (e : Nat) (A : PA) : (callN Try.prog ([] : List (Smry Try.prog XP)) (fun _ _ => false) 100 20 43 [.c (.ptr 0 0)] ⟨clmHeap (⟨4, tok, seg, slot, g, priv, got, e⟩ : Clm) .mk ++ [(1, parO A)], 100⟩ (.nil) (fun v m _ => outM (.c (.boo false false)) (clmHeap (⟨4, tok, seg, slot, g, priv, got, e⟩ : Clm) .mk ++ [(1, parO A)]) v m)) = (
    false = false ∧ ((((0 : Nat) = (0 : Nat) ∧ True) ∧ True) ∧ (0 : Nat) = (0 : Nat) ∧ (↑tok : Int) = (↑tok : Int) ∧ (↑seg : Int) = (↑seg : Int) ∧ (↑slot : Int) = (↑slot : Int) ∧ (↑g :
    Int) = (↑g : Int) ∧ (↑priv : Int) = (↑priv : Int) ∧ got = got ∧ (↑e : Int) = (↑e : Int) ∧ True) ∧ A = A ∧ True) := by
  kernel_rfl
theorem clmD4_run (tok seg slot g priv : Nat) (got : Bool) (e : Nat) (A : PA) (hc : True) : Run (callN Try.prog ([] : List (Smry Try.prog XP)) (fun _ _ => false) 100 20 43 [.c (.ptr 0 0)] ⟨clmHeap (⟨4, tok, seg, slot, g, priv, got, e⟩ : Clm) .mk ++ [(1, parO A)], 100⟩ (.nil) (fun v m _ => outM (.c (.boo false false)) (clmHeap (⟨4, tok, seg, slot, g, priv, got, e⟩ : Clm) .mk ++ [(1, parO A)]) v m)) := by
  constructor
  rw [clmD4_vc]
  repeat' first
    | with_reducible apply And.intro
    | with_reducible exact trivial
    | with_reducible exact fun _ h => h
    | with_reducible exact Eq.refl _
    | (refine fun (K : KO XP) => ?_; simp only [eq_self, true_and, and_true, imp_self, implies_true]; done)
    | (refine fun (K : KO XP) => ?_; simp only [eq_self, true_and, and_true, imp_self, implies_true]; exact id)
    | (refine fun (K : KO XP) => ?_; simp only [eq_self, true_and, and_true, and_imp, imp_self, implies_true]; intros; simp_all only [and_self, imp_self, implies_true]; done)
    | (intro (K : KO XP); simp only [and_imp]; intros; repeat' first | with_reducible apply And.intro | with_reducible exact trivial | with_reducible exact Eq.refl _ | with_reducible assumption)
    | intro _

  all_goals first
    | rfl
    | (rename_i h; simp_all)
/-- What the executor leaves to be shown of (*roundelay/claim.Claim).Done, written out. -/
theorem clmD5_vc (tok seg slot g priv : Nat) (got : Bool) (e : Nat) (A : PA) : (callN Try.prog ([] : List (Smry Try.prog XP)) (fun _ _ => false) 100 20 43 [.c (.ptr 0 0)] ⟨clmHeap (⟨5, tok, seg, slot, g, priv, got, e⟩ : Clm) .mk ++ [(1, parO A)], 100⟩ (.nil) (fun v m _ => outM (.c (.boo false true)) (clmHeap (⟨5, tok, seg, slot, g, priv, got, e⟩ : Clm) .mk ++ [(1, parO A)]) v m)) = (
    true = true ∧ (Value.nilFunc = Value.nilFunc ∧ (0 : Nat) = (0 : Nat) ∧ (↑tok : Int) = (↑tok : Int) ∧ (↑seg : Int) = (↑seg : Int) ∧ (↑slot : Int) = (↑slot : Int) ∧ (↑g : Int) = (↑g :
    Int) ∧ (↑priv : Int) = (↑priv : Int) ∧ got = got ∧ (↑e : Int) = (↑e : Int) ∧ True) ∧ A = A ∧ True) := by
  kernel_rfl
theorem clmD5_run (tok seg slot g priv : Nat) (got : Bool) (e : Nat) (A : PA) (hc : True) : Run (callN Try.prog ([] : List (Smry Try.prog XP)) (fun _ _ => false) 100 20 43 [.c (.ptr 0 0)] ⟨clmHeap (⟨5, tok, seg, slot, g, priv, got, e⟩ : Clm) .mk ++ [(1, parO A)], 100⟩ (.nil) (fun v m _ => outM (.c (.boo false true)) (clmHeap (⟨5, tok, seg, slot, g, priv, got, e⟩ : Clm) .mk ++ [(1, parO A)]) v m)) := by
  constructor
  rw [clmD5_vc]
  repeat' first
    | with_reducible apply And.intro
    | with_reducible exact trivial
    | with_reducible exact fun _ h => h
    | with_reducible exact Eq.refl _
    | (refine fun (K : KO XP) => ?_; simp only [eq_self, true_and, and_true, imp_self, implies_true]; done)
    | (refine fun (K : KO XP) => ?_; simp only [eq_self, true_and, and_true, imp_self, implies_true]; exact id)
    | (refine fun (K : KO XP) => ?_; simp only [eq_self, true_and, and_true, and_imp, imp_self, implies_true]; intros; simp_all only [and_self, imp_self, implies_true]; done)
    | (intro (K : KO XP); simp only [and_imp]; intros; repeat' first | with_reducible apply And.intro | with_reducible exact trivial | with_reducible exact Eq.refl _ | with_reducible assumption)
    | intro _

  all_goals first
    | rfl
    | (rename_i h; simp_all)
/-- What the executor leaves to be shown of (*roundelay/claim.Claim).Place, written out. -/
theorem clmP0_vc (tok seg slot g priv : Nat) (got : Bool) (e : Nat) (A : PA) : (callN Try.prog ([] : List (Smry Try.prog XP)) (fun _ _ => false) 100 20 44 [.c (.ptr 0 0)] ⟨clmHeap (⟨0, tok, seg, slot, g, priv, got, e⟩ : Clm) .mk ++ [(1, parO A)], 100⟩ (bN 3) (fun v m _ => outM (.tup [(true, [.int false .u64 ((if got = true then seg else 0 : Nat) : Int), .int false .i64 ((if got = true then slot else 0 : Nat) : Int)]), (false, [.boo false got])]) (clmHeap (⟨0, tok, seg, slot, g, priv, got, e⟩ : Clm) .mk ++ [(1, parO A)]) v m)) = (
    ((!got) = true → (↑(if got = true then seg else (0 : Nat)) : Int) = (0 : Int) ∧ (↑(if got = true then slot else (0 : Nat)) : Int) = (0 : Int) ∧ got = false ∧ ((((0 : Nat) = (0 :
    Nat) ∧ True) ∧ True) ∧ (0 : Nat) = (0 : Nat) ∧ (↑tok : Int) = (↑tok : Int) ∧ (↑seg : Int) = (↑seg : Int) ∧ (↑slot : Int) = (↑slot : Int) ∧ (↑g : Int) = (↑g : Int) ∧ (↑priv : Int) =
    (↑priv : Int) ∧ got = got ∧ (↑e : Int) = (↑e : Int) ∧ True) ∧ A = A ∧ True) ∧ ((!got) = false → (↑(if got = true then seg else (0 : Nat)) : Int) = (↑seg : Int) ∧ (↑(if got = true
    then slot else (0 : Nat)) : Int) = (↑slot : Int) ∧ got = true ∧ ((((0 : Nat) = (0 : Nat) ∧ True) ∧ True) ∧ (0 : Nat) = (0 : Nat) ∧ (↑tok : Int) = (↑tok : Int) ∧ (↑seg : Int) = (↑seg
    : Int) ∧ (↑slot : Int) = (↑slot : Int) ∧ (↑g : Int) = (↑g : Int) ∧ (↑priv : Int) = (↑priv : Int) ∧ got = got ∧ (↑e : Int) = (↑e : Int) ∧ True) ∧ A = A ∧ True)) := by
  kernel_rfl
theorem clmP0_run (tok seg slot g priv : Nat) (got : Bool) (e : Nat) (A : PA) (hc : True) : Run (callN Try.prog ([] : List (Smry Try.prog XP)) (fun _ _ => false) 100 20 44 [.c (.ptr 0 0)] ⟨clmHeap (⟨0, tok, seg, slot, g, priv, got, e⟩ : Clm) .mk ++ [(1, parO A)], 100⟩ (bN 3) (fun v m _ => outM (.tup [(true, [.int false .u64 ((if got = true then seg else 0 : Nat) : Int), .int false .i64 ((if got = true then slot else 0 : Nat) : Int)]), (false, [.boo false got])]) (clmHeap (⟨0, tok, seg, slot, g, priv, got, e⟩ : Clm) .mk ++ [(1, parO A)]) v m)) := by
  constructor
  rw [clmP0_vc]
  repeat' first
    | with_reducible apply And.intro
    | with_reducible exact trivial
    | with_reducible exact fun _ h => h
    | with_reducible exact Eq.refl _
    | (refine fun (K : KO XP) => ?_; simp only [eq_self, true_and, and_true, imp_self, implies_true]; done)
    | (refine fun (K : KO XP) => ?_; simp only [eq_self, true_and, and_true, imp_self, implies_true]; exact id)
    | (refine fun (K : KO XP) => ?_; simp only [eq_self, true_and, and_true, and_imp, imp_self, implies_true]; intros; simp_all only [and_self, imp_self, implies_true]; done)
    | (intro (K : KO XP); simp only [and_imp]; intros; repeat' first | with_reducible apply And.intro | with_reducible exact trivial | with_reducible exact Eq.refl _ | with_reducible assumption)
    | intro _

  all_goals first
    | rfl
    | (rename_i h; simp_all)
/-- What the executor leaves to be shown of (*roundelay/claim.Claim).Place, written out. -/
theorem clmP1_vc (tok seg slot g priv : Nat) (got : Bool) (e : Nat) (A : PA) : (callN Try.prog ([] : List (Smry Try.prog XP)) (fun _ _ => false) 100 20 44 [.c (.ptr 0 0)] ⟨clmHeap (⟨1, tok, seg, slot, g, priv, got, e⟩ : Clm) .mk ++ [(1, parO A)], 100⟩ (bN 3) (fun v m _ => outM (.tup [(true, [.int false .u64 ((if got = true then seg else 0 : Nat) : Int), .int false .i64 ((if got = true then slot else 0 : Nat) : Int)]), (false, [.boo false got])]) (clmHeap (⟨1, tok, seg, slot, g, priv, got, e⟩ : Clm) .mk ++ [(1, parO A)]) v m)) = (
    ((!got) = true → (↑(if got = true then seg else (0 : Nat)) : Int) = (0 : Int) ∧ (↑(if got = true then slot else (0 : Nat)) : Int) = (0 : Int) ∧ got = false ∧ ((((0 : Nat) = (0 :
    Nat) ∧ True) ∧ True) ∧ (0 : Nat) = (0 : Nat) ∧ (↑tok : Int) = (↑tok : Int) ∧ (↑seg : Int) = (↑seg : Int) ∧ (↑slot : Int) = (↑slot : Int) ∧ (↑g : Int) = (↑g : Int) ∧ (↑priv : Int) =
    (↑priv : Int) ∧ got = got ∧ (↑e : Int) = (↑e : Int) ∧ True) ∧ A = A ∧ True) ∧ ((!got) = false → (↑(if got = true then seg else (0 : Nat)) : Int) = (↑seg : Int) ∧ (↑(if got = true
    then slot else (0 : Nat)) : Int) = (↑slot : Int) ∧ got = true ∧ ((((0 : Nat) = (0 : Nat) ∧ True) ∧ True) ∧ (0 : Nat) = (0 : Nat) ∧ (↑tok : Int) = (↑tok : Int) ∧ (↑seg : Int) = (↑seg
    : Int) ∧ (↑slot : Int) = (↑slot : Int) ∧ (↑g : Int) = (↑g : Int) ∧ (↑priv : Int) = (↑priv : Int) ∧ got = got ∧ (↑e : Int) = (↑e : Int) ∧ True) ∧ A = A ∧ True)) := by
  kernel_rfl
theorem clmP1_run (tok seg slot g priv : Nat) (got : Bool) (e : Nat) (A : PA) (hc : True) : Run (callN Try.prog ([] : List (Smry Try.prog XP)) (fun _ _ => false) 100 20 44 [.c (.ptr 0 0)] ⟨clmHeap (⟨1, tok, seg, slot, g, priv, got, e⟩ : Clm) .mk ++ [(1, parO A)], 100⟩ (bN 3) (fun v m _ => outM (.tup [(true, [.int false .u64 ((if got = true then seg else 0 : Nat) : Int), .int false .i64 ((if got = true then slot else 0 : Nat) : Int)]), (false, [.boo false got])]) (clmHeap (⟨1, tok, seg, slot, g, priv, got, e⟩ : Clm) .mk ++ [(1, parO A)]) v m)) := by
  constructor
  rw [clmP1_vc]
  repeat' first
    | with_reducible apply And.intro
    | with_reducible exact trivial
    | with_reducible exact fun _ h => h
    | with_reducible exact Eq.refl _
    | (refine fun (K : KO XP) => ?_; simp only [eq_self, true_and, and_true, imp_self, implies_true]; done)
    | (refine fun (K : KO XP) => ?_; simp only [eq_self, true_and, and_true, imp_self, implies_true]; exact id)
    | (refine fun (K : KO XP) => ?_; simp only [eq_self, true_and, and_true, and_imp, imp_self, implies_true]; intros; simp_all only [and_self, imp_self, implies_true]; done)
    | (intro (K : KO XP); simp only [and_imp]; intros; repeat' first | with_reducible apply And.intro | with_reducible exact trivial | with_reducible exact Eq.refl _ | with_reducible assumption)
    | intro _

  all_goals first
    | rfl
    | (rename_i h; simp_all)
/-- What the executor leaves to be shown of (*roundelay/claim.Claim).Place, written out. -/
theorem clmP2_vc (tok seg slot g priv : Nat) (got : Bool) (e : Nat) (A : PA) : (callN Try.prog ([] : List (Smry Try.prog XP)) (fun _ _ => false) 100 20 44 [.c (.ptr 0 0)] ⟨clmHeap (⟨2, tok, seg, slot, g, priv, got, e⟩ : Clm) .mk ++ [(1, parO A)], 100⟩ (bN 3) (fun v m _ => outM (.tup [(true, [.int false .u64 ((if got = true then seg else 0 : Nat) : Int), .int false .i64 ((if got = true then slot else 0 : Nat) : Int)]), (false, [.boo false got])]) (clmHeap (⟨2, tok, seg, slot, g, priv, got, e⟩ : Clm) .mk ++ [(1, parO A)]) v m)) = (
    ((!got) = true → (↑(if got = true then seg else (0 : Nat)) : Int) = (0 : Int) ∧ (↑(if got = true then slot else (0 : Nat)) : Int) = (0 : Int) ∧ got = false ∧ ((((0 : Nat) = (0 :
    Nat) ∧ True) ∧ True) ∧ (0 : Nat) = (0 : Nat) ∧ (↑tok : Int) = (↑tok : Int) ∧ (↑seg : Int) = (↑seg : Int) ∧ (↑slot : Int) = (↑slot : Int) ∧ (↑g : Int) = (↑g : Int) ∧ (↑priv : Int) =
    (↑priv : Int) ∧ got = got ∧ (↑e : Int) = (↑e : Int) ∧ True) ∧ A = A ∧ True) ∧ ((!got) = false → (↑(if got = true then seg else (0 : Nat)) : Int) = (↑seg : Int) ∧ (↑(if got = true
    then slot else (0 : Nat)) : Int) = (↑slot : Int) ∧ got = true ∧ ((((0 : Nat) = (0 : Nat) ∧ True) ∧ True) ∧ (0 : Nat) = (0 : Nat) ∧ (↑tok : Int) = (↑tok : Int) ∧ (↑seg : Int) = (↑seg
    : Int) ∧ (↑slot : Int) = (↑slot : Int) ∧ (↑g : Int) = (↑g : Int) ∧ (↑priv : Int) = (↑priv : Int) ∧ got = got ∧ (↑e : Int) = (↑e : Int) ∧ True) ∧ A = A ∧ True)) := by
  kernel_rfl
theorem clmP2_run (tok seg slot g priv : Nat) (got : Bool) (e : Nat) (A : PA) (hc : True) : Run (callN Try.prog ([] : List (Smry Try.prog XP)) (fun _ _ => false) 100 20 44 [.c (.ptr 0 0)] ⟨clmHeap (⟨2, tok, seg, slot, g, priv, got, e⟩ : Clm) .mk ++ [(1, parO A)], 100⟩ (bN 3) (fun v m _ => outM (.tup [(true, [.int false .u64 ((if got = true then seg else 0 : Nat) : Int), .int false .i64 ((if got = true then slot else 0 : Nat) : Int)]), (false, [.boo false got])]) (clmHeap (⟨2, tok, seg, slot, g, priv, got, e⟩ : Clm) .mk ++ [(1, parO A)]) v m)) := by
  constructor
  rw [clmP2_vc]
  repeat' first
    | with_reducible apply And.intro
    | with_reducible exact trivial
    | with_reducible exact fun _ h => h
    | with_reducible exact Eq.refl _
    | (refine fun (K : KO XP) => ?_; simp only [eq_self, true_and, and_true, imp_self, implies_true]; done)
    | (refine fun (K : KO XP) => ?_; simp only [eq_self, true_and, and_true, imp_self, implies_true]; exact id)
    | (refine fun (K : KO XP) => ?_; simp only [eq_self, true_and, and_true, and_imp, imp_self, implies_true]; intros; simp_all only [and_self, imp_self, implies_true]; done)
    | (intro (K : KO XP); simp only [and_imp]; intros; repeat' first | with_reducible apply And.intro | with_reducible exact trivial | with_reducible exact Eq.refl _ | with_reducible assumption)
    | intro _

  all_goals first
    | rfl
    | (rename_i h; simp_all)
/-- What the executor leaves to be shown of (*roundelay/claim.Claim).Place, written out. -/
theorem clmP3_vc (tok seg slot g priv : Nat) (got : Bool) (e : Nat) (A : PA) : (callN Try.prog ([] : List (Smry Try.prog XP)) (fun _ _ => false) 100 20 44 [.c (.ptr 0 0)] ⟨clmHeap (⟨3, tok, seg, slot, g, priv, got, e⟩ : Clm) .mk ++ [(1, parO A)], 100⟩ (bN 3) (fun v m _ => outM (.tup [(true, [.int false .u64 ((if got = true then seg else 0 : Nat) : Int), .int false .i64 ((if got = true then slot else 0 : Nat) : Int)]), (false, [.boo false got])]) (clmHeap (⟨3, tok, seg, slot, g, priv, got, e⟩ : Clm) .mk ++ [(1, parO A)]) v m)) = (
    ((!got) = true → (↑(if got = true then seg else (0 : Nat)) : Int) = (0 : Int) ∧ (↑(if got = true then slot else (0 : Nat)) : Int) = (0 : Int) ∧ got = false ∧ ((((0 : Nat) = (0 :
    Nat) ∧ True) ∧ True) ∧ (0 : Nat) = (0 : Nat) ∧ (↑tok : Int) = (↑tok : Int) ∧ (↑seg : Int) = (↑seg : Int) ∧ (↑slot : Int) = (↑slot : Int) ∧ (↑g : Int) = (↑g : Int) ∧ (↑priv : Int) =
    (↑priv : Int) ∧ got = got ∧ (↑e : Int) = (↑e : Int) ∧ True) ∧ A = A ∧ True) ∧ ((!got) = false → (↑(if got = true then seg else (0 : Nat)) : Int) = (↑seg : Int) ∧ (↑(if got = true
    then slot else (0 : Nat)) : Int) = (↑slot : Int) ∧ got = true ∧ ((((0 : Nat) = (0 : Nat) ∧ True) ∧ True) ∧ (0 : Nat) = (0 : Nat) ∧ (↑tok : Int) = (↑tok : Int) ∧ (↑seg : Int) = (↑seg
    : Int) ∧ (↑slot : Int) = (↑slot : Int) ∧ (↑g : Int) = (↑g : Int) ∧ (↑priv : Int) = (↑priv : Int) ∧ got = got ∧ (↑e : Int) = (↑e : Int) ∧ True) ∧ A = A ∧ True)) := by
  kernel_rfl
theorem clmP3_run (tok seg slot g priv : Nat) (got : Bool) (e : Nat) (A : PA) (hc : True) : Run (callN Try.prog ([] : List (Smry Try.prog XP)) (fun _ _ => false) 100 20 44 [.c (.ptr 0 0)] ⟨clmHeap (⟨3, tok, seg, slot, g, priv, got, e⟩ : Clm) .mk ++ [(1, parO A)], 100⟩ (bN 3) (fun v m _ => outM (.tup [(true, [.int false .u64 ((if got = true then seg else 0 : Nat) : Int), .int false .i64 ((if got = true then slot else 0 : Nat) : Int)]), (false, [.boo false got])]) (clmHeap (⟨3, tok, seg, slot, g, priv, got, e⟩ : Clm) .mk ++ [(1, parO A)]) v m)) := by
  constructor
  rw [clmP3_vc]
  repeat' first
    | with_reducible apply And.intro
    | with_reducible exact trivial
    | with_reducible exact fun _ h => h
    | with_reducible exact Eq.refl _
    | (refine fun (K : KO XP) => ?_; simp only [eq_self, true_and, and_true, imp_self, implies_true]; done)
    | (refine fun (K : KO XP) => ?_; simp only [eq_self, true_and, and_true, imp_self, implies_true]; exact id)
    | (refine fun (K : KO XP) => ?_; simp only [eq_self, true_and, and_true, and_imp, imp_self, implies_true]; intros; simp_all only [and_self, imp_self, implies_true]; done)
    | (intro (K : KO XP); simp only [and_imp]; intros; repeat' first | with_reducible apply And.intro | with_reducible exact trivial | with_reducible exact Eq.refl _ | with_reducible assumption)
    | intro _

  all_goals first
    | rfl
    | (rename_i h; simp_all)
/-- What the executor leaves to be shown of (*roundelay/claim.Claim).Place, written out. -/
theorem clmP4_vc (tok seg slot g priv : Nat) (got : Bool) (e : Nat) (A : PA) : (callN Try.prog ([] : List (Smry Try.prog XP)) (fun _ _ => false) 100 20 44 [.c (.ptr 0 0)] ⟨clmHeap (⟨4, tok, seg, slot, g, priv, got, e⟩ : Clm) .mk ++ [(1, parO A)], 100⟩ (bN 3) (fun v m _ => outM (.tup [(true, [.int false .u64 ((if got = true then seg else 0 : Nat) : Int), .int false .i64 ((if got = true then slot else 0 : Nat) : Int)]), (false, [.boo false got])]) (clmHeap (⟨4, tok, seg, slot, g, priv, got, e⟩ : Clm) .mk ++ [(1, parO A)]) v m)) = (
    ((!got) = true → (↑(if got = true then seg else (0 : Nat)) : Int) = (0 : Int) ∧ (↑(if got = true then slot else (0 : Nat)) : Int) = (0 : Int) ∧ got = false ∧ ((((0 : Nat) = (0 :
    Nat) ∧ True) ∧ True) ∧ (0 : Nat) = (0 : Nat) ∧ (↑tok : Int) = (↑tok : Int) ∧ (↑seg : Int) = (↑seg : Int) ∧ (↑slot : Int) = (↑slot : Int) ∧ (↑g : Int) = (↑g : Int) ∧ (↑priv : Int) =
    (↑priv : Int) ∧ got = got ∧ (↑e : Int) = (↑e : Int) ∧ True) ∧ A = A ∧ True) ∧ ((!got) = false → (↑(if got = true then seg else (0 : Nat)) : Int) = (↑seg : Int) ∧ (↑(if got = true
    then slot else (0 : Nat)) : Int) = (↑slot : Int) ∧ got = true ∧ ((((0 : Nat) = (0 : Nat) ∧ True) ∧ True) ∧ (0 : Nat) = (0 : Nat) ∧ (↑tok : Int) = (↑tok : Int) ∧ (↑seg : Int) = (↑seg
    : Int) ∧ (↑slot : Int) = (↑slot : Int) ∧ (↑g : Int) = (↑g : Int) ∧ (↑priv : Int) = (↑priv : Int) ∧ got = got ∧ (↑e : Int) = (↑e : Int) ∧ True) ∧ A = A ∧ True)) := by
  kernel_rfl
theorem clmP4_run (tok seg slot g priv : Nat) (got : Bool) (e : Nat) (A : PA) (hc : True) : Run (callN Try.prog ([] : List (Smry Try.prog XP)) (fun _ _ => false) 100 20 44 [.c (.ptr 0 0)] ⟨clmHeap (⟨4, tok, seg, slot, g, priv, got, e⟩ : Clm) .mk ++ [(1, parO A)], 100⟩ (bN 3) (fun v m _ => outM (.tup [(true, [.int false .u64 ((if got = true then seg else 0 : Nat) : Int), .int false .i64 ((if got = true then slot else 0 : Nat) : Int)]), (false, [.boo false got])]) (clmHeap (⟨4, tok, seg, slot, g, priv, got, e⟩ : Clm) .mk ++ [(1, parO A)]) v m)) := by
  constructor
  rw [clmP4_vc]
  repeat' first
    | with_reducible apply And.intro
    | with_reducible exact trivial
    | with_reducible exact fun _ h => h
    | with_reducible exact Eq.refl _
    | (refine fun (K : KO XP) => ?_; simp only [eq_self, true_and, and_true, imp_self, implies_true]; done)
    | (refine fun (K : KO XP) => ?_; simp only [eq_self, true_and, and_true, imp_self, implies_true]; exact id)
    | (refine fun (K : KO XP) => ?_; simp only [eq_self, true_and, and_true, and_imp, imp_self, implies_true]; intros; simp_all only [and_self, imp_self, implies_true]; done)
    | (intro (K : KO XP); simp only [and_imp]; intros; repeat' first | with_reducible apply And.intro | with_reducible exact trivial | with_reducible exact Eq.refl _ | with_reducible assumption)
    | intro _

  all_goals first
    | rfl
    | (rename_i h; simp_all)
/-- What the executor leaves to be shown of (*roundelay/claim.Claim).Place, written out. -/
theorem clmP5_vc (tok seg slot g priv : Nat) (got : Bool) (e : Nat) (A : PA) : (callN Try.prog ([] : List (Smry Try.prog XP)) (fun _ _ => false) 100 20 44 [.c (.ptr 0 0)] ⟨clmHeap (⟨5, tok, seg, slot, g, priv, got, e⟩ : Clm) .mk ++ [(1, parO A)], 100⟩ (bN 3) (fun v m _ => outM (.tup [(true, [.int false .u64 ((if got = true then seg else 0 : Nat) : Int), .int false .i64 ((if got = true then slot else 0 : Nat) : Int)]), (false, [.boo false got])]) (clmHeap (⟨5, tok, seg, slot, g, priv, got, e⟩ : Clm) .mk ++ [(1, parO A)]) v m)) = (
    ((!got) = true → (↑(if got = true then seg else (0 : Nat)) : Int) = (0 : Int) ∧ (↑(if got = true then slot else (0 : Nat)) : Int) = (0 : Int) ∧ got = false ∧ (Value.nilFunc =
    Value.nilFunc ∧ (0 : Nat) = (0 : Nat) ∧ (↑tok : Int) = (↑tok : Int) ∧ (↑seg : Int) = (↑seg : Int) ∧ (↑slot : Int) = (↑slot : Int) ∧ (↑g : Int) = (↑g : Int) ∧ (↑priv : Int) = (↑priv
    : Int) ∧ got = got ∧ (↑e : Int) = (↑e : Int) ∧ True) ∧ A = A ∧ True) ∧ ((!got) = false → (↑(if got = true then seg else (0 : Nat)) : Int) = (↑seg : Int) ∧ (↑(if got = true then slot
    else (0 : Nat)) : Int) = (↑slot : Int) ∧ got = true ∧ (Value.nilFunc = Value.nilFunc ∧ (0 : Nat) = (0 : Nat) ∧ (↑tok : Int) = (↑tok : Int) ∧ (↑seg : Int) = (↑seg : Int) ∧ (↑slot :
    Int) = (↑slot : Int) ∧ (↑g : Int) = (↑g : Int) ∧ (↑priv : Int) = (↑priv : Int) ∧ got = got ∧ (↑e : Int) = (↑e : Int) ∧ True) ∧ A = A ∧ True)) := by
  kernel_rfl
theorem clmP5_run (tok seg slot g priv : Nat) (got : Bool) (e : Nat) (A : PA) (hc : True) : Run (callN Try.prog ([] : List (Smry Try.prog XP)) (fun _ _ => false) 100 20 44 [.c (.ptr 0 0)] ⟨clmHeap (⟨5, tok, seg, slot, g, priv, got, e⟩ : Clm) .mk ++ [(1, parO A)], 100⟩ (bN 3) (fun v m _ => outM (.tup [(true, [.int false .u64 ((if got = true then seg else 0 : Nat) : Int), .int false .i64 ((if got = true then slot else 0 : Nat) : Int)]), (false, [.boo false got])]) (clmHeap (⟨5, tok, seg, slot, g, priv, got, e⟩ : Clm) .mk ++ [(1, parO A)]) v m)) := by
  constructor
  rw [clmP5_vc]
  repeat' first
    | with_reducible apply And.intro
    | with_reducible exact trivial
    | with_reducible exact fun _ h => h
    | with_reducible exact Eq.refl _
    | (refine fun (K : KO XP) => ?_; simp only [eq_self, true_and, and_true, imp_self, implies_true]; done)
    | (refine fun (K : KO XP) => ?_; simp only [eq_self, true_and, and_true, imp_self, implies_true]; exact id)
    | (refine fun (K : KO XP) => ?_; simp only [eq_self, true_and, and_true, and_imp, imp_self, implies_true]; intros; simp_all only [and_self, imp_self, implies_true]; done)
    | (intro (K : KO XP); simp only [and_imp]; intros; repeat' first | with_reducible apply And.intro | with_reducible exact trivial | with_reducible exact Eq.refl _ | with_reducible assumption)
    | intro _

  all_goals first
    | rfl
    | (rename_i h; simp_all)
/-- What the executor leaves to be shown of roundelay/claim.New, written out. -/
theorem clmN_vc (t : Nat) (A : PA) (ht : 0 < t) : (callN Try.prog ([segS] : List (Smry Try.prog XP)) (fun _ _ => false) 100 20 42 [.c (.ptr 1 0), .c (.int false .u64 (t : Int))] ⟨[(1, parO A)], 100⟩ (.f .nil) (fun v m _ => outM (.c (.ptr 10 0)) (renHeap (clmHeap ⟨0, t, 0, 0, 0, 0, false, 0⟩ .mk) ++ [(1, parO A)]) v m)) = (
    ((↑t : Int) == (0 : Int)) = false ∧ ((((0 : Nat) = (0 : Nat) ∧ True) ∧ True) ∧ (0 : Nat) = (0 : Nat) ∧ (↑t : Int) = (↑t : Int) ∧ (↑(0 : Nat) : Int) = (0 : Int) ∧ (↑(0 : Nat) : Int)
    = (0 : Int) ∧ (↑(0 : Nat) : Int) = (0 : Int) ∧ (↑(0 : Nat) : Int) = (0 : Int) ∧ false = false ∧ (↑(0 : Nat) : Int) = (0 : Int) ∧ True) ∧ A = A ∧ True) := by
  kernel_rfl
theorem clmN_run (t : Nat) (A : PA) (ht : 0 < t) (hc : True) : Run (callN Try.prog ([segS] : List (Smry Try.prog XP)) (fun _ _ => false) 100 20 42 [.c (.ptr 1 0), .c (.int false .u64 (t : Int))] ⟨[(1, parO A)], 100⟩ (.f .nil) (fun v m _ => outM (.c (.ptr 10 0)) (renHeap (clmHeap ⟨0, t, 0, 0, 0, 0, false, 0⟩ .mk) ++ [(1, parO A)]) v m)) := by
  constructor
  rw [clmN_vc]
  have e1 : ((t : Int) == 0) = false := by rw [beq_eq_false_iff_ne]; omega

  repeat' first
    | with_reducible apply And.intro
    | with_reducible exact trivial
    | with_reducible exact fun _ h => h
    | with_reducible exact Eq.refl _
    | (refine fun (K : KO XP) => ?_; simp only [eq_self, true_and, and_true, imp_self, implies_true]; done)
    | (refine fun (K : KO XP) => ?_; simp only [eq_self, true_and, and_true, imp_self, implies_true]; exact id)
    | (refine fun (K : KO XP) => ?_; simp only [eq_self, true_and, and_true, and_imp, imp_self, implies_true]; intros; simp_all only [and_self, imp_self, implies_true]; done)
    | (intro (K : KO XP); simp only [and_imp]; intros; repeat' first | with_reducible apply And.intro | with_reducible exact trivial | with_reducible exact Eq.refl _ | with_reducible assumption)
    | intro _

  all_goals first
    | exact ht
    | exact e1
    | rfl
def clmIs (x : Clm) : XP.X → Prop
  | .obj [] _ => x.ph ≤ 5
  | _ => False
def clmDone (x : Clm) : Bool := Nat.beq x.ph 5
def placeV (x : Clm) : SV := .tup [(true, [.int false .u64 ((if x.got = true then x.seg else 0 : Nat) : Int), .int false .i64 ((if x.got = true then x.slot else 0 : Nat) : Int)]), (false, [.boo false x.got])]
theorem clm_done : MethodOk (E := XP) clmH 43 clmIs (fun x _ => .c (.boo false (clmDone x))) (fun x _ => x) (fun _ a => a) := by
  refine method_ok (H := clmH) ?_ ?_
  · rintro x o h
    unfold clmIs at h
    split at h
    · exact ⟨rfl, rfl, rfl⟩
    · exact h.elim
  · rintro ⟨ph, tok, seg, slot, g, priv, got, e⟩ o h z
    unfold clmIs at h
    split at h
    · rename_i A
      dsimp only at h
      cases z
      rcases (by omega : ph = 0 ∨ ph = 1 ∨ ph = 2 ∨ ph = 3 ∨ ph = 4 ∨ ph = 5) with rfl | rfl | rfl | rfl | rfl | rfl
      · exact ⟨_, _, _, _, _, _, clmD0_run tok seg slot g priv got e A trivial, fun v m h => ⟨.mk, h⟩⟩
      · exact ⟨_, _, _, _, _, _, clmD1_run tok seg slot g priv got e A trivial, fun v m h => ⟨.mk, h⟩⟩
      · exact ⟨_, _, _, _, _, _, clmD2_run tok seg slot g priv got e A trivial, fun v m h => ⟨.mk, h⟩⟩
      · exact ⟨_, _, _, _, _, _, clmD3_run tok seg slot g priv got e A trivial, fun v m h => ⟨.mk, h⟩⟩
      · exact ⟨_, _, _, _, _, _, clmD4_run tok seg slot g priv got e A trivial, fun v m h => ⟨.mk, h⟩⟩
      · exact ⟨_, _, _, _, _, _, clmD5_run tok seg slot g priv got e A trivial, fun v m h => ⟨.mk, h⟩⟩
    · exact h.elim
theorem clm_place : MethodOk (E := XP) clmH 44 clmIs (fun x _ => placeV x) (fun x _ => x) (fun _ a => a) := by
  refine method_ok (H := clmH) ?_ ?_
  · rintro x o h
    unfold clmIs at h
    split at h
    · exact ⟨rfl, rfl, rfl⟩
    · exact h.elim
  · rintro ⟨ph, tok, seg, slot, g, priv, got, e⟩ o h z
    unfold clmIs at h
    split at h
    · rename_i A
      dsimp only at h
      cases z
      rcases (by omega : ph = 0 ∨ ph = 1 ∨ ph = 2 ∨ ph = 3 ∨ ph = 4 ∨ ph = 5) with rfl | rfl | rfl | rfl | rfl | rfl
      · exact ⟨_, _, _, _, _, _, clmP0_run tok seg slot g priv got e A trivial, fun v m h => ⟨.mk, h⟩⟩
      · exact ⟨_, _, _, _, _, _, clmP1_run tok seg slot g priv got e A trivial, fun v m h => ⟨.mk, h⟩⟩
      · exact ⟨_, _, _, _, _, _, clmP2_run tok seg slot g priv got e A trivial, fun v m h => ⟨.mk, h⟩⟩
      · exact ⟨_, _, _, _, _, _, clmP3_run tok seg slot g priv got e A trivial, fun v m h => ⟨.mk, h⟩⟩
      · exact ⟨_, _, _, _, _, _, clmP4_run tok seg slot g priv got e A trivial, fun v m h => ⟨.mk, h⟩⟩
      · exact ⟨_, _, _, _, _, _, clmP5_run tok seg slot g priv got e A trivial, fun v m h => ⟨.mk, h⟩⟩
    · exact h.elim
def clmTok (t : Int) : XP.X → Prop
  | .obj [] _ => 0 < t
  | _ => False
def clm0 (t : Int) (_ : XP.X) : Clm := ⟨0, t.toNat, 0, 0, 0, 0, false, 0⟩
theorem clm_new : MadeOk1 (E := XP) clmH 42 clmTok clm0 := by
  refine made_ok1 (H := clmH) ?_ ?_
  · rintro t o h
    unfold clmTok at h
    split at h
    · rfl
    · exact h.elim
  · rintro t o h
    unfold clmTok at h
    split at h
    · rename_i A
      obtain ⟨n, rfl⟩ : ∃ n : Nat, t = n := ⟨t.toNat, by omega⟩
      exact ⟨_, _, _, _, _, _, clmN_run n A (by omega) trivial, fun v m h => ⟨.mk, h⟩⟩
    · exact h.elim
def clmNewX : Smry Try.prog XM := madeS1 _ clmTok clm0 clm_new
def clmDoneX : Smry Try.prog XM := methodS _ clmIs _ _ _ clm_done
def clmPlaceX : Smry Try.prog XM := methodS _ clmIs _ _ _ clm_place
end Go.Proofs.Ytnfpkadepomjjaa

/- The words of arenas with segments. No program in sight. -/
namespace Go.Proofs.Ytnfpkadepomjjaa
open Go Go.RowKit
set_option maxRecDepth 100000

theorem PA.word_set {x : PA} {h i : Nat} (y : Nat) (hs : (x.word h i).isSome = true) (h9 : x.fx.length = 9) (k j : Nat) : (x.set h i y).word k j = if k = h ∧ j = i then some y else x.word k j := by
  have hi : h = 0 → i < x.fx.length := fun e => by
    subst e
    unfold PA.word at hs
    simp only [Nat.beq, cond_true] at hs
    cases hb : Nat.blt i 9 <;> rw [hb] at hs
    · cases hs
    · rw [Nat.blt_eq] at hb; omega
  have h1 := PA.set_eq x (fun _ => undef) h i y hi
  have h2 := Ar.word_set (x.ar fun _ => undef) (h := h) (i := i) y (by rw [PA.word_eq]; exact hs) k j
  rw [h1, PA.word_eq, PA.word_eq] at h2
  exact h2
theorem PA.word_tick (x : PA) (f : Tly → Tly) (k j : Nat) : (x.tick f).word k j = x.word k j := rfl
theorem findP_app {n h k : Nat} {ws : List Nat} : ∀ {l : List (Nat × Nat × List Nat)}, findP k (appB n h ws l) = match findP k l with | some v => some v | none => if h = k then some ws else none
  | [] => by
    simp only [appB, findP]
    rw [beq_dec]
    by_cases e : h = k
    · rw [decide_eq_true e, if_pos e]; rfl
    · rw [decide_eq_false e, if_neg e]; rfl
  | (n', h', ws') :: l => by
    simp only [appB, findP]
    cases Nat.beq h' k
    · exact findP_app
    · rfl
theorem findP_set {h i y k : Nat} : ∀ {l : List (Nat × Nat × List Nat)}, findP k l = none → findP k (setPA h i y l) = none
  | [], _ => rfl
  | (n, h', ws) :: l, e => by
    simp only [findP] at e
    simp only [setPA]
    cases hb : Nat.beq h' k
    · rw [hb] at e
      cases Nat.beq h' h <;> simp only [cond_true, cond_false, findP, hb] <;> exact findP_set e
    · rw [hb] at e; cases e
theorem set_rest (x : PA) (h i y : Nat) : (x.set h i y).cap = x.cap ∧ (x.set h i y).used = x.used ∧ (x.set h i y).births = x.births ∧ (x.set h i y).high = x.high ∧ (x.set h i y).bk = x.bk ∧ (x.set h i y).faults = x.faults ∧ (x.set h i y).fx.length = x.fx.length := by
  unfold PA.set
  cases Nat.beq h 0
  · exact ⟨rfl, rfl, rfl, rfl, rfl, rfl, rfl⟩
  · exact ⟨rfl, rfl, rfl, rfl, rfl, rfl, List.length_set ..⟩
theorem set_miss {x : PA} {h i y k : Nat} (e : findP k x.bs = none) : findP k (x.set h i y).bs = none := by
  unfold PA.set
  cases Nat.beq h 0
  · exact findP_set e
  · exact e
theorem seg_inj {s u : Nat} (h1 : segG s = segG u) (h2 : segO s = segO u) (hs : s ≤ 254) (hu : u ≤ 254) : s = u := by
  have a := seg_facts hs
  have b := seg_facts hu
  unfold segO at h2
  rw [h1] at h2 a
  omega
theorem zerosG_eq (g : Nat) : zerosG g = List.replicate (7 * 2 ^ g) 0 := by
  unfold zerosG natsOf
  apply List.ext_getElem?
  intro i
  rw [List.getElem?_map, List.getElem?_replicate]
  by_cases h : i < 7 * 2 ^ g
  · rw [if_pos h, List.getElem?_range h]; rfl
  · rw [if_neg h, List.getElem?_eq_none (by simpa using h)]; rfl
theorem le5 {n : Nat} (h : Nat.ble n 5 = true) : n ≤ 5 := Nat.le_of_ble_eq_true h
theorem segG_mid {g s : Nat} (h1 : 2 ^ g ≤ s + 1) (h2 : s + 1 < 2 ^ (g + 1)) : segG s = g := by
  unfold segG
  have h3 : 2 ^ Nat.log2 (s + 1) ≤ s + 1 := Nat.log2_self_le (by omega)
  have h4 : s + 1 < 2 ^ (Nat.log2 (s + 1) + 1) := Nat.lt_log2_self
  rcases Nat.lt_trichotomy (Nat.log2 (s + 1)) g with h | h | h
  · have : 2 ^ (Nat.log2 (s + 1) + 1) ≤ 2 ^ g := Nat.pow_le_pow_right (by omega) (by omega)
    omega
  · exact h
  · have : 2 ^ (g + 1) ≤ 2 ^ Nat.log2 (s + 1) := Nat.pow_le_pow_right (by omega) (by omega)
    omega
theorem segG_of2 {t G : Nat} (h : t + 1 = 2 ^ G) : segG t = G := segG_mid (by omega) (by rw [Nat.pow_succ]; have : 1 ≤ 2 ^ G := Nat.one_le_two_pow; omega)
theorem segG_next {s : Nat} (h : s + 1 ≤ 254) (h0 : segO (s + 1) ≠ 0) : segG (s + 1) = segG s := by
  have f := seg_facts (s := s) (by omega)
  have f2 := seg_facts (s := s + 1) h
  unfold segO at h0
  exact (segG_mid (g := segG (s + 1)) (s := s) (by omega) (by rw [Nat.pow_succ]; omega)).symm
section
variable {G s : Nat}
theorem segG_lt2 (hs : s + 1 < 2 ^ G) (h2 : s ≤ 254) : segG s < G := by
  have f := seg_facts h2
  rcases Nat.lt_or_ge (segG s) G with h | h
  · exact h
  · have : 2 ^ G ≤ 2 ^ segG s := Nat.pow_le_pow_right (by omega) h
    omega
end
end Go.Proofs.Ytnfpkadepomjjaa

/- A claim's steps, whatever others did: what a step makes of it and of the arena. -/
namespace Go.Proofs.Ytnfpkadepomjjaa
open Go Go.RowKit
set_option maxRecDepth 100000

def clmStepG (x : Clm) (A : PA) : Clm := match x.ph with
  | 0 => { x with seg := A.rd 0 ((x.g : Int) + 1), ph := if A.rd 0 ((x.g : Int) + 1) = 0 then 1 else 4 }
  | 1 => { x with priv := A.hdlG, ph := 2 }
  | 2 => if A.rd 0 ((x.g : Int) + 1) = 0 then { x with seg := x.priv, priv := 0, ph := 4 } else { x with ph := 3 }
  | 3 => { x with priv := 0, ph := 0 }
  | 4 => if A.rd (x.seg : Nat) (5 * (segO x.slot : Nat) : Int) = 0 then { x with got := true, ph := 5 } else clmOn { x with slot := x.slot + 1 }
  | _ => x
def clmAG (x : Clm) (A : PA) : PA := match x.ph with
  | 0 => A.read
  | 1 => A.layG (zerosG x.g)
  | 2 => A.swapQ 0 ((x.g : Int) + 1) 0 (x.priv : Nat)
  | 3 => A.frX (x.priv : Nat)
  | 4 => A.swapQ (x.seg : Nat) (5 * (segO x.slot : Nat) : Int) 0 (x.tok : Nat)
  | _ => A
def clmOkG (x : Clm) (A : PA) : Prop := match x.ph with
  | 0 => x.g < 8 ∧ A.Has 0 ((x.g : Int) + 1)
  | 1 => x.g < 8 ∧ A.used + 7 * 2 ^ x.g ≤ A.cap ∧ A.births < 268435455
  | 2 => x.g < 8 ∧ A.Has 0 ((x.g : Int) + 1) ∧ x.priv < 18446744073709551616
  | 3 => x.priv < 18446744073709551616
  | 4 => x.slot ≤ 254 ∧ A.Has (x.seg : Nat) (5 * (segO x.slot : Nat) : Int) ∧ x.tok < 18446744073709551616
  | _ => True
end Go.Proofs.Ytnfpkadepomjjaa

/- A claim's step, by phases, whatever others did. -/
namespace Go.Proofs.Ytnfpkadepomjjaa
open Go Go.RowKit
set_option maxRecDepth 1000000
set_option maxHeartbeats 0
def tblCg : List (Smry Try.prog XP) := [readQ, layI, swapQ, freeC.R, fixedS, wordS, segS, sizeS]
variable {tok seg slot g priv : Nat} {got : Bool} {e : Nat} {A : PA}
theorem gis0y (h : ((A.rd 0 ((g : Int) + 1) : Int) == 0) = true) : Is (Clm.mk 1 tok (A.rd 0 ((g : Int) + 1)) slot g priv got e) (clmStepG ⟨0, tok, seg, slot, g, priv, got, e⟩ A) := by
  have h0 : A.rd 0 ((g : Int) + 1) = 0 := by have := eq_of_beq h; omega
  simp [Is, clmStepG, h0]
theorem gis0n (h : ((A.rd 0 ((g : Int) + 1) : Int) == 0) = false) : Is (Clm.mk 4 tok (A.rd 0 ((g : Int) + 1)) slot g priv got e) (clmStepG ⟨0, tok, seg, slot, g, priv, got, e⟩ A) := by
  have h0 : ¬ A.rd 0 ((g : Int) + 1) = 0 := by have := ne_of_beq_false h; omega
  simp [Is, clmStepG, h0]
theorem gnb {n : Nat} (h : (!decide ((n : Int) = 0)) = true) : ¬ n = 0 := by simpa using h
theorem gyb {n : Nat} (h : (!decide ((n : Int) = 0)) = false) : n = 0 := by simpa using h
theorem gis2n (h : (!decide ((A.rd 0 ((g : Int) + 1) : Int) = 0)) = true) : Is (Clm.mk 3 tok seg slot g priv got e) (clmStepG ⟨2, tok, seg, slot, g, priv, got, e⟩ A) := by
  simp [Is, clmStepG, gnb h]
theorem gis2y (h : (!decide ((A.rd 0 ((g : Int) + 1) : Int) = 0)) = false) : Is (Clm.mk 4 tok priv slot g 0 got e) (clmStepG ⟨2, tok, seg, slot, g, priv, got, e⟩ A) := by
  simp [Is, clmStepG, gyb h]
theorem gis4y (h : (!decide ((A.rd (seg : Nat) (5 * (segO slot : Nat) : Int) : Int) = 0)) = false) : Is (Clm.mk 5 tok seg slot g priv true e) (clmStepG ⟨4, tok, seg, slot, g, priv, got, e⟩ A) := by
  simp [Is, clmStepG, gyb h]
theorem ginSn {s : Nat} (h : (!inS ((s : Int) + 1)) = true) : 254 < s + 1 := by
  have : inS ((s : Int) + 1) = false := by simpa using h
  simp only [inS, Bool.and_eq_false_iff, decide_eq_false_iff_not] at this
  omega
theorem ginSy {s : Nat} (h : (!inS ((s : Int) + 1)) = false) : inS ((s : Int) + 1) = true ∧ ¬ 254 < s + 1 := by
  have : inS ((s : Int) + 1) = true := by simpa using h
  exact ⟨this, by have := inS_yes this; omega⟩
theorem gis4e (h : (!decide ((A.rd (seg : Nat) (5 * (segO slot : Nat) : Int) : Int) = 0)) = true) (h2 : (!inS ((slot : Int) + 1)) = true) : Is (Clm.mk 5 tok seg (slot + 1) g priv got 12) (clmStepG ⟨4, tok, seg, slot, g, priv, got, e⟩ A) := by
  simp [Is, clmStepG, clmOn, gnb h, ginSn h2]
theorem gis4g (h : (!decide ((A.rd (seg : Nat) (5 * (segO slot : Nat) : Int) : Int) = 0)) = true) (h2 : (!inS ((slot : Int) + 1)) = false) (h3 : ((if inS ((slot : Int) + 1) = true then ((segO (slot + 1) : Nat) : Int) else 0) == 0) = true) : Is (Clm.mk 0 tok seg (slot + 1) (segG (slot + 1)) priv got e) (clmStepG ⟨4, tok, seg, slot, g, priv, got, e⟩ A) := by
  rw [if_pos (ginSy h2).1] at h3
  have h0 : segO (slot + 1) = 0 := by have := eq_of_beq h3; omega
  have h1 := (ginSy h2).2
  simp only [Is, clmStepG, clmOn, gnb h, if_false, if_neg h1, h0, if_true]
theorem gis4t (h : (!decide ((A.rd (seg : Nat) (5 * (segO slot : Nat) : Int) : Int) = 0)) = true) (h2 : (!inS ((slot : Int) + 1)) = false) (h3 : ((if inS ((slot : Int) + 1) = true then ((segO (slot + 1) : Nat) : Int) else 0) == 0) = false) : Is (Clm.mk 4 tok seg (slot + 1) g priv got e) (clmStepG ⟨4, tok, seg, slot, g, priv, got, e⟩ A) := by
  rw [if_pos (ginSy h2).1] at h3
  have h0 : ¬ segO (slot + 1) = 0 := by have := ne_of_beq_false h3; omega
  have h1 := (ginSy h2).2
  simp only [Is, clmStepG, clmOn, gnb h, if_false, if_neg h1, h0]
/-- What the executor leaves to be shown of (*roundelay/claim.Claim).Step, written out. -/
theorem cg0_vc (tok seg slot g priv : Nat) (got : Bool) (e : Nat) (A : PA) : (callN Try.prog (tblCg : List (Smry Try.prog XP)) (fun _ _ => false) 100 20 47 [.c (.ptr 0 0)] ⟨clmHeap (⟨0, tok, seg, slot, g, priv, got, e⟩ : Clm) .mk ++ [(1, parO A)], 100⟩ (bN 3) (fun v m _ => clmPost (clmStepG (⟨0, tok, seg, slot, g, priv, got, e⟩ : Clm) A) (clmAG (⟨0, tok, seg, slot, g, priv, got, e⟩ : Clm) A) v m)) = (
    ((((A.Has (0 : Int) ((1 : Int) + max (0 : Int) (min (↑g : Int) (7 : Int))) ∧ ((((↑(A.rd (0 : Int) ((1 : Int) + max (0 : Int) (min (↑g : Int) (7 : Int)))) : Int) == (0 : Int)) = true
    → ∃ (tok_1 : Nat), ∃ (seg_1 : Nat), ∃ (slot_1 : Nat), ∃ (g_1 : Nat), ∃ (priv_1 : Nat), ∃ (got_1 : Bool), ∃ (e_1 : Nat), Is (Clm.mk (1 : Nat) tok_1 seg_1 slot_1 g_1 priv_1 got_1 e_1)
    (clmStepG (Clm.mk (0 : Nat) tok seg slot g priv got e) A) ∧ ((((0 : Nat) = (0 : Nat) ∧ True) ∧ True) ∧ (0 : Nat) = (0 : Nat) ∧ (↑tok_1 : Int) = (↑tok : Int) ∧ (↑seg_1 : Int) =
    (↑(A.rd (0 : Int) ((1 : Int) + max (0 : Int) (min (↑g : Int) (7 : Int)))) : Int) ∧ (↑slot_1 : Int) = (↑slot : Int) ∧ (↑g_1 : Int) = (↑g : Int) ∧ (↑priv_1 : Int) = (↑priv : Int) ∧
    got_1 = got ∧ (↑e_1 : Int) = (↑e : Int) ∧ True) ∧ clmAG (Clm.mk (0 : Nat) tok seg slot g priv got e) A = A.read ∧ True) ∧ (((↑(A.rd (0 : Int) ((1 : Int) + max (0 : Int) (min (↑g :
    Int) (7 : Int)))) : Int) == (0 : Int)) = false → ∃ (tok_1 : Nat), ∃ (seg_1 : Nat), ∃ (slot_1 : Nat), ∃ (g_1 : Nat), ∃ (priv_1 : Nat), ∃ (got_1 : Bool), ∃ (e_1 : Nat), Is (Clm.mk (4
    : Nat) tok_1 seg_1 slot_1 g_1 priv_1 got_1 e_1) (clmStepG (Clm.mk (0 : Nat) tok seg slot g priv got e) A) ∧ ((((0 : Nat) = (0 : Nat) ∧ True) ∧ True) ∧ (0 : Nat) = (0 : Nat) ∧
    (↑tok_1 : Int) = (↑tok : Int) ∧ (↑seg_1 : Int) = (↑(A.rd (0 : Int) ((1 : Int) + max (0 : Int) (min (↑g : Int) (7 : Int)))) : Int) ∧ (↑slot_1 : Int) = (↑slot : Int) ∧ (↑g_1 : Int) =
    (↑g : Int) ∧ (↑priv_1 : Int) = (↑priv : Int) ∧ got_1 = got ∧ (↑e_1 : Int) = (↑e : Int) ∧ True) ∧ clmAG (Clm.mk (0 : Nat) tok seg slot g priv got e) A = A.read ∧ True)) ∧ True) ∧
    True) ∧ True) ∧ True) ∧ (∀ (K : KO XP), (((A.Has (0 : Int) ((1 : Int) + max (0 : Int) (min (↑g : Int) (7 : Int))) ∧ K (SF.mk (37 : Nat) (ST.node (SV.c (SC.ptr (0 : Nat) (0 : Nat)))
    (ST.node (SV.tup []) (ST.node (SV.c (SC.ptr (0 : Nat) (0 : Nat))) (ST.node (SV.c (SC.ptr (1 : Nat) (0 : Nat))) (ST.node (SV.c (SC.int true IntKind.i64 (0 : Int))) (ST.node (SV.tup
    []) ST.nil ST.nil) ST.nil) (ST.node (SV.tup []) ST.nil ST.nil)) (ST.node (SV.c (SC.int false IntKind.i64 (↑g : Int) Bd.any)) (ST.node (SV.tup []) (ST.node (SV.tup []) ST.nil ST.nil)
    ST.nil) (ST.node (SV.tup []) ST.nil ST.nil))) (ST.node (SV.c (SC.ptr (0 : Nat) (0 : Nat))) (ST.node (SV.c (SC.ptr (0 : Nat) (0 : Nat))) (ST.node (SV.c (SC.ptr (0 : Nat) (3 : Nat)))
    (ST.node (SV.tup []) ST.nil ST.nil) ST.nil) (ST.node (SV.tup []) ST.nil ST.nil)) (ST.node (SV.tup [(false, [SC.int false IntKind.u64 (↑(A.rd (0 : Int) ((1 : Int) + max (0 : Int)
    (min (↑g : Int) (7 : Int)))) : Int) Bd.any]), (false, [SC.int true IntKind.i64 (0 : Int)])]) (ST.node (SV.tup []) ST.nil ST.nil) (ST.node (SV.tup []) ST.nil ST.nil)))) (ST.node
    (SV.tup [(false, [SC.int false IntKind.u64 (↑(A.rd (0 : Int) ((1 : Int) + max (0 : Int) (min (↑g : Int) (7 : Int)))) : Int) Bd.any]), (false, [SC.int true IntKind.i64 (0 : Int)])])
    (ST.node (SV.c (SC.ptr (0 : Nat) (0 : Nat))) (ST.node (SV.c (SC.ptr (0 : Nat) (0 : Nat))) (ST.node (SV.c (SC.ptr (0 : Nat) (0 : Nat))) (ST.node (SV.tup []) ST.nil ST.nil) ST.nil)
    (ST.node (SV.tup []) ST.nil ST.nil)) (ST.node (SV.agg [SC.int true IntKind.u64 (0 : Int), SC.int false IntKind.i64 ((1 : Int) + max (0 : Int) (min (↑g : Int) (7 : Int))) (Bd.w (1 :
    Int) (8 : Int) (fixed_bd._proof_2 (↑(Clm.mk (0 : Nat) tok seg slot g priv got e).g : Int)))]) (ST.node (SV.tup []) (ST.node (SV.tup []) ST.nil ST.nil) ST.nil) (ST.node (SV.tup [])
    ST.nil ST.nil))) (ST.node (SV.c (SC.ptr (0 : Nat) (1 : Nat))) (ST.node (SV.c (SC.ptr (0 : Nat) (5 : Nat))) (ST.node (SV.c (SC.ptr (0 : Nat) (3 : Nat))) (ST.node (SV.tup []) ST.nil
    ST.nil) ST.nil) (ST.node (SV.tup []) ST.nil ST.nil)) (ST.node (SV.c (SC.int false IntKind.u64 (↑(A.rd (0 : Int) ((1 : Int) + max (0 : Int) (min (↑g : Int) (7 : Int)))) : Int)
    Bd.any)) (ST.node (SV.tup []) ST.nil ST.nil) (ST.node (SV.tup []) ST.nil ST.nil))))) []) (Mem.mk [((0 : Nat), SO.cells [SC.fn (Fn.func (OfNat.ofNat (184 : Nat))) [SC.ptr (0 : Nat)
    (0 : Nat)] [], SC.ptr (1 : Nat) (0 : Nat), SC.int false IntKind.u64 (↑tok : Int) Bd.any, SC.int false IntKind.u64 (↑(A.rd (0 : Int) ((1 : Int) + max (0 : Int) (min (↑g : Int) (7 :
    Int)))) : Int) Bd.any, SC.int false IntKind.i64 (↑slot : Int) Bd.any, SC.int false IntKind.i64 (↑g : Int) Bd.any, SC.int false IntKind.u64 (↑priv : Int) Bd.any, SC.boo false got,
    SC.int false IntKind.i64 (↑e : Int) Bd.any] (OfNat.ofNat (207 : Nat))), ((1 : Nat), SO.ext (HO.obj (E := XE) (H := parH) [] A.read))] (134 : Nat)) (bN (3 : Nat)) ∧ True) ∧ True) ∧
    True) ∧ True → (((A.Has (0 : Int) ((1 : Int) + max (0 : Int) (min (↑g : Int) (7 : Int))) ∧ K (SF.mk (37 : Nat) (ST.node (SV.c (SC.ptr (0 : Nat) (0 : Nat))) (ST.node (SV.tup [])
    (ST.node (SV.c (SC.ptr (0 : Nat) (0 : Nat))) (ST.node (SV.c (SC.ptr (1 : Nat) (0 : Nat))) (ST.node (SV.c (SC.int true IntKind.i64 (0 : Int))) (ST.node (SV.tup []) ST.nil ST.nil)
    ST.nil) (ST.node (SV.tup []) ST.nil ST.nil)) (ST.node (SV.c (SC.int false IntKind.i64 (↑g : Int) Bd.any)) (ST.node (SV.tup []) (ST.node (SV.tup []) ST.nil ST.nil) ST.nil) (ST.node
    (SV.tup []) ST.nil ST.nil))) (ST.node (SV.c (SC.ptr (0 : Nat) (0 : Nat))) (ST.node (SV.c (SC.ptr (0 : Nat) (0 : Nat))) (ST.node (SV.c (SC.ptr (0 : Nat) (3 : Nat))) (ST.node (SV.tup
    []) ST.nil ST.nil) ST.nil) (ST.node (SV.tup []) ST.nil ST.nil)) (ST.node (SV.tup [(false, [SC.int false IntKind.u64 (↑(A.rd (0 : Int) ((1 : Int) + max (0 : Int) (min (↑g : Int) (7 :
    Int)))) : Int) Bd.any]), (false, [SC.int true IntKind.i64 (0 : Int)])]) (ST.node (SV.tup []) ST.nil ST.nil) (ST.node (SV.tup []) ST.nil ST.nil)))) (ST.node (SV.tup [(false, [SC.int
    false IntKind.u64 (↑(A.rd (0 : Int) ((1 : Int) + max (0 : Int) (min (↑g : Int) (7 : Int)))) : Int) Bd.any]), (false, [SC.int true IntKind.i64 (0 : Int)])]) (ST.node (SV.c (SC.ptr (0
    : Nat) (0 : Nat))) (ST.node (SV.c (SC.ptr (0 : Nat) (0 : Nat))) (ST.node (SV.c (SC.ptr (0 : Nat) (0 : Nat))) (ST.node (SV.tup []) ST.nil ST.nil) ST.nil) (ST.node (SV.tup []) ST.nil
    ST.nil)) (ST.node (SV.agg [SC.int true IntKind.u64 (0 : Int), SC.int false IntKind.i64 ((1 : Int) + max (0 : Int) (min (↑g : Int) (7 : Int))) (Bd.w (1 : Int) (8 : Int)
    (fixed_bd._proof_2 (↑(Clm.mk (0 : Nat) tok seg slot g priv got e).g : Int)))]) (ST.node (SV.tup []) (ST.node (SV.tup []) ST.nil ST.nil) ST.nil) (ST.node (SV.tup []) ST.nil ST.nil)))
    (ST.node (SV.c (SC.ptr (0 : Nat) (1 : Nat))) (ST.node (SV.c (SC.ptr (0 : Nat) (5 : Nat))) (ST.node (SV.c (SC.ptr (0 : Nat) (3 : Nat))) (ST.node (SV.tup []) ST.nil ST.nil) ST.nil)
    (ST.node (SV.tup []) ST.nil ST.nil)) (ST.node (SV.c (SC.int false IntKind.u64 (↑(A.rd (0 : Int) ((1 : Int) + max (0 : Int) (min (↑g : Int) (7 : Int)))) : Int) Bd.any)) (ST.node
    (SV.tup []) ST.nil ST.nil) (ST.node (SV.tup []) ST.nil ST.nil))))) []) (Mem.mk [((0 : Nat), SO.cells [SC.fn (Fn.func (OfNat.ofNat (184 : Nat))) [SC.ptr (0 : Nat) (0 : Nat)] [],
    SC.ptr (1 : Nat) (0 : Nat), SC.int false IntKind.u64 (↑tok : Int) Bd.any, SC.int false IntKind.u64 (↑(A.rd (0 : Int) ((1 : Int) + max (0 : Int) (min (↑g : Int) (7 : Int)))) : Int)
    Bd.any, SC.int false IntKind.i64 (↑slot : Int) Bd.any, SC.int false IntKind.i64 (↑g : Int) Bd.any, SC.int false IntKind.u64 (↑priv : Int) Bd.any, SC.boo false got, SC.int false
    IntKind.i64 (↑e : Int) Bd.any] (OfNat.ofNat (207 : Nat))), ((1 : Nat), SO.ext (HO.obj (E := XE) (H := parH) [] A.read))] (134 : Nat)) (bN (3 : Nat)) ∧ True) ∧ True) ∧ True) ∧ (∀ (K
    : KO XP), ((A.Has (0 : Int) ((1 : Int) + max (0 : Int) (min (↑g : Int) (7 : Int))) ∧ K (SF.mk (37 : Nat) (ST.node (SV.c (SC.ptr (0 : Nat) (0 : Nat))) (ST.node (SV.tup []) (ST.node
    (SV.c (SC.ptr (0 : Nat) (0 : Nat))) (ST.node (SV.c (SC.ptr (1 : Nat) (0 : Nat))) (ST.node (SV.c (SC.int true IntKind.i64 (0 : Int))) (ST.node (SV.tup []) ST.nil ST.nil) ST.nil)
    (ST.node (SV.tup []) ST.nil ST.nil)) (ST.node (SV.c (SC.int false IntKind.i64 (↑g : Int) Bd.any)) (ST.node (SV.tup []) (ST.node (SV.tup []) ST.nil ST.nil) ST.nil) (ST.node (SV.tup
    []) ST.nil ST.nil))) (ST.node (SV.c (SC.ptr (0 : Nat) (0 : Nat))) (ST.node (SV.c (SC.ptr (0 : Nat) (0 : Nat))) (ST.node (SV.c (SC.ptr (0 : Nat) (3 : Nat))) (ST.node (SV.tup [])
    ST.nil ST.nil) ST.nil) (ST.node (SV.tup []) ST.nil ST.nil)) (ST.node (SV.tup [(false, [SC.int false IntKind.u64 (↑(A.rd (0 : Int) ((1 : Int) + max (0 : Int) (min (↑g : Int) (7 :
    Int)))) : Int) Bd.any]), (false, [SC.int true IntKind.i64 (0 : Int)])]) (ST.node (SV.tup []) ST.nil ST.nil) (ST.node (SV.tup []) ST.nil ST.nil)))) (ST.node (SV.tup [(false, [SC.int
    false IntKind.u64 (↑(A.rd (0 : Int) ((1 : Int) + max (0 : Int) (min (↑g : Int) (7 : Int)))) : Int) Bd.any]), (false, [SC.int true IntKind.i64 (0 : Int)])]) (ST.node (SV.c (SC.ptr (0
    : Nat) (0 : Nat))) (ST.node (SV.c (SC.ptr (0 : Nat) (0 : Nat))) (ST.node (SV.c (SC.ptr (0 : Nat) (0 : Nat))) (ST.node (SV.tup []) ST.nil ST.nil) ST.nil) (ST.node (SV.tup []) ST.nil
    ST.nil)) (ST.node (SV.agg [SC.int true IntKind.u64 (0 : Int), SC.int false IntKind.i64 ((1 : Int) + max (0 : Int) (min (↑g : Int) (7 : Int))) (Bd.w (1 : Int) (8 : Int)
    (fixed_bd._proof_2 (↑(Clm.mk (0 : Nat) tok seg slot g priv got e).g : Int)))]) (ST.node (SV.tup []) (ST.node (SV.tup []) ST.nil ST.nil) ST.nil) (ST.node (SV.tup []) ST.nil ST.nil)))
    (ST.node (SV.c (SC.ptr (0 : Nat) (1 : Nat))) (ST.node (SV.c (SC.ptr (0 : Nat) (5 : Nat))) (ST.node (SV.c (SC.ptr (0 : Nat) (3 : Nat))) (ST.node (SV.tup []) ST.nil ST.nil) ST.nil)
    (ST.node (SV.tup []) ST.nil ST.nil)) (ST.node (SV.c (SC.int false IntKind.u64 (↑(A.rd (0 : Int) ((1 : Int) + max (0 : Int) (min (↑g : Int) (7 : Int)))) : Int) Bd.any)) (ST.node
    (SV.tup []) ST.nil ST.nil) (ST.node (SV.tup []) ST.nil ST.nil))))) []) (Mem.mk [((0 : Nat), SO.cells [SC.fn (Fn.func (OfNat.ofNat (184 : Nat))) [SC.ptr (0 : Nat) (0 : Nat)] [],
    SC.ptr (1 : Nat) (0 : Nat), SC.int false IntKind.u64 (↑tok : Int) Bd.any, SC.int false IntKind.u64 (↑(A.rd (0 : Int) ((1 : Int) + max (0 : Int) (min (↑g : Int) (7 : Int)))) : Int)
    Bd.any, SC.int false IntKind.i64 (↑slot : Int) Bd.any, SC.int false IntKind.i64 (↑g : Int) Bd.any, SC.int false IntKind.u64 (↑priv : Int) Bd.any, SC.boo false got, SC.int false
    IntKind.i64 (↑e : Int) Bd.any] (OfNat.ofNat (207 : Nat))), ((1 : Nat), SO.ext (HO.obj (E := XE) (H := parH) [] A.read))] (134 : Nat)) (bN (3 : Nat)) ∧ True) ∧ True) ∧ True → ((A.Has
    (0 : Int) ((1 : Int) + max (0 : Int) (min (↑g : Int) (7 : Int))) ∧ K (SF.mk (37 : Nat) (ST.node (SV.c (SC.ptr (0 : Nat) (0 : Nat))) (ST.node (SV.tup []) (ST.node (SV.c (SC.ptr (0 :
    Nat) (0 : Nat))) (ST.node (SV.c (SC.ptr (1 : Nat) (0 : Nat))) (ST.node (SV.c (SC.int true IntKind.i64 (0 : Int))) (ST.node (SV.tup []) ST.nil ST.nil) ST.nil) (ST.node (SV.tup [])
    ST.nil ST.nil)) (ST.node (SV.c (SC.int false IntKind.i64 (↑g : Int) Bd.any)) (ST.node (SV.tup []) (ST.node (SV.tup []) ST.nil ST.nil) ST.nil) (ST.node (SV.tup []) ST.nil ST.nil)))
    (ST.node (SV.c (SC.ptr (0 : Nat) (0 : Nat))) (ST.node (SV.c (SC.ptr (0 : Nat) (0 : Nat))) (ST.node (SV.c (SC.ptr (0 : Nat) (3 : Nat))) (ST.node (SV.tup []) ST.nil ST.nil) ST.nil)
    (ST.node (SV.tup []) ST.nil ST.nil)) (ST.node (SV.tup [(false, [SC.int false IntKind.u64 (↑(A.rd (0 : Int) ((1 : Int) + max (0 : Int) (min (↑g : Int) (7 : Int)))) : Int) Bd.any]),
    (false, [SC.int true IntKind.i64 (0 : Int)])]) (ST.node (SV.tup []) ST.nil ST.nil) (ST.node (SV.tup []) ST.nil ST.nil)))) (ST.node (SV.tup [(false, [SC.int false IntKind.u64 (↑(A.rd
    (0 : Int) ((1 : Int) + max (0 : Int) (min (↑g : Int) (7 : Int)))) : Int) Bd.any]), (false, [SC.int true IntKind.i64 (0 : Int)])]) (ST.node (SV.c (SC.ptr (0 : Nat) (0 : Nat)))
    (ST.node (SV.c (SC.ptr (0 : Nat) (0 : Nat))) (ST.node (SV.c (SC.ptr (0 : Nat) (0 : Nat))) (ST.node (SV.tup []) ST.nil ST.nil) ST.nil) (ST.node (SV.tup []) ST.nil ST.nil)) (ST.node
    (SV.agg [SC.int true IntKind.u64 (0 : Int), SC.int false IntKind.i64 ((1 : Int) + max (0 : Int) (min (↑g : Int) (7 : Int))) (Bd.w (1 : Int) (8 : Int) (fixed_bd._proof_2 (↑(Clm.mk (0
    : Nat) tok seg slot g priv got e).g : Int)))]) (ST.node (SV.tup []) (ST.node (SV.tup []) ST.nil ST.nil) ST.nil) (ST.node (SV.tup []) ST.nil ST.nil))) (ST.node (SV.c (SC.ptr (0 :
    Nat) (1 : Nat))) (ST.node (SV.c (SC.ptr (0 : Nat) (5 : Nat))) (ST.node (SV.c (SC.ptr (0 : Nat) (3 : Nat))) (ST.node (SV.tup []) ST.nil ST.nil) ST.nil) (ST.node (SV.tup []) ST.nil
    ST.nil)) (ST.node (SV.c (SC.int false IntKind.u64 (↑(A.rd (0 : Int) ((1 : Int) + max (0 : Int) (min (↑g : Int) (7 : Int)))) : Int) Bd.any)) (ST.node (SV.tup []) ST.nil ST.nil)
    (ST.node (SV.tup []) ST.nil ST.nil))))) []) (Mem.mk [((0 : Nat), SO.cells [SC.fn (Fn.func (OfNat.ofNat (184 : Nat))) [SC.ptr (0 : Nat) (0 : Nat)] [], SC.ptr (1 : Nat) (0 : Nat),
    SC.int false IntKind.u64 (↑tok : Int) Bd.any, SC.int false IntKind.u64 (↑(A.rd (0 : Int) ((1 : Int) + max (0 : Int) (min (↑g : Int) (7 : Int)))) : Int) Bd.any, SC.int false
    IntKind.i64 (↑slot : Int) Bd.any, SC.int false IntKind.i64 (↑g : Int) Bd.any, SC.int false IntKind.u64 (↑priv : Int) Bd.any, SC.boo false got, SC.int false IntKind.i64 (↑e : Int)
    Bd.any] (OfNat.ofNat (207 : Nat))), ((1 : Nat), SO.ext (HO.obj (E := XE) (H := parH) [] A.read))] (134 : Nat)) (bN (3 : Nat)) ∧ True) ∧ True) ∧ True) ∧ True) ∧ True) := by
  kernel_rfl
theorem cg0_run (tok seg slot g priv : Nat) (got : Bool) (e : Nat) (A : PA) (hc : clmOkG (⟨0, tok, seg, slot, g, priv, got, e⟩ : Clm) A) : Run (callN Try.prog (tblCg : List (Smry Try.prog XP)) (fun _ _ => false) 100 20 47 [.c (.ptr 0 0)] ⟨clmHeap (⟨0, tok, seg, slot, g, priv, got, e⟩ : Clm) .mk ++ [(1, parO A)], 100⟩ (bN 3) (fun v m _ => clmPost (clmStepG (⟨0, tok, seg, slot, g, priv, got, e⟩ : Clm) A) (clmAG (⟨0, tok, seg, slot, g, priv, got, e⟩ : Clm) A) v m)) := by
  constructor
  rw [cg0_vc]
  obtain ⟨hg, hA⟩ := hc
  dsimp only at hg hA
  have eg : (1 : Int) + max 0 (min (g : Int) 7) = (g : Int) + 1 := by omega
  simp only [eg]
  repeat' first
    | with_reducible apply And.intro
    | with_reducible exact trivial
    | with_reducible exact fun _ h => h
    | with_reducible exact Eq.refl _
    | (refine fun (K : KO XP) => ?_; simp only [eq_self, true_and, and_true, imp_self, implies_true]; done)
    | (refine fun (K : KO XP) => ?_; simp only [eq_self, true_and, and_true, imp_self, implies_true]; exact id)
    | (refine fun (K : KO XP) => ?_; simp only [eq_self, true_and, and_true, and_imp, imp_self, implies_true]; intros; simp_all only [and_self, imp_self, implies_true]; done)
    | (intro (K : KO XP); simp only [and_imp]; intros; repeat' first | with_reducible apply And.intro | with_reducible exact trivial | with_reducible exact Eq.refl _ | with_reducible assumption)
    | intro _

  any_goals first
    | with_reducible refine ⟨tok, A.rd 0 ((g : Int) + 1), slot, g, priv, got, e, ?_, ?_⟩
    | skip

  repeat' first
    | with_reducible apply And.intro
    | with_reducible exact trivial
    | with_reducible exact fun _ h => h
    | with_reducible exact Eq.refl _
    | (refine fun (K : KO XP) => ?_; simp only [eq_self, true_and, and_true, imp_self, implies_true]; done)
    | (refine fun (K : KO XP) => ?_; simp only [eq_self, true_and, and_true, imp_self, implies_true]; exact id)
    | (refine fun (K : KO XP) => ?_; simp only [eq_self, true_and, and_true, and_imp, imp_self, implies_true]; intros; simp_all only [and_self, imp_self, implies_true]; done)
    | (intro (K : KO XP); simp only [and_imp]; intros; repeat' first | with_reducible apply And.intro | with_reducible exact trivial | with_reducible exact Eq.refl _ | with_reducible assumption)
    | intro _

  all_goals first
    | exact hA
    | rfl
    | exact gis0y (by assumption)
    | exact gis0n (by assumption)
/-- What the executor leaves to be shown of (*roundelay/claim.Claim).Step, written out. -/
theorem cg1_vc (tok seg slot g priv : Nat) (got : Bool) (e : Nat) (A : PA) : (callN Try.prog (tblCg : List (Smry Try.prog XP)) (fun _ _ => false) 100 20 47 [.c (.ptr 0 0)] ⟨clmHeap (⟨1, tok, seg, slot, g, priv, got, e⟩ : Clm) .mk ++ [(1, parO A)], 100⟩ (bN 3) (fun v m _ => clmPost (clmStepG (⟨1, tok, seg, slot, g, priv, got, e⟩ : Clm) A) (clmAG (⟨1, tok, seg, slot, g, priv, got, e⟩ : Clm) A) v m)) = (
    ((↑tok : Int) = (↑tok : Int) ∧ (↑seg : Int) = (↑seg : Int) ∧ (↑slot : Int) = (↑slot : Int) ∧ (↑g : Int) = (↑g : Int) ∧ (↑priv : Int) = (↑priv : Int) ∧ got = got ∧ (↑e : Int) = (↑e :
    Int) ∧ (((if inG (↑g : Int) = true then (↑((7 : Nat) * (2 : Nat) ^ (↑g : Int).toNat) : Int) else (0 : Int)) = if inG (↑g : Int) = true then (↑((7 : Nat) * (2 : Nat) ^ (↑g :
    Int).toNat) : Int) else (0 : Int)) ∧ ((0 : Int) ≤ if inG (↑g : Int) = true then (↑((7 : Nat) * (2 : Nat) ^ (↑g : Int).toNat) : Int) else (0 : Int)) ∧ ((8 : Int) * if inG (↑g : Int)
    = true then (↑((7 : Nat) * (2 : Nat) ^ (↑g : Int).toNat) : Int) else (0 : Int)) ≤ (281474976710656 : Int) ∧ (if inG (↑g : Int) = true then (↑((7 : Nat) * (2 : Nat) ^ (↑g :
    Int).toNat) : Int) else (0 : Int)) ≤ (1000000000 : Int) ∧ (↑tok : Int) = (↑tok : Int) ∧ (↑seg : Int) = (↑seg : Int) ∧ (↑slot : Int) = (↑slot : Int) ∧ (↑g : Int) = (↑g : Int) ∧
    (↑priv : Int) = (↑priv : Int) ∧ got = got ∧ (↑e : Int) = (↑e : Int) ∧ ((if inG (↑g : Int) = true then (↑((7 : Nat) * (2 : Nat) ^ (↑g : Int).toNat) : Int) else (0 : Int)).toNat = (if
    inG (↑g : Int) = true then (↑((7 : Nat) * (2 : Nat) ^ (↑g : Int).toNat) : Int) else (0 : Int)).toNat ∧ (if inG (↑g : Int) = true then (↑((7 : Nat) * (2 : Nat) ^ (↑g : Int).toNat) :
    Int) else (0 : Int)).toNat = (if inG (↑g : Int) = true then (↑((7 : Nat) * (2 : Nat) ^ (↑g : Int).toNat) : Int) else (0 : Int)).toNat ∧ ((1 : Nat) ≤ (if inG (↑g : Int) = true then
    (↑((7 : Nat) * (2 : Nat) ^ (↑g : Int).toNat) : Int) else (0 : Int)).toNat ∧ (if inG (↑g : Int) = true then (↑((7 : Nat) * (2 : Nat) ^ (↑g : Int).toNat) : Int) else (0 : Int)).toNat
    ≤ (2048 : Nat)) ∧ A.used + (if inG (↑g : Int) = true then (↑((7 : Nat) * (2 : Nat) ^ (↑g : Int).toNat) : Int) else (0 : Int)).toNat ≤ A.cap ∧ A.births < (268435455 : Nat) ∧ (∀ (i :
    Nat), i < (if inG (↑g : Int) = true then (↑((7 : Nat) * (2 : Nat) ^ (↑g : Int).toNat) : Int) else (0 : Int)).toNat → (0 : Int) ≤ (0 : Int) ∧ (0 : Int) < (18446744073709551616 :
    Int)) ∧ ∃ (tok_1 : Nat), ∃ (seg_1 : Nat), ∃ (slot_1 : Nat), ∃ (g_1 : Nat), ∃ (priv_1 : Nat), ∃ (got_1 : Bool), ∃ (e_1 : Nat), Is (Clm.mk (2 : Nat) tok_1 seg_1 slot_1 g_1 priv_1
    got_1 e_1) (clmStepG (Clm.mk (1 : Nat) tok seg slot g priv got e) A) ∧ ((((0 : Nat) = (0 : Nat) ∧ True) ∧ True) ∧ (0 : Nat) = (0 : Nat) ∧ (↑tok_1 : Int) = (↑tok : Int) ∧ (↑seg_1 :
    Int) = (↑seg : Int) ∧ (↑slot_1 : Int) = (↑slot : Int) ∧ (↑g_1 : Int) = (↑g : Int) ∧ (↑priv_1 : Int) = (↑A.hdlG : Int) ∧ got_1 = got ∧ (↑e_1 : Int) = (↑e : Int) ∧ True) ∧ clmAG
    (Clm.mk (1 : Nat) tok seg slot g priv got e) A = A.layG (natsOf (if inG (↑(Clm.mk (1 : Nat) tok seg slot g priv got e).g : Int) = true then (↑((7 : Nat) * (2 : Nat) ^ (↑(Clm.mk (1 :
    Nat) tok seg slot g priv got e).g : Int).toNat) : Int) else (0 : Int)).toNat fun (x : Nat) => (0 : Int)) ∧ True) ∧ True) ∧ True) ∧ True) := by
  kernel_rfl
theorem cg1_run (tok seg slot g priv : Nat) (got : Bool) (e : Nat) (A : PA) (hc : clmOkG (⟨1, tok, seg, slot, g, priv, got, e⟩ : Clm) A) : Run (callN Try.prog (tblCg : List (Smry Try.prog XP)) (fun _ _ => false) 100 20 47 [.c (.ptr 0 0)] ⟨clmHeap (⟨1, tok, seg, slot, g, priv, got, e⟩ : Clm) .mk ++ [(1, parO A)], 100⟩ (bN 3) (fun v m _ => clmPost (clmStepG (⟨1, tok, seg, slot, g, priv, got, e⟩ : Clm) A) (clmAG (⟨1, tok, seg, slot, g, priv, got, e⟩ : Clm) A) v m)) := by
  constructor
  rw [cg1_vc]
  obtain ⟨hg, hu, hbi⟩ := hc
  dsimp only at hg hu hbi
  have hp : 2 ^ g ≤ 128 := by
    have : 2 ^ g ≤ 2 ^ 7 := Nat.pow_le_pow_right (by omega) (by omega)
    omega
  have hp1 : 1 ≤ 2 ^ g := Nat.one_le_two_pow
  have ei : inG (g : Int) = true := by unfold inG; simp only [Bool.and_eq_true, decide_eq_true_eq]; omega
  simp only [ei, if_true, Int.toNat_natCast]
  repeat' first
    | with_reducible apply And.intro
    | with_reducible exact trivial
    | with_reducible exact fun _ h => h
    | with_reducible exact Eq.refl _
    | (refine fun (K : KO XP) => ?_; simp only [eq_self, true_and, and_true, imp_self, implies_true]; done)
    | (refine fun (K : KO XP) => ?_; simp only [eq_self, true_and, and_true, imp_self, implies_true]; exact id)
    | (refine fun (K : KO XP) => ?_; simp only [eq_self, true_and, and_true, and_imp, imp_self, implies_true]; intros; simp_all only [and_self, imp_self, implies_true]; done)
    | (intro (K : KO XP); simp only [and_imp]; intros; repeat' first | with_reducible apply And.intro | with_reducible exact trivial | with_reducible exact Eq.refl _ | with_reducible assumption)
    | intro _

  any_goals first
    | with_reducible refine ⟨tok, seg, slot, g, A.hdlG, got, e, ?_, ?_⟩
    | skip

  repeat' first
    | with_reducible apply And.intro
    | with_reducible exact trivial
    | with_reducible exact fun _ h => h
    | with_reducible exact Eq.refl _
    | (refine fun (K : KO XP) => ?_; simp only [eq_self, true_and, and_true, imp_self, implies_true]; done)
    | (refine fun (K : KO XP) => ?_; simp only [eq_self, true_and, and_true, imp_self, implies_true]; exact id)
    | (refine fun (K : KO XP) => ?_; simp only [eq_self, true_and, and_true, and_imp, imp_self, implies_true]; intros; simp_all only [and_self, imp_self, implies_true]; done)
    | (intro (K : KO XP); simp only [and_imp]; intros; repeat' first | with_reducible apply And.intro | with_reducible exact trivial | with_reducible exact Eq.refl _ | with_reducible assumption)
    | intro _

  all_goals first
    | omega
    | exact hbi
    | rfl
/-- What the executor leaves to be shown of (*roundelay/claim.Claim).Step, written out. -/
theorem cg2_vc (tok seg slot g priv : Nat) (got : Bool) (e : Nat) (A : PA) : (callN Try.prog (tblCg : List (Smry Try.prog XP)) (fun _ _ => false) 100 20 47 [.c (.ptr 0 0)] ⟨clmHeap (⟨2, tok, seg, slot, g, priv, got, e⟩ : Clm) .mk ++ [(1, parO A)], 100⟩ (bN 3) (fun v m _ => clmPost (clmStepG (⟨2, tok, seg, slot, g, priv, got, e⟩ : Clm) A) (clmAG (⟨2, tok, seg, slot, g, priv, got, e⟩ : Clm) A) v m)) = (
    ((↑tok : Int) = (↑tok : Int) ∧ (↑seg : Int) = (↑seg : Int) ∧ (↑slot : Int) = (↑slot : Int) ∧ (↑g : Int) = (↑g : Int) ∧ (↑priv : Int) = (↑priv : Int) ∧ got = got ∧ (↑e : Int) = (↑e :
    Int) ∧ (A.Has (0 : Int) ((1 : Int) + max (0 : Int) (min (↑g : Int) (7 : Int))) ∧ ((0 : Int) ≤ (↑priv : Int) ∧ (↑priv : Int) < (18446744073709551616 : Int)) ∧ (0 : Int) ≤ (0 : Int) ∧
    ((!decide ((↑(A.rd (0 : Int) ((1 : Int) + max (0 : Int) (min (↑g : Int) (7 : Int)))) : Int) = (0 : Int))) = true → ∃ (tok_1 : Nat), ∃ (seg_1 : Nat), ∃ (slot_1 : Nat), ∃ (g_1 : Nat),
    ∃ (priv_1 : Nat), ∃ (got_1 : Bool), ∃ (e_1 : Nat), Is (Clm.mk (3 : Nat) tok_1 seg_1 slot_1 g_1 priv_1 got_1 e_1) (clmStepG (Clm.mk (2 : Nat) tok seg slot g priv got e) A) ∧ ((((0 :
    Nat) = (0 : Nat) ∧ True) ∧ True) ∧ (0 : Nat) = (0 : Nat) ∧ (↑tok_1 : Int) = (↑tok : Int) ∧ (↑seg_1 : Int) = (↑seg : Int) ∧ (↑slot_1 : Int) = (↑slot : Int) ∧ (↑g_1 : Int) = (↑g :
    Int) ∧ (↑priv_1 : Int) = (↑priv : Int) ∧ got_1 = got ∧ (↑e_1 : Int) = (↑e : Int) ∧ True) ∧ clmAG (Clm.mk (2 : Nat) tok seg slot g priv got e) A = A.swapQ (0 : Int) ((1 : Int) + max
    (0 : Int) (min (↑g : Int) (7 : Int))) (0 : Int) (↑priv : Int) ∧ True) ∧ ((!decide ((↑(A.rd (0 : Int) ((1 : Int) + max (0 : Int) (min (↑g : Int) (7 : Int)))) : Int) = (0 : Int))) =
    false → ∃ (tok_1 : Nat), ∃ (seg_1 : Nat), ∃ (slot_1 : Nat), ∃ (g_1 : Nat), ∃ (priv_1 : Nat), ∃ (got_1 : Bool), ∃ (e_1 : Nat), Is (Clm.mk (4 : Nat) tok_1 seg_1 slot_1 g_1 priv_1
    got_1 e_1) (clmStepG (Clm.mk (2 : Nat) tok seg slot g priv got e) A) ∧ ((((0 : Nat) = (0 : Nat) ∧ True) ∧ True) ∧ (0 : Nat) = (0 : Nat) ∧ (↑tok_1 : Int) = (↑tok : Int) ∧ (↑seg_1 :
    Int) = (↑priv : Int) ∧ (↑slot_1 : Int) = (↑slot : Int) ∧ (↑g_1 : Int) = (↑g : Int) ∧ (↑priv_1 : Int) = (0 : Int) ∧ got_1 = got ∧ (↑e_1 : Int) = (↑e : Int) ∧ True) ∧ clmAG (Clm.mk (2
    : Nat) tok seg slot g priv got e) A = A.swapQ (0 : Int) ((1 : Int) + max (0 : Int) (min (↑g : Int) (7 : Int))) (0 : Int) (↑priv : Int) ∧ True)) ∧ True) ∧ True) := by
  kernel_rfl
theorem cg2_run (tok seg slot g priv : Nat) (got : Bool) (e : Nat) (A : PA) (hc : clmOkG (⟨2, tok, seg, slot, g, priv, got, e⟩ : Clm) A) : Run (callN Try.prog (tblCg : List (Smry Try.prog XP)) (fun _ _ => false) 100 20 47 [.c (.ptr 0 0)] ⟨clmHeap (⟨2, tok, seg, slot, g, priv, got, e⟩ : Clm) .mk ++ [(1, parO A)], 100⟩ (bN 3) (fun v m _ => clmPost (clmStepG (⟨2, tok, seg, slot, g, priv, got, e⟩ : Clm) A) (clmAG (⟨2, tok, seg, slot, g, priv, got, e⟩ : Clm) A) v m)) := by
  constructor
  rw [cg2_vc]
  obtain ⟨hg, hA, hp⟩ := hc
  dsimp only at hg hA hp
  have eg : (1 : Int) + max 0 (min (g : Int) 7) = (g : Int) + 1 := by omega
  simp only [eg]
  repeat' first
    | with_reducible apply And.intro
    | with_reducible exact trivial
    | with_reducible exact fun _ h => h
    | with_reducible exact Eq.refl _
    | (refine fun (K : KO XP) => ?_; simp only [eq_self, true_and, and_true, imp_self, implies_true]; done)
    | (refine fun (K : KO XP) => ?_; simp only [eq_self, true_and, and_true, imp_self, implies_true]; exact id)
    | (refine fun (K : KO XP) => ?_; simp only [eq_self, true_and, and_true, and_imp, imp_self, implies_true]; intros; simp_all only [and_self, imp_self, implies_true]; done)
    | (intro (K : KO XP); simp only [and_imp]; intros; repeat' first | with_reducible apply And.intro | with_reducible exact trivial | with_reducible exact Eq.refl _ | with_reducible assumption)
    | intro _

  any_goals first
    | with_reducible refine ⟨tok, seg, slot, g, priv, got, e, gis2n (by assumption), ?_⟩
    | with_reducible refine ⟨tok, priv, slot, g, 0, got, e, gis2y (by assumption), ?_⟩
    | skip

  repeat' first
    | with_reducible apply And.intro
    | with_reducible exact trivial
    | with_reducible exact fun _ h => h
    | with_reducible exact Eq.refl _
    | (refine fun (K : KO XP) => ?_; simp only [eq_self, true_and, and_true, imp_self, implies_true]; done)
    | (refine fun (K : KO XP) => ?_; simp only [eq_self, true_and, and_true, imp_self, implies_true]; exact id)
    | (refine fun (K : KO XP) => ?_; simp only [eq_self, true_and, and_true, and_imp, imp_self, implies_true]; intros; simp_all only [and_self, imp_self, implies_true]; done)
    | (intro (K : KO XP); simp only [and_imp]; intros; repeat' first | with_reducible apply And.intro | with_reducible exact trivial | with_reducible exact Eq.refl _ | with_reducible assumption)
    | intro _

  all_goals first
    | exact hA
    | omega
    | rfl
/-- What the executor leaves to be shown of (*roundelay/claim.Claim).Step, written out. -/
theorem cg3_vc (tok seg slot g priv : Nat) (got : Bool) (e : Nat) (A : PA) : (callN Try.prog (tblCg : List (Smry Try.prog XP)) (fun _ _ => false) 100 20 47 [.c (.ptr 0 0)] ⟨clmHeap (⟨3, tok, seg, slot, g, priv, got, e⟩ : Clm) .mk ++ [(1, parO A)], 100⟩ (bN 3) (fun v m _ => clmPost (clmStepG (⟨3, tok, seg, slot, g, priv, got, e⟩ : Clm) A) (clmAG (⟨3, tok, seg, slot, g, priv, got, e⟩ : Clm) A) v m)) = (
    (((0 : Int) ≤ (↑priv : Int) ∧ (↑priv : Int) < (18446744073709551616 : Int)) ∧ ((∃ (z : Nat → Value), ArInv (A.ar z)) → ∃ (tok_1 : Nat), ∃ (seg_1 : Nat), ∃ (slot_1 : Nat), ∃ (g_1 :
    Nat), ∃ (priv_1 : Nat), ∃ (got_1 : Bool), ∃ (e_1 : Nat), Is (Clm.mk (0 : Nat) tok_1 seg_1 slot_1 g_1 priv_1 got_1 e_1) (clmStepG (Clm.mk (3 : Nat) tok seg slot g priv got e) A) ∧
    ((((0 : Nat) = (0 : Nat) ∧ True) ∧ True) ∧ (0 : Nat) = (0 : Nat) ∧ (↑tok_1 : Int) = (↑tok : Int) ∧ (↑seg_1 : Int) = (↑seg : Int) ∧ (↑slot_1 : Int) = (↑slot : Int) ∧ (↑g_1 : Int) =
    (↑g : Int) ∧ (↑priv_1 : Int) = (0 : Int) ∧ got_1 = got ∧ (↑e_1 : Int) = (↑e : Int) ∧ True) ∧ clmAG (Clm.mk (3 : Nat) tok seg slot g priv got e) A = A.frX (↑priv : Int) ∧ True)) ∧
    True) := by
  kernel_rfl
theorem cg3_run (tok seg slot g priv : Nat) (got : Bool) (e : Nat) (A : PA) (hc : clmOkG (⟨3, tok, seg, slot, g, priv, got, e⟩ : Clm) A) : Run (callN Try.prog (tblCg : List (Smry Try.prog XP)) (fun _ _ => false) 100 20 47 [.c (.ptr 0 0)] ⟨clmHeap (⟨3, tok, seg, slot, g, priv, got, e⟩ : Clm) .mk ++ [(1, parO A)], 100⟩ (bN 3) (fun v m _ => clmPost (clmStepG (⟨3, tok, seg, slot, g, priv, got, e⟩ : Clm) A) (clmAG (⟨3, tok, seg, slot, g, priv, got, e⟩ : Clm) A) v m)) := by
  constructor
  rw [cg3_vc]
  have hc : priv < 18446744073709551616 := hc
  repeat' first
    | with_reducible apply And.intro
    | with_reducible exact trivial
    | with_reducible exact fun _ h => h
    | with_reducible exact Eq.refl _
    | (refine fun (K : KO XP) => ?_; simp only [eq_self, true_and, and_true, imp_self, implies_true]; done)
    | (refine fun (K : KO XP) => ?_; simp only [eq_self, true_and, and_true, imp_self, implies_true]; exact id)
    | (refine fun (K : KO XP) => ?_; simp only [eq_self, true_and, and_true, and_imp, imp_self, implies_true]; intros; simp_all only [and_self, imp_self, implies_true]; done)
    | (intro (K : KO XP); simp only [and_imp]; intros; repeat' first | with_reducible apply And.intro | with_reducible exact trivial | with_reducible exact Eq.refl _ | with_reducible assumption)
    | intro _

  any_goals first
    | with_reducible refine ⟨tok, seg, slot, g, 0, got, e, ?_, ?_⟩
    | skip

  repeat' first
    | with_reducible apply And.intro
    | with_reducible exact trivial
    | with_reducible exact fun _ h => h
    | with_reducible exact Eq.refl _
    | (refine fun (K : KO XP) => ?_; simp only [eq_self, true_and, and_true, imp_self, implies_true]; done)
    | (refine fun (K : KO XP) => ?_; simp only [eq_self, true_and, and_true, imp_self, implies_true]; exact id)
    | (refine fun (K : KO XP) => ?_; simp only [eq_self, true_and, and_true, and_imp, imp_self, implies_true]; intros; simp_all only [and_self, imp_self, implies_true]; done)
    | (intro (K : KO XP); simp only [and_imp]; intros; repeat' first | with_reducible apply And.intro | with_reducible exact trivial | with_reducible exact Eq.refl _ | with_reducible assumption)
    | intro _

  all_goals first
    | omega
    | rfl
/-- What the executor leaves to be shown of (*roundelay/claim.Claim).Step, written out. -/
theorem cg4_vc (tok seg slot g priv : Nat) (got : Bool) (e : Nat) (A : PA) : (callN Try.prog (tblCg : List (Smry Try.prog XP)) (fun _ _ => false) 100 20 47 [.c (.ptr 0 0)] ⟨clmHeap (⟨4, tok, seg, slot, g, priv, got, e⟩ : Clm) .mk ++ [(1, parO A)], 100⟩ (bN 5) (fun v m _ => clmPost (clmStepG (⟨4, tok, seg, slot, g, priv, got, e⟩ : Clm) A) (clmAG (⟨4, tok, seg, slot, g, priv, got, e⟩ : Clm) A) v m)) = (
    (0 : Int) ≤ (↑seg : Int) ∧ (A.Has (if (inS (↑slot : Int) && inF (0 : Int)) = true then (↑seg : Int) else (0 : Int)) (if (inS (↑slot : Int) && inF (0 : Int)) = true then (5 : Int) *
    (↑(segO (↑slot : Int).toNat) : Int) + (0 : Int) else (0 : Int)) ∧ ((0 : Int) ≤ (↑tok : Int) ∧ (↑tok : Int) < (18446744073709551616 : Int)) ∧ (0 : Int) ≤ (0 : Int) ∧ ((!decide
    ((↑(A.rd (if (inS (↑slot : Int) && inF (0 : Int)) = true then (↑seg : Int) else (0 : Int)) (if (inS (↑slot : Int) && inF (0 : Int)) = true then (5 : Int) * (↑(segO (↑slot :
    Int).toNat) : Int) + (0 : Int) else (0 : Int))) : Int) = (0 : Int))) = true → ((-9223372036854775808 : Int) ≤ (↑slot : Int) + (1 : Int) ∧ (↑slot : Int) + (1 : Int) ≤
    (9223372036854775807 : Int)) ∧ ((!inS ((↑slot : Int) + (1 : Int))) = true → ∃ (tok_1 : Nat), ∃ (seg_1 : Nat), ∃ (slot_1 : Nat), ∃ (g_1 : Nat), ∃ (priv_1 : Nat), ∃ (got_1 : Bool), ∃
    (e_1 : Nat), Is (Clm.mk (5 : Nat) tok_1 seg_1 slot_1 g_1 priv_1 got_1 e_1) (clmStepG (Clm.mk (4 : Nat) tok seg slot g priv got e) A) ∧ (Value.nilFunc = Value.nilFunc ∧ (0 : Nat) =
    (0 : Nat) ∧ (↑tok_1 : Int) = (↑tok : Int) ∧ (↑seg_1 : Int) = (↑seg : Int) ∧ (↑slot_1 : Int) = (↑slot : Int) + (1 : Int) ∧ (↑g_1 : Int) = (↑g : Int) ∧ (↑priv_1 : Int) = (↑priv : Int)
    ∧ got_1 = got ∧ (↑e_1 : Int) = (12 : Int) ∧ True) ∧ clmAG (Clm.mk (4 : Nat) tok seg slot g priv got e) A = A.swapQ (if (inS (↑slot : Int) && inF (0 : Int)) = true then (↑seg : Int)
    else (0 : Int)) (if (inS (↑slot : Int) && inF (0 : Int)) = true then (5 : Int) * (↑(segO (↑slot : Int).toNat) : Int) + (0 : Int) else (0 : Int)) (0 : Int) (↑tok : Int) ∧ True) ∧
    ((!inS ((↑slot : Int) + (1 : Int))) = false → (((if inS ((↑slot : Int) + (1 : Int)) = true then (↑(segO ((↑slot : Int) + (1 : Int)).toNat) : Int) else (0 : Int)) == (0 : Int)) =
    true → ∃ (tok_1 : Nat), ∃ (seg_1 : Nat), ∃ (slot_1 : Nat), ∃ (g_1 : Nat), ∃ (priv_1 : Nat), ∃ (got_1 : Bool), ∃ (e_1 : Nat), Is (Clm.mk (0 : Nat) tok_1 seg_1 slot_1 g_1 priv_1 got_1
    e_1) (clmStepG (Clm.mk (4 : Nat) tok seg slot g priv got e) A) ∧ ((((0 : Nat) = (0 : Nat) ∧ True) ∧ True) ∧ (0 : Nat) = (0 : Nat) ∧ (↑tok_1 : Int) = (↑tok : Int) ∧ (↑seg_1 : Int) =
    (↑seg : Int) ∧ (↑slot_1 : Int) = (↑slot : Int) + (1 : Int) ∧ ((↑g_1 : Int) = if inS ((↑slot : Int) + (1 : Int)) = true then (↑(segG ((↑slot : Int) + (1 : Int)).toNat) : Int) else (0
    : Int)) ∧ (↑priv_1 : Int) = (↑priv : Int) ∧ got_1 = got ∧ (↑e_1 : Int) = (↑e : Int) ∧ True) ∧ clmAG (Clm.mk (4 : Nat) tok seg slot g priv got e) A = A.swapQ (if (inS (↑slot : Int)
    && inF (0 : Int)) = true then (↑seg : Int) else (0 : Int)) (if (inS (↑slot : Int) && inF (0 : Int)) = true then (5 : Int) * (↑(segO (↑slot : Int).toNat) : Int) + (0 : Int) else (0 :
    Int)) (0 : Int) (↑tok : Int) ∧ True) ∧ (((if inS ((↑slot : Int) + (1 : Int)) = true then (↑(segO ((↑slot : Int) + (1 : Int)).toNat) : Int) else (0 : Int)) == (0 : Int)) = false → ∃
    (tok_1 : Nat), ∃ (seg_1 : Nat), ∃ (slot_1 : Nat), ∃ (g_1 : Nat), ∃ (priv_1 : Nat), ∃ (got_1 : Bool), ∃ (e_1 : Nat), Is (Clm.mk (4 : Nat) tok_1 seg_1 slot_1 g_1 priv_1 got_1 e_1)
    (clmStepG (Clm.mk (4 : Nat) tok seg slot g priv got e) A) ∧ ((((0 : Nat) = (0 : Nat) ∧ True) ∧ True) ∧ (0 : Nat) = (0 : Nat) ∧ (↑tok_1 : Int) = (↑tok : Int) ∧ (↑seg_1 : Int) = (↑seg
    : Int) ∧ (↑slot_1 : Int) = (↑slot : Int) + (1 : Int) ∧ (↑g_1 : Int) = (↑g : Int) ∧ (↑priv_1 : Int) = (↑priv : Int) ∧ got_1 = got ∧ (↑e_1 : Int) = (↑e : Int) ∧ True) ∧ clmAG (Clm.mk
    (4 : Nat) tok seg slot g priv got e) A = A.swapQ (if (inS (↑slot : Int) && inF (0 : Int)) = true then (↑seg : Int) else (0 : Int)) (if (inS (↑slot : Int) && inF (0 : Int)) = true
    then (5 : Int) * (↑(segO (↑slot : Int).toNat) : Int) + (0 : Int) else (0 : Int)) (0 : Int) (↑tok : Int) ∧ True))) ∧ ((!decide ((↑(A.rd (if (inS (↑slot : Int) && inF (0 : Int)) =
    true then (↑seg : Int) else (0 : Int)) (if (inS (↑slot : Int) && inF (0 : Int)) = true then (5 : Int) * (↑(segO (↑slot : Int).toNat) : Int) + (0 : Int) else (0 : Int))) : Int) = (0
    : Int))) = false → ∃ (tok_1 : Nat), ∃ (seg_1 : Nat), ∃ (slot_1 : Nat), ∃ (g_1 : Nat), ∃ (priv_1 : Nat), ∃ (got_1 : Bool), ∃ (e_1 : Nat), Is (Clm.mk (5 : Nat) tok_1 seg_1 slot_1 g_1
    priv_1 got_1 e_1) (clmStepG (Clm.mk (4 : Nat) tok seg slot g priv got e) A) ∧ (Value.nilFunc = Value.nilFunc ∧ (0 : Nat) = (0 : Nat) ∧ (↑tok_1 : Int) = (↑tok : Int) ∧ (↑seg_1 : Int)
    = (↑seg : Int) ∧ (↑slot_1 : Int) = (↑slot : Int) ∧ (↑g_1 : Int) = (↑g : Int) ∧ (↑priv_1 : Int) = (↑priv : Int) ∧ got_1 = true ∧ (↑e_1 : Int) = (↑e : Int) ∧ True) ∧ clmAG (Clm.mk (4
    : Nat) tok seg slot g priv got e) A = A.swapQ (if (inS (↑slot : Int) && inF (0 : Int)) = true then (↑seg : Int) else (0 : Int)) (if (inS (↑slot : Int) && inF (0 : Int)) = true then
    (5 : Int) * (↑(segO (↑slot : Int).toNat) : Int) + (0 : Int) else (0 : Int)) (0 : Int) (↑tok : Int) ∧ True)) ∧ True) := by
  kernel_rfl
theorem cg4_run (tok seg slot g priv : Nat) (got : Bool) (e : Nat) (A : PA) (hc : clmOkG (⟨4, tok, seg, slot, g, priv, got, e⟩ : Clm) A) : Run (callN Try.prog (tblCg : List (Smry Try.prog XP)) (fun _ _ => false) 100 20 47 [.c (.ptr 0 0)] ⟨clmHeap (⟨4, tok, seg, slot, g, priv, got, e⟩ : Clm) .mk ++ [(1, parO A)], 100⟩ (bN 5) (fun v m _ => clmPost (clmStepG (⟨4, tok, seg, slot, g, priv, got, e⟩ : Clm) A) (clmAG (⟨4, tok, seg, slot, g, priv, got, e⟩ : Clm) A) v m)) := by
  constructor
  rw [cg4_vc]
  obtain ⟨hs, hA, ht⟩ := hc
  dsimp only at hs hA ht
  have ei : inS (slot : Int) = true := by unfold inS; simp only [Bool.and_eq_true, decide_eq_true_eq]; omega
  have e0 : inF 0 = true := by decide
  have es : ((slot : Int) + 1).toNat = slot + 1 := by omega
  simp only [ei, e0, Bool.and_self, if_true, Int.toNat_natCast, Int.add_zero, es]
  repeat' first
    | with_reducible apply And.intro
    | with_reducible exact trivial
    | with_reducible exact fun _ h => h
    | with_reducible exact Eq.refl _
    | (refine fun (K : KO XP) => ?_; simp only [eq_self, true_and, and_true, imp_self, implies_true]; done)
    | (refine fun (K : KO XP) => ?_; simp only [eq_self, true_and, and_true, imp_self, implies_true]; exact id)
    | (refine fun (K : KO XP) => ?_; simp only [eq_self, true_and, and_true, and_imp, imp_self, implies_true]; intros; simp_all only [and_self, imp_self, implies_true]; done)
    | (intro (K : KO XP); simp only [and_imp]; intros; repeat' first | with_reducible apply And.intro | with_reducible exact trivial | with_reducible exact Eq.refl _ | with_reducible assumption)
    | intro _

  any_goals first
    | with_reducible refine ⟨tok, seg, slot, g, priv, true, e, gis4y (by assumption), ?_⟩
    | with_reducible refine ⟨tok, seg, slot + 1, g, priv, got, 12, gis4e (by assumption) (by assumption), ?_⟩
    | with_reducible refine ⟨tok, seg, slot + 1, segG (slot + 1), priv, got, e, gis4g (by assumption) (by assumption) (by assumption), ?_⟩
    | with_reducible refine ⟨tok, seg, slot + 1, g, priv, got, e, gis4t (by assumption) (by assumption) (by assumption), ?_⟩
    | skip

  repeat' first
    | with_reducible apply And.intro
    | with_reducible exact trivial
    | with_reducible exact fun _ h => h
    | with_reducible exact Eq.refl _
    | (refine fun (K : KO XP) => ?_; simp only [eq_self, true_and, and_true, imp_self, implies_true]; done)
    | (refine fun (K : KO XP) => ?_; simp only [eq_self, true_and, and_true, imp_self, implies_true]; exact id)
    | (refine fun (K : KO XP) => ?_; simp only [eq_self, true_and, and_true, and_imp, imp_self, implies_true]; intros; simp_all only [and_self, imp_self, implies_true]; done)
    | (intro (K : KO XP); simp only [and_imp]; intros; repeat' first | with_reducible apply And.intro | with_reducible exact trivial | with_reducible exact Eq.refl _ | with_reducible assumption)
    | intro _

  all_goals first
    | exact hA
    | omega
    | rfl
    | (rw [if_pos (by simpa using ‹(!inS _) = false›)])
/-- What the executor leaves to be shown of (*roundelay/claim.Claim).Step, written out. -/
theorem cg5_vc (tok seg slot g priv : Nat) (got : Bool) (e : Nat) (A : PA) : (callN Try.prog (tblCg : List (Smry Try.prog XP)) (fun _ _ => false) 100 20 47 [.c (.ptr 0 0)] ⟨clmHeap (⟨5, tok, seg, slot, g, priv, got, e⟩ : Clm) .mk ++ [(1, parO A)], 100⟩ (bN 3) (fun v m _ => clmPost (clmStepG (⟨5, tok, seg, slot, g, priv, got, e⟩ : Clm) A) (clmAG (⟨5, tok, seg, slot, g, priv, got, e⟩ : Clm) A) v m)) = (
    ∃ (tok_1 : Nat), ∃ (seg_1 : Nat), ∃ (slot_1 : Nat), ∃ (g_1 : Nat), ∃ (priv_1 : Nat), ∃ (got_1 : Bool), ∃ (e_1 : Nat), Is (Clm.mk (5 : Nat) tok_1 seg_1 slot_1 g_1 priv_1 got_1 e_1)
    (clmStepG (Clm.mk (5 : Nat) tok seg slot g priv got e) A) ∧ (Value.nilFunc = Value.nilFunc ∧ (0 : Nat) = (0 : Nat) ∧ (↑tok_1 : Int) = (↑tok : Int) ∧ (↑seg_1 : Int) = (↑seg : Int) ∧
    (↑slot_1 : Int) = (↑slot : Int) ∧ (↑g_1 : Int) = (↑g : Int) ∧ (↑priv_1 : Int) = (↑priv : Int) ∧ got_1 = got ∧ (↑e_1 : Int) = (↑e : Int) ∧ True) ∧ clmAG (Clm.mk (5 : Nat) tok seg
    slot g priv got e) A = A ∧ True) := by
  kernel_rfl
theorem cg5_run (tok seg slot g priv : Nat) (got : Bool) (e : Nat) (A : PA) (hc : clmOkG (⟨5, tok, seg, slot, g, priv, got, e⟩ : Clm) A) : Run (callN Try.prog (tblCg : List (Smry Try.prog XP)) (fun _ _ => false) 100 20 47 [.c (.ptr 0 0)] ⟨clmHeap (⟨5, tok, seg, slot, g, priv, got, e⟩ : Clm) .mk ++ [(1, parO A)], 100⟩ (bN 3) (fun v m _ => clmPost (clmStepG (⟨5, tok, seg, slot, g, priv, got, e⟩ : Clm) A) (clmAG (⟨5, tok, seg, slot, g, priv, got, e⟩ : Clm) A) v m)) := by
  constructor
  rw [cg5_vc]
  exact ⟨tok, seg, slot, g, priv, got, e, rfl, ⟨rfl, rfl, rfl, rfl, rfl, rfl, rfl, rfl, rfl, trivial⟩, rfl, trivial⟩
end Go.Proofs.Ytnfpkadepomjjaa

/- A claim, whatever others did: Step, Private as contracts. -/
namespace Go.Proofs.Ytnfpkadepomjjaa
open Go Go.RowKit
set_option maxRecDepth 1000000
set_option maxHeartbeats 0
set_option maxRecDepth 100000
def privPost (x : Clm) (A : PA) (v : SV) (m : MP) : Prop := match v with
  | .c .nls => x.priv = 0 ∧ outM (.c .nls) (clmHeap x .mk ++ [(1, parO A)]) v m
  | _ => x.priv ≠ 0 ∧ outM (.c (.sli 20 1 true 0 true 1 1)) (clmHeap x .mk ++ [(1, parO A), (20, .cells [.int false .u64 (x.priv : Int)] 25)]) v m
/-- What the executor leaves to be shown of (*roundelay/claim.Claim).Private, written out. -/
theorem clmV0_vc (tok seg slot g priv : Nat) (got : Bool) (e : Nat) (A : PA) : (callN Try.prog ([] : List (Smry Try.prog XP)) (fun _ _ => false) 100 20 48 [.c (.ptr 0 0)] ⟨clmHeap (⟨0, tok, seg, slot, g, priv, got, e⟩ : Clm) .mk ++ [(1, parO A)], 100⟩ (bN 3) (fun v m _ => privPost (⟨0, tok, seg, slot, g, priv, got, e⟩ : Clm) A v m)) = (
    (((↑priv : Int) == (0 : Int)) = true → priv = (0 : Nat) ∧ ((((0 : Nat) = (0 : Nat) ∧ True) ∧ True) ∧ (0 : Nat) = (0 : Nat) ∧ (↑tok : Int) = (↑tok : Int) ∧ (↑seg : Int) = (↑seg :
    Int) ∧ (↑slot : Int) = (↑slot : Int) ∧ (↑g : Int) = (↑g : Int) ∧ (↑priv : Int) = (↑priv : Int) ∧ got = got ∧ (↑e : Int) = (↑e : Int) ∧ True) ∧ A = A ∧ True) ∧ (((↑priv : Int) == (0
    : Int)) = false → priv ≠ (0 : Nat) ∧ (0 : Nat) = (0 : Nat) ∧ (1 : Nat) = (1 : Nat) ∧ ((((0 : Nat) = (0 : Nat) ∧ True) ∧ True) ∧ (0 : Nat) = (0 : Nat) ∧ (↑tok : Int) = (↑tok : Int) ∧
    (↑seg : Int) = (↑seg : Int) ∧ (↑slot : Int) = (↑slot : Int) ∧ (↑g : Int) = (↑g : Int) ∧ (↑priv : Int) = (↑priv : Int) ∧ got = got ∧ (↑e : Int) = (↑e : Int) ∧ True) ∧ A = A ∧ ((↑priv
    : Int) = (↑priv : Int) ∧ True) ∧ True)) := by
  kernel_rfl
theorem clmV0_run (tok seg slot g priv : Nat) (got : Bool) (e : Nat) (A : PA) (hc : True) : Run (callN Try.prog ([] : List (Smry Try.prog XP)) (fun _ _ => false) 100 20 48 [.c (.ptr 0 0)] ⟨clmHeap (⟨0, tok, seg, slot, g, priv, got, e⟩ : Clm) .mk ++ [(1, parO A)], 100⟩ (bN 3) (fun v m _ => privPost (⟨0, tok, seg, slot, g, priv, got, e⟩ : Clm) A v m)) := by
  constructor
  rw [clmV0_vc]
  repeat' first
    | with_reducible apply And.intro
    | with_reducible exact trivial
    | with_reducible exact fun _ h => h
    | with_reducible exact Eq.refl _
    | (refine fun (K : KO XP) => ?_; simp only [eq_self, true_and, and_true, imp_self, implies_true]; done)
    | (refine fun (K : KO XP) => ?_; simp only [eq_self, true_and, and_true, imp_self, implies_true]; exact id)
    | (refine fun (K : KO XP) => ?_; simp only [eq_self, true_and, and_true, and_imp, imp_self, implies_true]; intros; simp_all only [and_self, imp_self, implies_true]; done)
    | (intro (K : KO XP); simp only [and_imp]; intros; repeat' first | with_reducible apply And.intro | with_reducible exact trivial | with_reducible exact Eq.refl _ | with_reducible assumption)
    | intro _

  all_goals first
    | rfl
    | (have h := ‹((priv : Int) == 0) = true›; have := eq_of_beq h; omega)
    | (have h := ‹((priv : Int) == 0) = false›; have := ne_of_beq_false h; omega)
/-- What the executor leaves to be shown of (*roundelay/claim.Claim).Private, written out. -/
theorem clmV1_vc (tok seg slot g priv : Nat) (got : Bool) (e : Nat) (A : PA) : (callN Try.prog ([] : List (Smry Try.prog XP)) (fun _ _ => false) 100 20 48 [.c (.ptr 0 0)] ⟨clmHeap (⟨1, tok, seg, slot, g, priv, got, e⟩ : Clm) .mk ++ [(1, parO A)], 100⟩ (bN 3) (fun v m _ => privPost (⟨1, tok, seg, slot, g, priv, got, e⟩ : Clm) A v m)) = (
    (((↑priv : Int) == (0 : Int)) = true → priv = (0 : Nat) ∧ ((((0 : Nat) = (0 : Nat) ∧ True) ∧ True) ∧ (0 : Nat) = (0 : Nat) ∧ (↑tok : Int) = (↑tok : Int) ∧ (↑seg : Int) = (↑seg :
    Int) ∧ (↑slot : Int) = (↑slot : Int) ∧ (↑g : Int) = (↑g : Int) ∧ (↑priv : Int) = (↑priv : Int) ∧ got = got ∧ (↑e : Int) = (↑e : Int) ∧ True) ∧ A = A ∧ True) ∧ (((↑priv : Int) == (0
    : Int)) = false → priv ≠ (0 : Nat) ∧ (0 : Nat) = (0 : Nat) ∧ (1 : Nat) = (1 : Nat) ∧ ((((0 : Nat) = (0 : Nat) ∧ True) ∧ True) ∧ (0 : Nat) = (0 : Nat) ∧ (↑tok : Int) = (↑tok : Int) ∧
    (↑seg : Int) = (↑seg : Int) ∧ (↑slot : Int) = (↑slot : Int) ∧ (↑g : Int) = (↑g : Int) ∧ (↑priv : Int) = (↑priv : Int) ∧ got = got ∧ (↑e : Int) = (↑e : Int) ∧ True) ∧ A = A ∧ ((↑priv
    : Int) = (↑priv : Int) ∧ True) ∧ True)) := by
  kernel_rfl
theorem clmV1_run (tok seg slot g priv : Nat) (got : Bool) (e : Nat) (A : PA) (hc : True) : Run (callN Try.prog ([] : List (Smry Try.prog XP)) (fun _ _ => false) 100 20 48 [.c (.ptr 0 0)] ⟨clmHeap (⟨1, tok, seg, slot, g, priv, got, e⟩ : Clm) .mk ++ [(1, parO A)], 100⟩ (bN 3) (fun v m _ => privPost (⟨1, tok, seg, slot, g, priv, got, e⟩ : Clm) A v m)) := by
  constructor
  rw [clmV1_vc]
  repeat' first
    | with_reducible apply And.intro
    | with_reducible exact trivial
    | with_reducible exact fun _ h => h
    | with_reducible exact Eq.refl _
    | (refine fun (K : KO XP) => ?_; simp only [eq_self, true_and, and_true, imp_self, implies_true]; done)
    | (refine fun (K : KO XP) => ?_; simp only [eq_self, true_and, and_true, imp_self, implies_true]; exact id)
    | (refine fun (K : KO XP) => ?_; simp only [eq_self, true_and, and_true, and_imp, imp_self, implies_true]; intros; simp_all only [and_self, imp_self, implies_true]; done)
    | (intro (K : KO XP); simp only [and_imp]; intros; repeat' first | with_reducible apply And.intro | with_reducible exact trivial | with_reducible exact Eq.refl _ | with_reducible assumption)
    | intro _

  all_goals first
    | rfl
    | (have h := ‹((priv : Int) == 0) = true›; have := eq_of_beq h; omega)
    | (have h := ‹((priv : Int) == 0) = false›; have := ne_of_beq_false h; omega)
/-- What the executor leaves to be shown of (*roundelay/claim.Claim).Private, written out. -/
theorem clmV2_vc (tok seg slot g priv : Nat) (got : Bool) (e : Nat) (A : PA) : (callN Try.prog ([] : List (Smry Try.prog XP)) (fun _ _ => false) 100 20 48 [.c (.ptr 0 0)] ⟨clmHeap (⟨2, tok, seg, slot, g, priv, got, e⟩ : Clm) .mk ++ [(1, parO A)], 100⟩ (bN 3) (fun v m _ => privPost (⟨2, tok, seg, slot, g, priv, got, e⟩ : Clm) A v m)) = (
    (((↑priv : Int) == (0 : Int)) = true → priv = (0 : Nat) ∧ ((((0 : Nat) = (0 : Nat) ∧ True) ∧ True) ∧ (0 : Nat) = (0 : Nat) ∧ (↑tok : Int) = (↑tok : Int) ∧ (↑seg : Int) = (↑seg :
    Int) ∧ (↑slot : Int) = (↑slot : Int) ∧ (↑g : Int) = (↑g : Int) ∧ (↑priv : Int) = (↑priv : Int) ∧ got = got ∧ (↑e : Int) = (↑e : Int) ∧ True) ∧ A = A ∧ True) ∧ (((↑priv : Int) == (0
    : Int)) = false → priv ≠ (0 : Nat) ∧ (0 : Nat) = (0 : Nat) ∧ (1 : Nat) = (1 : Nat) ∧ ((((0 : Nat) = (0 : Nat) ∧ True) ∧ True) ∧ (0 : Nat) = (0 : Nat) ∧ (↑tok : Int) = (↑tok : Int) ∧
    (↑seg : Int) = (↑seg : Int) ∧ (↑slot : Int) = (↑slot : Int) ∧ (↑g : Int) = (↑g : Int) ∧ (↑priv : Int) = (↑priv : Int) ∧ got = got ∧ (↑e : Int) = (↑e : Int) ∧ True) ∧ A = A ∧ ((↑priv
    : Int) = (↑priv : Int) ∧ True) ∧ True)) := by
  kernel_rfl
theorem clmV2_run (tok seg slot g priv : Nat) (got : Bool) (e : Nat) (A : PA) (hc : True) : Run (callN Try.prog ([] : List (Smry Try.prog XP)) (fun _ _ => false) 100 20 48 [.c (.ptr 0 0)] ⟨clmHeap (⟨2, tok, seg, slot, g, priv, got, e⟩ : Clm) .mk ++ [(1, parO A)], 100⟩ (bN 3) (fun v m _ => privPost (⟨2, tok, seg, slot, g, priv, got, e⟩ : Clm) A v m)) := by
  constructor
  rw [clmV2_vc]
  repeat' first
    | with_reducible apply And.intro
    | with_reducible exact trivial
    | with_reducible exact fun _ h => h
    | with_reducible exact Eq.refl _
    | (refine fun (K : KO XP) => ?_; simp only [eq_self, true_and, and_true, imp_self, implies_true]; done)
    | (refine fun (K : KO XP) => ?_; simp only [eq_self, true_and, and_true, imp_self, implies_true]; exact id)
    | (refine fun (K : KO XP) => ?_; simp only [eq_self, true_and, and_true, and_imp, imp_self, implies_true]; intros; simp_all only [and_self, imp_self, implies_true]; done)
    | (intro (K : KO XP); simp only [and_imp]; intros; repeat' first | with_reducible apply And.intro | with_reducible exact trivial | with_reducible exact Eq.refl _ | with_reducible assumption)
    | intro _

  all_goals first
    | rfl
    | (have h := ‹((priv : Int) == 0) = true›; have := eq_of_beq h; omega)
    | (have h := ‹((priv : Int) == 0) = false›; have := ne_of_beq_false h; omega)
/-- What the executor leaves to be shown of (*roundelay/claim.Claim).Private, written out. -/
theorem clmV3_vc (tok seg slot g priv : Nat) (got : Bool) (e : Nat) (A : PA) : (callN Try.prog ([] : List (Smry Try.prog XP)) (fun _ _ => false) 100 20 48 [.c (.ptr 0 0)] ⟨clmHeap (⟨3, tok, seg, slot, g, priv, got, e⟩ : Clm) .mk ++ [(1, parO A)], 100⟩ (bN 3) (fun v m _ => privPost (⟨3, tok, seg, slot, g, priv, got, e⟩ : Clm) A v m)) = (
    (((↑priv : Int) == (0 : Int)) = true → priv = (0 : Nat) ∧ ((((0 : Nat) = (0 : Nat) ∧ True) ∧ True) ∧ (0 : Nat) = (0 : Nat) ∧ (↑tok : Int) = (↑tok : Int) ∧ (↑seg : Int) = (↑seg :
    Int) ∧ (↑slot : Int) = (↑slot : Int) ∧ (↑g : Int) = (↑g : Int) ∧ (↑priv : Int) = (↑priv : Int) ∧ got = got ∧ (↑e : Int) = (↑e : Int) ∧ True) ∧ A = A ∧ True) ∧ (((↑priv : Int) == (0
    : Int)) = false → priv ≠ (0 : Nat) ∧ (0 : Nat) = (0 : Nat) ∧ (1 : Nat) = (1 : Nat) ∧ ((((0 : Nat) = (0 : Nat) ∧ True) ∧ True) ∧ (0 : Nat) = (0 : Nat) ∧ (↑tok : Int) = (↑tok : Int) ∧
    (↑seg : Int) = (↑seg : Int) ∧ (↑slot : Int) = (↑slot : Int) ∧ (↑g : Int) = (↑g : Int) ∧ (↑priv : Int) = (↑priv : Int) ∧ got = got ∧ (↑e : Int) = (↑e : Int) ∧ True) ∧ A = A ∧ ((↑priv
    : Int) = (↑priv : Int) ∧ True) ∧ True)) := by
  kernel_rfl
theorem clmV3_run (tok seg slot g priv : Nat) (got : Bool) (e : Nat) (A : PA) (hc : True) : Run (callN Try.prog ([] : List (Smry Try.prog XP)) (fun _ _ => false) 100 20 48 [.c (.ptr 0 0)] ⟨clmHeap (⟨3, tok, seg, slot, g, priv, got, e⟩ : Clm) .mk ++ [(1, parO A)], 100⟩ (bN 3) (fun v m _ => privPost (⟨3, tok, seg, slot, g, priv, got, e⟩ : Clm) A v m)) := by
  constructor
  rw [clmV3_vc]
  repeat' first
    | with_reducible apply And.intro
    | with_reducible exact trivial
    | with_reducible exact fun _ h => h
    | with_reducible exact Eq.refl _
    | (refine fun (K : KO XP) => ?_; simp only [eq_self, true_and, and_true, imp_self, implies_true]; done)
    | (refine fun (K : KO XP) => ?_; simp only [eq_self, true_and, and_true, imp_self, implies_true]; exact id)
    | (refine fun (K : KO XP) => ?_; simp only [eq_self, true_and, and_true, and_imp, imp_self, implies_true]; intros; simp_all only [and_self, imp_self, implies_true]; done)
    | (intro (K : KO XP); simp only [and_imp]; intros; repeat' first | with_reducible apply And.intro | with_reducible exact trivial | with_reducible exact Eq.refl _ | with_reducible assumption)
    | intro _

  all_goals first
    | rfl
    | (have h := ‹((priv : Int) == 0) = true›; have := eq_of_beq h; omega)
    | (have h := ‹((priv : Int) == 0) = false›; have := ne_of_beq_false h; omega)
/-- What the executor leaves to be shown of (*roundelay/claim.Claim).Private, written out. -/
theorem clmV4_vc (tok seg slot g priv : Nat) (got : Bool) (e : Nat) (A : PA) : (callN Try.prog ([] : List (Smry Try.prog XP)) (fun _ _ => false) 100 20 48 [.c (.ptr 0 0)] ⟨clmHeap (⟨4, tok, seg, slot, g, priv, got, e⟩ : Clm) .mk ++ [(1, parO A)], 100⟩ (bN 3) (fun v m _ => privPost (⟨4, tok, seg, slot, g, priv, got, e⟩ : Clm) A v m)) = (
    (((↑priv : Int) == (0 : Int)) = true → priv = (0 : Nat) ∧ ((((0 : Nat) = (0 : Nat) ∧ True) ∧ True) ∧ (0 : Nat) = (0 : Nat) ∧ (↑tok : Int) = (↑tok : Int) ∧ (↑seg : Int) = (↑seg :
    Int) ∧ (↑slot : Int) = (↑slot : Int) ∧ (↑g : Int) = (↑g : Int) ∧ (↑priv : Int) = (↑priv : Int) ∧ got = got ∧ (↑e : Int) = (↑e : Int) ∧ True) ∧ A = A ∧ True) ∧ (((↑priv : Int) == (0
    : Int)) = false → priv ≠ (0 : Nat) ∧ (0 : Nat) = (0 : Nat) ∧ (1 : Nat) = (1 : Nat) ∧ ((((0 : Nat) = (0 : Nat) ∧ True) ∧ True) ∧ (0 : Nat) = (0 : Nat) ∧ (↑tok : Int) = (↑tok : Int) ∧
    (↑seg : Int) = (↑seg : Int) ∧ (↑slot : Int) = (↑slot : Int) ∧ (↑g : Int) = (↑g : Int) ∧ (↑priv : Int) = (↑priv : Int) ∧ got = got ∧ (↑e : Int) = (↑e : Int) ∧ True) ∧ A = A ∧ ((↑priv
    : Int) = (↑priv : Int) ∧ True) ∧ True)) := by
  kernel_rfl
theorem clmV4_run (tok seg slot g priv : Nat) (got : Bool) (e : Nat) (A : PA) (hc : True) : Run (callN Try.prog ([] : List (Smry Try.prog XP)) (fun _ _ => false) 100 20 48 [.c (.ptr 0 0)] ⟨clmHeap (⟨4, tok, seg, slot, g, priv, got, e⟩ : Clm) .mk ++ [(1, parO A)], 100⟩ (bN 3) (fun v m _ => privPost (⟨4, tok, seg, slot, g, priv, got, e⟩ : Clm) A v m)) := by
  constructor
  rw [clmV4_vc]
  repeat' first
    | with_reducible apply And.intro
    | with_reducible exact trivial
    | with_reducible exact fun _ h => h
    | with_reducible exact Eq.refl _
    | (refine fun (K : KO XP) => ?_; simp only [eq_self, true_and, and_true, imp_self, implies_true]; done)
    | (refine fun (K : KO XP) => ?_; simp only [eq_self, true_and, and_true, imp_self, implies_true]; exact id)
    | (refine fun (K : KO XP) => ?_; simp only [eq_self, true_and, and_true, and_imp, imp_self, implies_true]; intros; simp_all only [and_self, imp_self, implies_true]; done)
    | (intro (K : KO XP); simp only [and_imp]; intros; repeat' first | with_reducible apply And.intro | with_reducible exact trivial | with_reducible exact Eq.refl _ | with_reducible assumption)
    | intro _

  all_goals first
    | rfl
    | (have h := ‹((priv : Int) == 0) = true›; have := eq_of_beq h; omega)
    | (have h := ‹((priv : Int) == 0) = false›; have := ne_of_beq_false h; omega)
/-- What the executor leaves to be shown of (*roundelay/claim.Claim).Private, written out. -/
theorem clmV5_vc (tok seg slot g priv : Nat) (got : Bool) (e : Nat) (A : PA) : (callN Try.prog ([] : List (Smry Try.prog XP)) (fun _ _ => false) 100 20 48 [.c (.ptr 0 0)] ⟨clmHeap (⟨5, tok, seg, slot, g, priv, got, e⟩ : Clm) .mk ++ [(1, parO A)], 100⟩ (bN 3) (fun v m _ => privPost (⟨5, tok, seg, slot, g, priv, got, e⟩ : Clm) A v m)) = (
    (((↑priv : Int) == (0 : Int)) = true → priv = (0 : Nat) ∧ (Value.nilFunc = Value.nilFunc ∧ (0 : Nat) = (0 : Nat) ∧ (↑tok : Int) = (↑tok : Int) ∧ (↑seg : Int) = (↑seg : Int) ∧ (↑slot
    : Int) = (↑slot : Int) ∧ (↑g : Int) = (↑g : Int) ∧ (↑priv : Int) = (↑priv : Int) ∧ got = got ∧ (↑e : Int) = (↑e : Int) ∧ True) ∧ A = A ∧ True) ∧ (((↑priv : Int) == (0 : Int)) =
    false → priv ≠ (0 : Nat) ∧ (0 : Nat) = (0 : Nat) ∧ (1 : Nat) = (1 : Nat) ∧ (Value.nilFunc = Value.nilFunc ∧ (0 : Nat) = (0 : Nat) ∧ (↑tok : Int) = (↑tok : Int) ∧ (↑seg : Int) =
    (↑seg : Int) ∧ (↑slot : Int) = (↑slot : Int) ∧ (↑g : Int) = (↑g : Int) ∧ (↑priv : Int) = (↑priv : Int) ∧ got = got ∧ (↑e : Int) = (↑e : Int) ∧ True) ∧ A = A ∧ ((↑priv : Int) =
    (↑priv : Int) ∧ True) ∧ True)) := by
  kernel_rfl
theorem clmV5_run (tok seg slot g priv : Nat) (got : Bool) (e : Nat) (A : PA) (hc : True) : Run (callN Try.prog ([] : List (Smry Try.prog XP)) (fun _ _ => false) 100 20 48 [.c (.ptr 0 0)] ⟨clmHeap (⟨5, tok, seg, slot, g, priv, got, e⟩ : Clm) .mk ++ [(1, parO A)], 100⟩ (bN 3) (fun v m _ => privPost (⟨5, tok, seg, slot, g, priv, got, e⟩ : Clm) A v m)) := by
  constructor
  rw [clmV5_vc]
  repeat' first
    | with_reducible apply And.intro
    | with_reducible exact trivial
    | with_reducible exact fun _ h => h
    | with_reducible exact Eq.refl _
    | (refine fun (K : KO XP) => ?_; simp only [eq_self, true_and, and_true, imp_self, implies_true]; done)
    | (refine fun (K : KO XP) => ?_; simp only [eq_self, true_and, and_true, imp_self, implies_true]; exact id)
    | (refine fun (K : KO XP) => ?_; simp only [eq_self, true_and, and_true, and_imp, imp_self, implies_true]; intros; simp_all only [and_self, imp_self, implies_true]; done)
    | (intro (K : KO XP); simp only [and_imp]; intros; repeat' first | with_reducible apply And.intro | with_reducible exact trivial | with_reducible exact Eq.refl _ | with_reducible assumption)
    | intro _

  all_goals first
    | rfl
    | (have h := ‹((priv : Int) == 0) = true›; have := eq_of_beq h; omega)
    | (have h := ‹((priv : Int) == 0) = false›; have := ne_of_beq_false h; omega)
def clmOkGX (x : Clm) : XP.X → Prop
  | .obj [] A => clmOkG x A ∧ x.ph ≤ 5
  | _ => False
def clmXGF (x : Clm) : XP.X → Clm
  | .obj [] A => clmStepG x A
  | _ => x
def clmAGF (x : Clm) : XP.X → XP.X
  | .obj [] A => .obj [] (clmAG x A)
  | o => o
theorem clmg_step : MethodOk (E := XP) clmH 47 clmOkGX (fun _ _ => .tup []) clmXGF clmAGF := by
  refine method_ok (H := clmH) ?_ ?_
  · rintro x o h
    unfold clmOkGX at h
    split at h
    · exact ⟨rfl, rfl, rfl⟩
    · exact h.elim
  · rintro ⟨ph, tok, seg, slot, g, priv, got, e⟩ o h z
    unfold clmOkGX at h
    split at h
    · rename_i A
      obtain ⟨h, h5⟩ := h
      dsimp only at h5
      cases z
      rcases (by omega : ph = 0 ∨ ph = 1 ∨ ph = 2 ∨ ph = 3 ∨ ph = 4 ∨ ph = 5) with rfl | rfl | rfl | rfl | rfl | rfl
      · exact ⟨_, _, _, _, _, _, cg0_run tok seg slot g priv got e A h, fun v m h => ⟨.mk, clmPost_of h⟩⟩
      · exact ⟨_, _, _, _, _, _, cg1_run tok seg slot g priv got e A h, fun v m h => ⟨.mk, clmPost_of h⟩⟩
      · exact ⟨_, _, _, _, _, _, cg2_run tok seg slot g priv got e A h, fun v m h => ⟨.mk, clmPost_of h⟩⟩
      · exact ⟨_, _, _, _, _, _, cg3_run tok seg slot g priv got e A h, fun v m h => ⟨.mk, clmPost_of h⟩⟩
      · exact ⟨_, _, _, _, _, _, cg4_run tok seg slot g priv got e A h, fun v m h => ⟨.mk, clmPost_of h⟩⟩
      · exact ⟨_, _, _, _, _, _, cg5_run tok seg slot g priv got e A h, fun v m h => ⟨.mk, clmPost_of h⟩⟩
    · exact h.elim
def clmStepGX : Smry Try.prog XM := methodS _ clmOkGX _ clmXGF clmAGF clmg_step
/-- The private block: none, or a row of one. -/
theorem clm_priv (x : Clm) (A : PA) (h5 : x.ph ≤ 5) {ν : Nat → Nat} {c p : Nat} {w w0 : World} {R : Assn} (Hs : Sat w (hidDen clmH ν (ν c) [p] x * ((parO A).den ν (ν p) * R))) (HK : Kept w0 w) :
    Calls Try.prog 48 #[.pointer (some ⟨ν c, 0, none⟩)] w fun e w' => ((x.priv = 0 ∧ e = .returned (.slice none 0 0)) ∨ (x.priv ≠ 0 ∧ ∃ a, e = .returned (.slice a 1 1))) ∧ Sat w' (hidDen clmH ν (ν c) [p] x * ((parO A).den ν (ν p) * R)) ∧ Kept w0 w' := by
  unfold hidDen at Hs
  obtain ⟨μ, Hs⟩ := Hs.ex_mul
  obtain ⟨z, Hs⟩ := Hs.ex_mul
  rw [Assn.mul_assoc] at Hs
  obtain ⟨hμ, Hs⟩ := Hs.pure_mul
  have run : ∃ (s : Scr XP), Run (callN Try.prog ([] : List (Smry Try.prog XP)) (fun _ _ => false) 100 20 48 [.c (.ptr 0 0)] ⟨clmH.heap x z ++ [(1, parO A)], 100⟩ s fun v m _ => privPost x A v m) := by
    obtain ⟨ph, tok, seg, slot, g, priv, got, e⟩ := x
    dsimp only at h5
    cases z
    rcases (by omega : ph = 0 ∨ ph = 1 ∨ ph = 2 ∨ ph = 3 ∨ ph = 4 ∨ ph = 5) with rfl | rfl | rfl | rfl | rfl | rfl
    · exact ⟨_, clmV0_run tok seg slot g priv got e A trivial⟩
    · exact ⟨_, clmV1_run tok seg slot g priv got e A trivial⟩
    · exact ⟨_, clmV2_run tok seg slot g priv got e A trivial⟩
    · exact ⟨_, clmV3_run tok seg slot g priv got e A trivial⟩
    · exact ⟨_, clmV4_run tok seg slot g priv got e A trivial⟩
    · exact ⟨_, clmV5_run tok seg slot g priv got e A trivial⟩
  obtain ⟨s, hrun⟩ := run
  refine (hid_calls (H := clmH) (E := XP) (rest := []) (a := (.obj [] A : XP.X)) rfl (fun v hv => by cases hv) hrun.out hμ Hs HK).mono ?_
  rintro e w' ⟨v, m, ξ, hv0, h0, h1, he, hs, hk⟩
  have shut : ∀ (κ : Nat → Nat) (Q : Assn), κ 0 = ν c → κ 1 = ν p → Sat w' (SH.den κ (clmHeap x .mk) * ((parO A).den κ (κ 1) * Q)) → Sat w' (hidDen clmH ν (ν c) [p] x * ((parO A).den ν (ν p) * Q)) := fun κ Q k0 k1 hs => by
    unfold hidDen
    refine Sat.mk_ex_mul κ (Sat.mk_ex_mul .mk ?_)
    rw [Assn.mul_assoc]
    refine Sat.mk_pure_mul ⟨k0, fun i n hi => ?_⟩ ?_
    · cases i with
      | zero =>
        simp only [List.getElem?_cons_zero, Option.some.injEq] at hi
        subst hi
        exact k1
      | succ i => simp at hi
    · refine hs.cast ?_
      rw [k1, SO.den_eq (ν := κ) (μ := ν) (parO A) (by intro n hn; cases hn)]
      rfl
  unfold privPost at hv0
  split at hv0
  · obtain ⟨hz, ho⟩ := hv0
    obtain ⟨κ, ag, hv, hs⟩ := outM_sound ho hs
    refine ⟨.inl ⟨hz, by rw [he, hv]; rfl⟩, shut κ R (by rw [ag 0 (by decide), h0]) (by rw [ag 1 (by decide), h1]) (hs.cast ?_), hk⟩
    simp only [SH.den_append, SH.den, SO.den]
    rw [Assn.mul_comm _ (1 : Assn), Assn.one_mul, Assn.mul_assoc]
  · obtain ⟨hz, ho⟩ := hv0
    obtain ⟨κ, ag, hv, hs⟩ := outM_sound ho hs
    refine ⟨.inr ⟨hz, _, by rw [he, hv]; rfl⟩, shut κ R (by rw [ag 0 (by decide), h0]) (by rw [ag 1 (by decide), h1]) ?_, hk⟩
    have mo : ∀ X : Assn, X * 1 = X := fun X => by rw [Assn.mul_comm, Assn.one_mul]
    have h2 : Sat w' ((SO.cells (E := XP) [.int false .u64 (x.priv : Int)] 25).den κ (κ 20) * (SH.den κ (clmHeap x .mk) * ((parO A).den κ (κ 1) * R))) := hs.cast (by
      simp only [SH.den_append, SH.den]
      rw [mo]
      ac_rfl)
    exact h2.right
def clmPrivX : Smry Try.prog XM where
  g := 48
  run := fun args m K => match args with
    | [.c (.ptr c 0)] => match m.hp.get c with
      | some (.ext (HO.obj [p] x)) => match (m.hp.del c).get p with
        | some (.ext (HO.old (.obj [] _))) => x.ph ≤ 5 ∧ (x.priv = 0 → K (.c .nls) m) ∧ (x.priv ≠ 0 → ∀ a : Option Addr, K (.c (.sliv a false 1 1)) m)
        | _ => Stuck 650
      | _ => Stuck 651
    | _ => Stuck 652
  ok := fun args m K hr => by
    split at hr <;> try exact hr.elim
    rename_i c
    split at hr <;> try exact hr.elim
    rename_i p x hx
    split at hr <;> try exact hr.elim
    rename_i A ha
    obtain ⟨h5, hk0, hk1⟩ := hr
    intro ν w R w0 Hs HK
    have hd : ∀ Q : Assn, m.hp.den ν * Q = hidDen clmH ν (ν c) [p] x * ((parO A).den ν (ν p) * (SH.den ν ((m.hp.del c).del p) * Q)) := fun Q => by
      rw [SH.den_get ν hx, SH.den_get ν ha, Assn.mul_assoc, Assn.mul_assoc]
      rfl
    rw [hd] at Hs
    refine (clm_priv x A h5 Hs HK).mono ?_
    rintro e w' ⟨⟨hz, he⟩ | ⟨hz, a, he⟩, hs, hk'⟩
    · exact ⟨_, m, ν, hk0 hz, Agree.refl _ _, Nat.le_refl _, by rw [he]; rfl, by rw [hd]; exact hs, hk'⟩
    · exact ⟨_, m, ν, hk1 hz a, Agree.refl _ _, Nat.le_refl _, by rw [he]; rfl, by rw [hd]; exact hs, hk'⟩
end Go.Proofs.Ytnfpkadepomjjaa
