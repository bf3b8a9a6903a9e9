/- Counts as objects that stand in rows, over arenas of whatever memory. -/
import Derived.Test.YtnfpkadepomjjaaBaseArrs
import Derived.Test.YtnfpkadepomjjaaBaseS
set_option linter.all false
namespace Go.Proofs.Ytnfpkadepomjjaa
open Go Go.RowKit
set_option maxRecDepth 100000

/-- Memory in which arenas (and counts) stand among others. -/
structure XIn (E : EXT) where
  inj : XO → E.X
  prj : E.X → Option XO
  den : ∀ ν b x, E.den ν b (inj x) = XO.den ν b x
  prj_inj : ∀ e x, prj e = some x → e = inj x
def xIn : XIn XE := ⟨fun x => x, fun x => some x, fun _ _ _ => rfl, fun _ _ h => by cases h; rfl⟩
def prjHO {H : Hid XE} : HO XE H → Option XO
  | .old e => some e
  | _ => none
theorem prjHO_old {H : Hid XE} : ∀ (e : HO XE H) (x : XO), prjHO e = some x → e = HO.old x
  | .old e, x, h => by cases h; rfl
  | .obj _ _, x, h => by cases h
  | .all _ _ _ _ _, x, h => by cases h
  | .rest _ _ _ _ _, x, h => by cases h
def xInHid (H : Hid XE) : XIn (XE.hid H) := ⟨fun x => HO.old x, prjHO, fun _ _ _ => rfl, prjHO_old⟩
inductive U1 where
  | mk
section
variable {E : EXT}
def cntHg (I : XIn E) : Hid E := ⟨Cnt, U1, fun st _ => [(0, .ext (I.inj (.cnt 1 st)))]⟩
variable {I : XIn E}
theorem cn_open {ν : Nat → Nat} {b p : Nat} {st : Cnt} {w : World} {R : Assn} (h : Sat w (hidDen (cntHg I) ν b [p] st * R)) : Sat w (cntAt b (ν p) st * R) := by
  unfold hidDen at h
  obtain ⟨μ, h⟩ := h.ex_mul
  obtain ⟨z, h⟩ := h.ex_mul
  rw [Assn.mul_assoc] at h
  obtain ⟨hn, h⟩ := h.pure_mul
  have h1 : μ 1 = ν p := hn.2 0 p rfl
  refine h.cast ?_
  show (E.den μ (μ 0) (I.inj (.cnt 1 st)) * 1) * R = _
  rw [I.den, hn.1, Assn.mul_comm _ (1 : Assn), Assn.one_mul]
  show cntAt b (μ 1) st * R = _
  rw [h1]
theorem cn_shut {ν : Nat → Nat} {b p : Nat} {st : Cnt} {w : World} {R : Assn} (h : Sat w (cntAt b (ν p) st * R)) : Sat w (hidDen (cntHg I) ν b [p] st * R) := by
  unfold hidDen
  refine Sat.mk_ex_mul (fun i => if i = 0 then b else ν p) (Sat.mk_ex_mul .mk ?_)
  rw [Assn.mul_assoc]
  refine Sat.mk_pure_mul ⟨rfl, fun i n hi => ?_⟩ ?_
  · cases i with
    | zero =>
      simp only [List.getElem?_cons_zero, Option.some.injEq] at hi
      subst hi
      rfl
    | succ i => simp at hi
  · refine h.cast ?_
    show _ = (E.den _ _ (I.inj (.cnt 1 st)) * 1) * R
    rw [I.den, Assn.mul_comm _ (1 : Assn), Assn.one_mul]
    rfl
theorem cnt_step_calls {c p : Nat} {st : Cnt} {A : Ar} {w : World} {R : Assn} (H : Sat w (cntAt c p st * (arAt p A * R))) (hok : CntOk st A) :
    Calls Try.prog 23 #[.pointer (some ⟨c, 0, none⟩)] w fun e w' => e = .returned (.tuple #[]) ∧ Sat w' (cntAt c p (stepC st) * (arAt p (stepA st A) * R)) ∧ Kept w w' := by
  obtain ⟨hs, hl, h0, hh⟩ := hok
  unfold stepC stepA
  by_cases hf : st.first < st.last
  · rw [if_pos hf, if_pos hf]
    obtain ⟨⟨a, ha, hat⟩, _, hcs⟩ := has_cases (hh hf)
    have ha' : a = st.sg := by omega
    subst ha'
    rcases hcs with ⟨hz, _⟩ | ⟨_, b, hfb, hx⟩
    · exact absurd (by simpa using hz) h0
    · exact count_step_add c p _ A b st w H hs hf hl hat h0 (by simpa using hfb) (by rw [Int.toNat_natCast] at hx; exact hx)
  · rw [if_neg hf, if_neg hf]
    refine (count_step_end c p st w H (by omega)).mono fun e w' ⟨he, hw⟩ => ?_
    subst hw
    exact ⟨he, H, Kept.refl _⟩
theorem stepNil_run (K : SV → Mem E → Scr E → Prop) (m : Mem E) : callN Try.prog ([] : List (Smry Try.prog E)) (fun _ _ => false) 100 20 23 [.c (.raw (.pointer none))] ⟨[], 0⟩ .nil K = K (.tup []) ⟨[], 2⟩ .nil := by
  kernel_rfl
theorem doneNil_run (K : SV → Mem E → Scr E → Prop) (m : Mem E) : callN Try.prog ([] : List (Smry Try.prog E)) (fun _ _ => false) 100 20 18 [.c (.raw (.pointer none))] ⟨[], 0⟩ .nil K = K (.c (.boo true true)) ⟨[], 10⟩ .nil := by
  kernel_rfl
theorem gives_nil {g : FuncId} {v : SV} {m : Mem E} {K : SV → Mem E → Prop} (hv : v.names = []) (run : callN Try.prog ([] : List (Smry Try.prog E)) (fun _ _ => false) 100 20 g [.c (.raw (.pointer none))] ⟨[], 0⟩ .nil (fun u m' _ => u = v ∧ m'.hp = []))
    (hk : K v m) : Gives Try.prog g [.c (.raw (.pointer none))] m K := fun ν w R w0 H HK => by
  have H1 : Sat w ((⟨[], 0⟩ : Mem E).hp.den ν * (m.hp.den ν * R)) := by
    simp only [SH.den]
    rw [Assn.one_mul]
    exact H
  refine (callN_ok namesOk mixed _ _ _ _ _ _ _ _ _ run ν w _ w0 H1 HK).mono ?_
  rintro e w' ⟨u, m', s', μ, ⟨rfl, hm⟩, ag, _, he, hs, hk'⟩
  rw [hm] at hs
  refine ⟨_, m, ν, hk, Agree.refl _ _, Nat.le_refl _, ?_, ?_, hk'⟩
  · rw [he]
    congr 1
    exact SV.den_eq u (by rw [hv]; intro n hn; cases hn)
  · simp only [SH.den] at hs
    rw [Assn.one_mul] at hs
    exact hs
theorem gives_nil2 {g : FuncId} {u v : SV} {m : Mem E} {K : SV → Mem E → Prop} (hu : u.names = []) (hd : ∀ ν, u.den ν = v.den ν) (run : callN Try.prog ([] : List (Smry Try.prog E)) (fun _ _ => false) 100 20 g [.c (.raw (.pointer none))] ⟨[], 0⟩ .nil (fun w m' _ => w = u ∧ m'.hp = []))
    (hk : K v m) : Gives Try.prog g [.c (.raw (.pointer none))] m K := fun ν w R w0 H HK =>
  (gives_nil (K := fun u' m' => u' = u ∧ m' = m) hu run ⟨rfl, rfl⟩ ν w R w0 H HK).mono fun e w' ⟨u', m', μ, ⟨h1, h2⟩, ag, hn, he, hs, hk'⟩ => by
    subst h1 h2
    exact ⟨v, _, μ, hk, ag, hn, by rw [he, hd], hs, hk'⟩
variable (I)
abbrev arG (A : Ar) : SO (E.hid (cntHg I)) := .ext (HO.old (I.inj (.ar A)))
/-- A step of a count, or of none. -/
def cnStep : Smry Try.prog (E.hid (cntHg I)) where
  g := 23
  run := fun args m K => match args with
    | [.c (.raw (.pointer none))] => K (.tup []) m
    | [.c (.ptr c 0)] => match m.hp.get c with
      | some (.ext (HO.obj [p] st)) => match (m.hp.del c).get p with
        | some (.ext (HO.old e)) => match I.prj e with
          | some (.ar A) => CntOk st A ∧ K (.tup []) (putTwo m c p (.ext (HO.obj [p] (stepC st))) (arG I (stepA st A)))
          | _ => Stuck 630
        | _ => Stuck 631
      | _ => Stuck 632
    | _ => Stuck 633
  ok := fun args m K hr => by
    split at hr <;> try exact hr.elim
    · exact gives_nil (v := .tup []) rfl (by rw [stepNil_run _ m]; exact ⟨rfl, rfl⟩) hr
    rename_i c
    split at hr <;> try exact hr.elim
    rename_i p st hc
    split at hr <;> try exact hr.elim
    rename_i e hp
    split at hr <;> try exact hr.elim
    rename_i A he
    have he := I.prj_inj _ _ he
    subst he
    obtain ⟨hok, hk⟩ := hr
    intro ν w R w0 Hs HK
    rw [SH.den_get ν hc, SH.den_get ν hp, Assn.mul_assoc, Assn.mul_assoc] at Hs
    have H1 : Sat w (cntAt (ν c) (ν p) st * (E.den ν (ν p) (I.inj (.ar A)) * (((m.hp.del c).del p).den ν * R))) := cn_open Hs
    rw [I.den] at H1
    refine (cnt_step_calls H1 hok).mono ?_
    rintro e w' ⟨he, hs, hk'⟩
    refine ⟨_, _, ν, hk, Agree.refl _ _, Nat.le_refl _, he, ?_, HK.trans hk'⟩
    unfold putTwo
    rw [SH.den_put, SH.den_put, Assn.mul_assoc, Assn.mul_assoc, Assn.mul_left_comm]
    have h2 : Sat w' (hidDen (cntHg I) ν (ν c) [p] (stepC st) * (XO.den ν (ν p) (.ar (stepA st A)) * (((m.hp.del c).del p).den ν * R))) := cn_shut hs
    rw [← I.den] at h2
    exact h2
def cnDone : Smry Try.prog (E.hid (cntHg I)) where
  g := 18
  run := fun args m K => match args with
    | [.c (.raw (.pointer none))] => K (.c (.boo false true)) m
    | [.c (.ptr c 0)] => match m.hp.get c with
      | some (.ext (HO.obj [_] st)) => K (.c (.boo false (isDone st))) m
      | _ => Stuck 634
    | _ => Stuck 635
  ok := fun args m K hr => by
    split at hr <;> try exact hr.elim
    · exact gives_nil2 (u := .c (.boo true true)) (v := .c (.boo false true)) rfl (fun _ => rfl) (by rw [doneNil_run _ m]; exact ⟨rfl, rfl⟩) hr
    rename_i c
    split at hr <;> try exact hr.elim
    rename_i p st hc
    intro ν w R w0 H HK
    have H' := H
    rw [SH.den_get ν hc, Assn.mul_assoc] at H'
    have H1 : Sat w (cntAt (ν c) (ν p) st * (SH.den ν (m.hp.del c) * R)) := cn_open (I := I) H'
    refine (count_done (ν c) (ν p) st w H1).mono fun e w' ⟨he, hw⟩ => ?_
    subst hw
    exact ⟨_, m, ν, hr, Agree.refl _ _, Nat.le_refl _, he, H, HK⟩
theorem gives_made2 {g : FuncId} {args : List SV} {m : Mem (E.hid (cntHg I))} {K : SV → Mem (E.hid (cntHg I)) → Prop} {p : Nat} {st : Cnt} (hn : newOk m (.ext (HO.obj [p] st) : SO (E.hid (cntHg I))) = true) (hk : K (.c (.ptr m.nx 0)) (withNew m (.ext (HO.obj [p] st))))
    (hc : ∀ ν w R, Sat w R → Calls Try.prog g (args.map (SV.den ν)).toArray w fun e w' => ∃ c, e = .returned (.pointer (some ⟨c, 0, none⟩)) ∧ Sat w' (cntAt c (ν p) st * R) ∧ Kept w w') : Gives Try.prog g args m K := fun ν w R w0 H HK =>
  (hc ν w _ H).mono fun e w' ⟨c, he, hs, hk'⟩ => ⟨_, _, upd ν m.nx c, hk, Agree.upd (Nat.le_refl _) _, Nat.le_succ _, by rw [he]; simp [SV.den, SC.den, upd_same], withNew_sat hn (cn_shut (I := I) hs), HK.trans hk'⟩
def cnEnter : Smry Try.prog (E.hid (cntHg I)) where
  g := 22
  run := fun args m K => match args with
    | [.c (.ptr p 0), .agg [.int _ .u64 sg _, .int _ .i64 s _]] => (0 ≤ sg ∧ 0 ≤ s ∧ s ≤ 254) ∧
        bif newOk m (.ext (HO.obj [p] (enterC sg s)) : SO (E.hid (cntHg I))) then K (.c (.ptr m.nx 0)) (withNew m (.ext (HO.obj [p] (enterC sg s)))) else Stuck 636
    | _ => Stuck 637
  ok := fun args m K hr => by
    split at hr <;> try exact hr.elim
    rename_i p _ sg _ _ s _
    obtain ⟨⟨h0, h1, h2⟩, hk⟩ := hr
    obtain ⟨a, rfl⟩ : ∃ z : Nat, sg = z := ⟨sg.toNat, by omega⟩
    obtain ⟨b, rfl⟩ : ∃ z : Nat, s = z := ⟨s.toNat, by omega⟩
    cases hn : newOk m (.ext (HO.obj [p] (enterC (a : Int) (b : Int))) : SO (E.hid (cntHg I))) <;> rw [hn] at hk
    · exact hk.elim
    exact gives_made2 I hn hk fun ν w R H => count_enter (ν p) a b w H (by omega)
def cnExit : Smry Try.prog (E.hid (cntHg I)) where
  g := 20
  run := fun args m K => match args with
    | [.c (.ptr p 0), .agg [.int _ .u64 sg _, .int _ .i64 s _], .c (.int _ .i64 a _), .c (.int _ .i64 b _)] => (0 ≤ sg ∧ 0 ≤ s ∧ s ≤ 254) ∧
        bif newOk m (.ext (HO.obj [p] (cntNew sg.toNat s.toNat a b 18446744073709551615)) : SO (E.hid (cntHg I))) then K (.c (.ptr m.nx 0)) (withNew m (.ext (HO.obj [p] (cntNew sg.toNat s.toNat a b 18446744073709551615)))) else Stuck 638
    | _ => Stuck 639
  ok := fun args m K hr => by
    split at hr <;> try exact hr.elim
    rename_i p _ sg _ _ s _ _ x _ _ y _
    obtain ⟨⟨h0, h1, h2⟩, hk⟩ := hr
    obtain ⟨a, rfl⟩ : ∃ z : Nat, sg = z := ⟨sg.toNat, by omega⟩
    obtain ⟨b, rfl⟩ : ∃ z : Nat, s = z := ⟨s.toNat, by omega⟩
    cases hn : newOk m (.ext (HO.obj [p] (cntNew (a : Int).toNat (b : Int).toNat x y 18446744073709551615)) : SO (E.hid (cntHg I))) <;> rw [hn] at hk
    · exact hk.elim
    exact gives_made2 I hn hk fun ν w R H => count_exit (ν p) a b x y w H (by omega)
end
end Go.Proofs.Ytnfpkadepomjjaa
