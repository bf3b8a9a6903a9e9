/- The executor: a function's whole code; calls by contract or by their text; the way in. -/
import Derived.Test.YtohijcgbfcahhaaSymFn
namespace Go.Proofs.Ytohijcgbfcahhaa
open Go Go.RowKit

section
variable {E : EXT} {P : Program}

theorem codeE_sound {call : CallF E} (hc : CallOk P call) (hf : NamesOk P) (hm : P.follows .mixedOrders = true) {wr : Nat → Bool} {LF : Nat} : ∀ c : Code, FOk P c (codeE P call wr LF c)
  | .skip => fun f m s K h n hn ν w R w0 H HK => wp_skip ⟨f, m, s, ν, h, Agree.refl _ _, hn, rfl, H, HK⟩
  | .label _ => fun f m s K h n hn ν w R w0 H HK => wp_label ⟨f, m, s, ν, h, Agree.refl _ _, hn, rfl, H, HK⟩
  | .exit id => fun f m s K h n hn ν w R w0 H HK => wp_exit ⟨f, m, s, ν, h, Agree.refl _ _, hn, rfl, H, HK⟩
  | .ret => fun f m s K h n hn ν w R w0 H HK => wp_ret ⟨f, m, s, ν, h, Agree.refl _ _, hn, rfl, H, HK⟩
  | .region id ops draw => fun f m s K h n hn ν w R w0 H HK => regionE_sound hc hf hm h hn H HK
  | .loop c => loopE_sound (codeE_sound hc hf hm c)
  | .cond x a b => fun f m s K h n hn ν w R w0 H HK => by
    simp only [codeE] at h
    split at h
    · rename_i v hv
      have he : (actOf ν f).eval x = .bool v := by rw [eval_opv, hv]; rfl
      cases v
      · exact wp_cond_false he (codeE_sound hc hf hm b f m s K h n hn ν w R w0 H HK)
      · exact wp_cond_true he (codeE_sound hc hf hm a f m s K h n hn ν w R w0 H HK)
    · rename_i v hv
      have he : (actOf ν f).eval x = .bool v := by rw [eval_opv, hv]; rfl
      rcases onTest_sound h with ⟨hb, s', h2⟩ | ⟨hb, s', h2⟩
      · subst hb
        rw [← actOf_know hv]
        rw [← actOf_know hv] at he
        exact wp_cond_true he (codeE_sound hc hf hm a _ m s' K h2 n hn ν w R w0 H HK)
      · subst hb
        rw [← actOf_know hv]
        rw [← actOf_know hv] at he
        exact wp_cond_false he (codeE_sound hc hf hm b _ m s' K h2 n hn ν w R w0 H HK)
    · exact h.elim
  | .block id c => fun f m s K h n hn ν w R w0 H HK => by
    simp only [codeE] at h
    refine wp_block (wp_mono (codeE_sound hc hf hm c f m s _ h n hn ν w R w0 H HK) fun e a w' he => ?_)
    cases e <;> try exact he.elim
    · exact he
    · rename_i j
      obtain ⟨f', m', s', μ, k, r⟩ := he
      simp only [Exit.inBlock]
      simp only at k
      split at k
      · rename_i hj; rw [if_pos hj]; exact ⟨f', m', s', μ, k, r⟩
      · rename_i hj; rw [if_neg hj]; exact ⟨f', m', s', μ, k, r⟩
    · exact he
  | .seq a b => fun f m s K h n hn ν w R w0 H HK => by
    have plain : ∀ s, (codeE P call wr LF a f m s fun e f m s => match e with
        | .normal => codeE P call wr LF b f m s K
        | e => K e f m s) → (Code.seq a b).wp P (QC K n ν R w0) (actOf ν f) w := by
      intro s h
      refine wp_seq (wp_mono (codeE_sound hc hf hm a f m s _ h n hn ν w R w0 H HK) fun e a' w' he => ?_)
      cases e <;> try exact he.elim
      · obtain ⟨f', m', s', μ, k, ag, hn', rfl, H', HK'⟩ := he
        exact wp_mono (codeE_sound hc hf hm b f' m' s' K k n hn' μ w' R w0 H' HK') fun e a w he => QC.agree he ag
      · exact he
      · exact he
    simp only [codeE] at h
    split at h
    · rename_i id dead use Y I first rest
      cases hr : hasRegion id a <;> rw [hr] at h
      · exact plain _ h
      · clear plain
        simp only [cond_true] at h
        obtain ⟨h1, h2⟩ := h
        obtain ⟨f1, s1, ef, h1⟩ := caseE_sound (ν := ν) h1
        rw [← ef]
        refine wp_seq (wp_mono (codeE_sound hc hf hm a f1 m s1 _ h1 m.nx (Nat.le_refl _) ν w R w0 H HK) fun e a' w' he => ?_)
        cases e <;> try exact he.elim
        · obtain ⟨f', m', s', μ, ⟨y, hcl⟩, ag, hn', rfl, H', HK'⟩ := he
          obtain ⟨hl, hcl⟩ := closeE_sound hcl
          obtain ⟨ξ, ρ, ag2, hact, H2⟩ := Close_sound hcl hl H'
          rw [hact]
          have ag3 : Agree n ν ξ := fun i hi => (ag.trans ag2 (Nat.le_refl _)) i (Nat.lt_of_lt_of_le hi hn)
          obtain ⟨f1, s1, ef, hf1⟩ := caseE_sound (ν := ξ) (headE_sound (h2 y ρ)).2
          rw [← ef]
          exact wp_mono (codeE_sound hc hf hm b _ _ _ K hf1 n (Nat.le_trans hn (Nat.le_add_right _ _)) ξ w' R w0 H2 HK') fun e a w he => QC.agree he ag3
        · obtain ⟨f', m', s', ξ, k', ag', hn', r⟩ := he
          exact ⟨f', m', s', ξ, k', fun i hi => ag' i (Nat.lt_of_lt_of_le hi hn), Nat.le_trans hn hn', r⟩
        · obtain ⟨f', m', s', ξ, k', ag', hn', r⟩ := he
          exact ⟨f', m', s', ξ, k', fun i hi => ag' i (Nat.lt_of_lt_of_le hi hn), Nat.le_trans hn hn', r⟩
    · exact h.elim
    · exact plain _ h
  | .rangeFunc _ _ _ _ => fun _ _ _ _ h => h.elim
  | .scope _ => fun _ _ _ _ h => h.elim
  | .goto _ => fun _ _ _ _ h => h.elim
  | .refuse _ => fun _ _ _ _ h => h.elim

/-- What a function is known to do. -/
structure Smry (P : Program) (E : EXT) where
  g : FuncId
  run : List SV → Mem E → (SV → Mem E → Prop) → Prop
  ok : ∀ args m K, run args m K → ∀ ν w R w0, Sat w (m.hp.den ν * R) → Kept w0 w → Calls P g (args.map (SV.den ν)).toArray w fun e w' =>
    ∃ v m' μ, K v m' ∧ Agree m.nx ν μ ∧ m.nx ≤ m'.nx ∧ e = .returned (v.den μ) ∧ Sat w' (m'.hp.den μ * R) ∧ Kept w0 w'
def sumOf (g : FuncId) : List (Smry P E) → Option (Smry P E)
  | [] => none
  | s :: l => if s.g = g then some s else sumOf g l
theorem sumOf_g {g : FuncId} : ∀ {l : List (Smry P E)} {s : Smry P E}, sumOf g l = some s → s.g = g
  | [], _, h => by simp [sumOf] at h
  | s :: l, t, h => by
    simp only [sumOf] at h
    split at h
    · rename_i e; cases h; exact e
    · exact sumOf_g h

def resV (P : Program) (h : SH E) (f : SF) : List ResultVar → Option (List SV)
  | [] => some []
  | .tmp t :: l => match resV P h f l with
    | some r => some (f.at t :: r)
    | none => none
  | .cell a t :: l => match loadV P h t (f.at a) with
    | .ok v => match f.at a with
      | .c (.ptr _ _) => match resV P h f l with
        | some r => some (v :: r)
        | none => none
      | _ => none
    | _ => none
def partsOf : List SV → Option (List (Bool × List SC))
  | [] => some []
  | .c x :: l => match partsOf l with
    | some r => some ((false, [x]) :: r)
    | none => none
  | .agg c :: l => match partsOf l with
    | some r => some ((true, c) :: r)
    | none => none
  | .tup _ :: _ => none
def packV (l : List SV) : Option SV :=
  match l with
  | [v] => some v
  | l => match partsOf l with
    | some r => some (.tup r)
    | none => none
theorem partsOf_den (ν : Nat → Nat) : ∀ {l : List SV} {r : List (Bool × List SC)}, partsOf l = some r → r.map (partDen ν) = l.map (SV.den ν)
  | [], r, h => by simp only [partsOf, Option.some.injEq] at h; subst h; rfl
  | .c x :: l, r, h => by
    simp only [partsOf] at h
    split at h <;> try cases h
    rename_i r' hr
    simp only [List.map_cons, partsOf_den ν hr]
    rfl
  | .agg c :: l, r, h => by
    simp only [partsOf] at h
    split at h <;> try cases h
    rename_i r' hr
    simp only [List.map_cons, partsOf_den ν hr]
    rfl
  | .tup _ :: _, r, h => by simp [partsOf] at h
theorem resV_run {h : SH E} {f : SF} {ν : Nat → Nat} {w : World} {R : Assn} (H : Sat w (h.den ν * R)) : ∀ {l : List ResultVar} {r : List SV}, resV P h f l = some r →
    (l.mapM fun (x : ResultVar) => match x with
      | .tmp t => (pure ((actOf ν f).tmps.getD t undef) : Sem Value)
      | .cell a t => do loadVar t (← asAddr ((actOf ν f).tmps.getD a undef))).run P w = .ok (r.map (SV.den ν)) w
  | [], r, hr => by simp only [resV, Option.some.injEq] at hr; subst hr; simp
  | .tmp t :: l, r, hr => by
    simp only [resV] at hr
    split at hr <;> try cases hr
    rename_i r' hr'
    have e : (actOf ν f).tmps.getD t undef = (f.at t).den ν := eval_opv ν f (.tmp t)
    have ih := resV_run H hr'
    simp only [List.mapM_cons, Sem.run_bind, Sem.run_pure, Result.andThen_ok, ih, e, List.map_cons]
  | .cell a t :: l, r, hr => by
    simp only [resV] at hr
    split at hr <;> try cases hr
    rename_i v hv
    split at hr <;> try cases hr
    rename_i n o ha
    split at hr <;> try cases hr
    rename_i r' hr'
    have e : (actOf ν f).tmps.getD a undef = (f.at a).den ν := eval_opv ν f (.tmp a)
    have hl := loadV_sound (v := v) (by rw [hv]; rfl) H
    rw [ha] at hl e
    have ih := resV_run H hr'
    have hl' : (loadVar t ⟨ν n, o, none⟩).run P w = .ok (v.den ν) w := by
      simpa [Instr.loadAt, Instr.sureAddr, SV.den, SC.den] using hl
    have he : asAddr ((actOf ν f).tmps.getD a undef) = pure ⟨ν n, o, none⟩ := by rw [e]; rfl
    simp only [List.mapM_cons, Sem.run_bind, he, Sem.run_pure, Result.andThen_ok, hl', ih, List.map_cons]
theorem packV_den (ν : Nat → Nat) {l : List SV} {v : SV} (h : packV l = some v) : (if h : (l.map (SV.den ν)).toArray.size = 1 then (l.map (SV.den ν)).toArray[0] else .tuple (l.map (SV.den ν)).toArray) = v.den ν := by
  unfold packV at h
  split at h
  · simp only [Option.some.injEq] at h
    subst h
    simp
  · rename_i hne
    split at h <;> try cases h
    rename_i r hr
    have hs : ¬ (l.map (SV.den ν)).toArray.size = 1 := by
      simp only [List.size_toArray, List.length_map]
      intro e
      match l, e with
      | [x], _ => exact hne x rfl
    rw [dif_neg hs]
    simp only [SV.den]
    rw [partsOf_den ν hr]
theorem results_run {fn : Func} {h : SH E} {f : SF} {ν : Nat → Nat} {w : World} {R : Assn} (H : Sat w (h.den ν * R)) {r : List SV} (hr : resV P h f fn.results.toList = some r) {v : SV} (hv : packV r = some v) :
    (results fn (actOf ν f).tmps).run P w = .ok (v.den ν) w := by
  have h1 := resV_run H hr
  have h2 := packV_den ν hv
  unfold results
  simp only [Array.mapM_eq_mapM_toList, Sem.run_bind, Sem.run_map, Sem.run_pure]
  have h3 : ∀ g : ResultVar → Sem Value, g = (fun x => match x with
      | .tmp t => (pure ((actOf ν f).tmps.getD t undef) : Sem Value)
      | .cell a t => do loadVar t (← asAddr ((actOf ν f).tmps.getD a undef))) → (fn.results.toList.mapM g).run P w = .ok (r.map (SV.den ν)) w := by rintro _ rfl; exact h1
  rw [h3 _ (by funext x; cases x <;> rfl)]
  simp only [Result.andThen_ok]
  rw [h2]

def callN (P : Program) (T : List (Smry P E)) (wr : FuncId → Nat → Bool) (LF : Nat) : Nat → CallF E
  | 0, _, _, _, _, _ => Stuck 600
  | k + 1, g, args, m, s, K => match sumOf g T with
    | some S => S.run args m fun v m' => K v m' s
    | none => match P.funcs[g]? with
      | some fn => match fn.body with
        | some c => forceF (fun f => codeE P (callN P T wr LF k) (wr g) LF c f m s fun e f m s => match e with
          | .exit _ => Stuck 601
          | _ => match resV P m.hp f fn.results.toList with
            | some r => match packV r with
              | some v => forceV (fun v => K v m s) v
              | none => Stuck 602
            | none => Stuck 603) (SF.tab (args.length + (fn.ntmps - args.length)) fun i => args.getD i SV.und)
        | none => Stuck 604
      | none => Stuck 605
theorem bodyPost_of {fn : Func} {K : KV E} {f : SF} {m : Mem E} {s : Scr E} {n : Nat} {ν μ : Nat → Nat} {w0 w : World} {R : Assn}
    (h : match resV P m.hp f fn.results.toList with
      | some r => match packV r with
        | some v => forceV (fun v => K v m s) v
        | none => Stuck 602
      | none => Stuck 603) (ag : Agree n ν μ) (hn : n ≤ m.nx) (H : Sat w (m.hp.den μ * R)) (HK : Kept w0 w) :
    ∃ v, (results fn (actOf μ f).tmps).run P w = .ok v w ∧ ∃ v0 m' s' ξ, K v0 m' s' ∧ Agree n ν ξ ∧ n ≤ m'.nx ∧ Ending.returned v = .returned (v0.den ξ) ∧ Sat w (m'.hp.den ξ * R) ∧ Kept w0 w := by
  split at h <;> try exact h.elim
  rename_i r hr
  split at h <;> try exact h.elim
  rename_i v hv
  rw [forceV_eq] at h
  exact ⟨_, results_run H hr hv, v, m, s, μ, h, ag, hn, rfl, H, HK⟩
theorem callN_ok (hf : NamesOk P) (hm : P.follows .mixedOrders = true) (T : List (Smry P E)) (wr : FuncId → Nat → Bool) (LF : Nat) : ∀ k, CallOk P (callN P T wr LF k)
  | 0 => fun _ _ _ _ _ h => h.elim
  | k + 1 => fun g args m s K h ν w R w0 H HK => by
    simp only [callN] at h
    split at h
    · rename_i S hS
      have hg := sumOf_g hS
      subst hg
      refine (S.ok args m _ h ν w R w0 H HK).mono ?_
      rintro e w' ⟨v, m', μ, k, r⟩
      exact ⟨v, m', s, μ, k, r⟩
    · split at h <;> try exact h.elim
      rename_i fn hfn
      split at h <;> try exact h.elim
      rename_i c hb
      refine calls_of_wp hfn hb ?_
      have hact : ({ tmps := (args.map (SV.den ν)).toArray ++ Array.replicate (fn.ntmps - (args.map (SV.den ν)).toArray.size) undef, defers := [] } : Act) = actOf ν (SF.tab (args.length + (fn.ntmps - args.length)) fun i => args.getD i SV.und) := by
        unfold actOf
        congr 1
        apply Array.ext_getElem?
        intro i
        have := actOf_tmp ν (SF.tab (args.length + (fn.ntmps - args.length)) fun i => args.getD i SV.und) i
        unfold actOf at this
        rw [this]
        simp only [Array.size_map, List.size_toArray, List.length_map]
        generalize fn.ntmps - args.length = k2
        by_cases hi : i < args.length + k2
        · rw [if_pos (by exact hi), SF.tab_get hi]
          by_cases h1 : i < args.length
          · simp [Array.getElem?_append, h1]
          · simp [Array.getElem?_append, h1, SV.den_und]
            rw [Array.getElem?_replicate, if_pos (by omega)]
        · rw [if_neg (by exact hi)]
          have h1 : ¬ i < args.length := by omega
          simp only [Array.getElem?_append, List.size_toArray, List.length_map, if_neg h1]
          rw [Array.getElem?_replicate, if_neg (by omega)]
      rw [forceF_eq] at h
      rw [hact]
      refine wp_mono (codeE_sound (callN_ok hf hm T wr LF k) hf hm c _ m s _ h m.nx (Nat.le_refl _) ν w R w0 H HK) fun e a w' he => ?_
      cases e <;> try exact he.elim
      · obtain ⟨f, m', s', μ, k', ag, hn, rfl, H', HK'⟩ := he
        exact ⟨rfl, bodyPost_of k' ag hn H' HK'⟩
      · obtain ⟨f, m', s', μ, k', _⟩ := he
        exact k'.elim
      · obtain ⟨f, m', s', μ, k', ag, hn, rfl, H', HK'⟩ := he
        exact ⟨rfl, bodyPost_of k' ag hn H' HK'⟩
end
end Go.Proofs.Ytohijcgbfcahhaa
