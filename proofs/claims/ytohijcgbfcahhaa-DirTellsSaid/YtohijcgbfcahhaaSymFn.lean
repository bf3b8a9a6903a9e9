/- The executor: code, loops, calls; the way in. -/
import Derived.Test.YtohijcgbfcahhaaSymForce
namespace Go.Proofs.Ytohijcgbfcahhaa
open Go Go.RowKit

inductive Ex where
  | normal
  | exit (id : Nat)
  | ret
abbrev KC (E : EXT) := Ex → SF → Mem E → Scr E → Prop

section
variable {E : EXT} {P : Program}

def plainOf : SH E → SH E
  | [] => []
  | (n, .ext x) :: h => let _ := x; (let _ := n; plainOf h)
  | (n, o) :: h => (n, o) :: plainOf h
theorem plainOf_mem : ∀ {h : SH E} {p : Nat × SO E}, p ∈ plainOf h → p ∈ h
  | [], _, hp => hp
  | (n, o) :: h, p, hp => by
    cases o <;> simp only [plainOf] at hp <;> first
      | exact List.mem_cons_of_mem _ (plainOf_mem hp)
      | (cases hp with
         | head => exact List.mem_cons_self
         | tail _ hm => exact List.mem_cons_of_mem _ (plainOf_mem hm))
theorem get_of_mem : ∀ {h : SH E}, nodupB (List.map (fun p => p.1) h) = true → ∀ p ∈ h, h.get p.1 = some p.2
  | (n, o) :: h, hn, p, hp => by
    simp only [List.map_cons, nodupB, Bool.and_eq_true, Bool.not_eq_true'] at hn
    simp only [SH.get]
    cases hp with
    | head => simp
    | tail _ hm =>
      have hne : ¬ n = p.1 := fun e => by
        have h1 := hn.1
        simp at h1
        exact h1 p.2 (by rw [e]; exact hm)
      rw [if_neg hne]
      exact get_of_mem hn.2 p hm

/-- The state behind a region, written out. -/
def endE (top : Nat) (K : KO E) (f : SF) (m : Mem E) (s : Scr E) : Prop := forceF (fun f => forceH (fun hp => forceN (topOf m top) fun nx => K f ⟨hp, nx⟩ s) m.hp) f
theorem endE_eq (top : Nat) (K : KO E) (f : SF) (m : Mem E) (s : Scr E) : endE top K f m s = K f ⟨m.hp, topOf m top⟩ s := by
  unfold endE
  rw [forceF_eq, forceH_eq, forceN_eq]
def regionE (P : Program) (call : CallF E) (wr : Nat → Bool) (ops : Array Oper) (draw : Bool) (f : SF) (m : Mem E) (s : Scr E) (K : KO E) : Prop :=
  bif draw then
    (bif Region.noSelect ops && nodupB (List.map (fun p => p.1) m.hp) && nodupB (List.map (fun p => p.1) (plainOf m.hp)) && (SH.names (plainOf m.hp)).all (fun k => Nat.blt k m.nx) then
      digestK ops fun ds => anyE P call wr ops m.nx (m.nx + ops.size) (plainOf m.hp) ds ops.size 0 f m s (endE (m.nx + ops.size) K)
     else Stuck 530)
  else opsE P call wr ops m.nx (m.nx + ops.size) (List.range ops.size) f m s (endE (m.nx + ops.size) K)

/-- Behind a piece of code. -/
def GoodC (K : KC E) (e : Ex) (n : Nat) (ν : Nat → Nat) (R : Assn) (w0 : World) (a : Act) (w : World) : Prop :=
  ∃ f m s μ, K e f m s ∧ Agree n ν μ ∧ n ≤ m.nx ∧ a = actOf μ f ∧ Sat w (m.hp.den μ * R) ∧ Kept w0 w
def QC (K : KC E) (n : Nat) (ν : Nat → Nat) (R : Assn) (w0 : World) (e : Exit) (a : Act) (w : World) : Prop :=
  match e with
  | .normal => GoodC K .normal n ν R w0 a w
  | .exit i => GoodC K (.exit i) n ν R w0 a w
  | .ret => GoodC K .ret n ν R w0 a w
  | _ => False
theorem GoodC.agree {K : KC E} {e : Ex} {n : Nat} {ν μ : Nat → Nat} {R : Assn} {w0 : World} {a : Act} {w : World} (h : GoodC K e n μ R w0 a w) (ha : Agree n ν μ) : GoodC K e n ν R w0 a w := by
  obtain ⟨f, m, s, ξ, k, ag, r⟩ := h
  exact ⟨f, m, s, ξ, k, ha.trans ag (Nat.le_refl _), r⟩
theorem QC.agree {K : KC E} {e : Exit} {n : Nat} {ν μ : Nat → Nat} {R : Assn} {w0 : World} {a : Act} {w : World} (h : QC K n μ R w0 e a w) (ha : Agree n ν μ) : QC K n ν R w0 e a w := by
  cases e <;> first | exact GoodC.agree h ha | exact h.elim

theorem regionE_sound {call : CallF E} (hc : CallOk P call) (hf : NamesOk P) (hm : P.follows .mixedOrders = true) {wr : Nat → Bool} {ops : Array Oper} {id : Nat} {draw : Bool} {f : SF} {m : Mem E} {s : Scr E} {K : KC E}
    (h : regionE P call wr ops draw f m s fun f m s => K .normal f m s) {n : Nat} (hn : n ≤ m.nx) {ν : Nat → Nat} {w w0 : World} {R : Assn} (H : Sat w (m.hp.den ν * R)) (HK : Kept w0 w) :
    (Code.region id ops draw).wp P (QC K n ν R w0) (actOf ν f) w := by
  have conv : ∀ e a w', QR (endE (m.nx + ops.size) fun f m s => K .normal f m s) m.nx ν R w0 e a w' → QC K n ν R w0 e a w' := by
    intro e a w' hq
    cases e <;> first | exact hq.elim | skip
    obtain ⟨f, m', s, μ, k, ag, hnx, ha, hs, hk⟩ := hq
    rw [endE_eq] at k
    exact ⟨f, _, s, μ, k, fun i hi => ag i (Nat.lt_of_lt_of_le hi hn), Nat.le_trans hn (Nat.le_trans hnx (topOf_ge m' _).1), ha, hs, hk⟩
  unfold regionE at h
  cases draw
  · simp only [cond_false] at h
    refine wp_mono (wp_region (opsE_sound hc hf (Nat.le_refl _) _ f m s h (Nat.le_refl _) ν w (Agree.refl _ _) H HK)) conv
  · simp only [cond_true] at h
    cases hb : Region.noSelect ops && nodupB (List.map (fun p => p.1) m.hp) && nodupB (List.map (fun p => p.1) (plainOf m.hp)) && (SH.names (plainOf m.hp)).all (fun k => Nat.blt k m.nx) <;> rw [hb] at h
    · exact h.elim
    simp only [cond_true] at h
    simp only [Bool.and_eq_true] at hb
    rw [digestK_eq] at h
    obtain ⟨⟨⟨h1, h2⟩, h3⟩, h4⟩ := hb
    have H' : Sat { w with drawn := w.drawn + 1 } (m.hp.den ν * R) := H
    have HK' : Kept w0 { w with drawn := w.drawn + 1 } := HK.drew
    have hany := anyE_sound hc hf h1 (Nat.le_refl _) h3 h4 _ _ f m s h (fun k _ => hasB_zero k) (Nat.le_refl _) ν _ (Agree.refl _ _) H' HK' fun _ => subEq_sat (fun p hp => get_of_mem h2 p (plainOf_mem hp)) h3 H'
    rw [← listedOf_zero] at hany
    exact wp_mono (wp_region_any hm (wpAny_of_L _ _ _ _ hany)) conv

def writesOf : Code → List Nat
  | .region _ ops _ => ops.toList.filterMap fun o => o.dst
  | .seq a b => writesOf a ++ writesOf b
  | .cond _ a b => writesOf a ++ writesOf b
  | .block _ c => writesOf c
  | .loop c => writesOf c
  | _ => []
def hasRegion (id : Nat) : Code → Bool
  | .region i _ _ => i == id
  | .seq a b => hasRegion id a || hasRegion id b
  | .cond _ a b => hasRegion id a || hasRegion id b
  | .block _ c => hasRegion id c
  | .loop c => hasRegion id c
  | _ => false
def SF.know (f : SF) (x : Operand) (b : Bool) : SF := match x with
  | .tmp t => f.set (some t) (litS b)
  | _ => f
theorem actOf_know {ν : Nat → Nat} {f : SF} {x : Operand} {l b : Bool} (h : f.opv x = .c (.boo l b)) : actOf ν (f.know x b) = actOf ν f := by
  cases x with
  | tmp t => exact actOf_lit h
  | _ => rfl

def unrollE (F : SF → Mem E → Scr E → KC E → Prop) : Nat → SF → Mem E → Scr E → KC E → Prop
  | 0, _, _, _, _ => Stuck 540
  | n + 1, f, m, s, K => F f m s fun e f m s => match e with
    | .normal => unrollE F n f m s K
    | e => K e f m s
/-- What is used up at a head, and what stays. -/
def keepOf (use : List Nat) : SH E → SH E
  | [] => []
  | (n, o) :: h => bif use.contains n then keepOf use h else (n, o) :: keepOf use h
def closeE (N : Nat) (W : Nat → Bool) (f0 : SF) (keep : SH E) (I : List (Nat × SV) × List (Nat × SO E)) (f : SF) (h : SH E) : Prop :=
  bif lowB N W I.1 f0 keep then Close N W f0 keep I f h else Stuck 541
theorem closeE_sound {N : Nat} {W : Nat → Bool} {f0 : SF} {keep : SH E} {I : List (Nat × SV) × List (Nat × SO E)} {f : SF} {h : SH E} (hc : closeE N W f0 keep I f h) : lowB N W I.1 f0 keep = true ∧ Close N W f0 keep I f h := by
  unfold closeE at hc
  cases hb : lowB N W I.1 f0 keep <;> rw [hb] at hc
  · exact hc.elim
  · exact ⟨rfl, hc⟩
def headE (I : List (Nat × SV) × List (Nat × SO E)) (W : Nat → Bool) (f0 : SF) (keep : SH E) (N : Nat) (ρ : Nat → Value) (F : SF → Mem E → Prop) : Prop :=
  bif lowB N W I.1 f0 keep then forceF (fun f => forceH (fun hp => forceN (N + 32) fun nx => F f ⟨hp, nx⟩) (I.2 ++ keep)) (headF W I.1 ρ f0) else Stuck 541
/-- A flag known to be so or so: both ways, with the slot written. -/
def caseE (f : SF) : Scr E → (SF → Scr E → Prop) → Prop
  | .case t x y, F => match f.at t with
    | .c (.boo true b) => bif b then caseE f x F else caseE f y F
    | .c (.boo false b) => (b = true → caseE (f.set (some t) (litS true)) x F) ∧ (b = false → caseE (f.set (some t) (litS false)) y F)
    | _ => Stuck 545
  | s, F => F f s
theorem caseE_sound {ν : Nat → Nat} : ∀ {s : Scr E} {f : SF} {F : SF → Scr E → Prop}, caseE f s F → ∃ f' s', actOf ν f' = actOf ν f ∧ F f' s'
  | .case t x y, f, F, h => by
    simp only [caseE] at h
    split at h
    · rename_i b hb
      cases b
      · exact caseE_sound h
      · exact caseE_sound h
    · rename_i b hb
      cases b
      · obtain ⟨f', s', e, k⟩ := caseE_sound (ν := ν) (h.2 rfl)
        exact ⟨f', s', e.trans (actOf_lit hb), k⟩
      · obtain ⟨f', s', e, k⟩ := caseE_sound (ν := ν) (h.1 rfl)
        exact ⟨f', s', e.trans (actOf_lit hb), k⟩
    · exact h.elim
  | .nil, f, F, h | .stop, f, F, h | .t _, f, F, h | .f _, f, F, h | .both _ _, f, F, h | .inv .., f, F, h | .cut .., f, F, h => ⟨f, _, rfl, h⟩
def loopE (W : Nat → Bool) (F : SF → Mem E → Scr E → KC E → Prop) (LF : Nat) (f : SF) (m : Mem E) (s : Scr E) (K : KC E) : Prop :=
  match s with
  | .inv dead use Y I mu body =>
    (∃ y, closeE m.nx (fun t => dead t || W t) f (keepOf use m.hp) (I m.nx y) f m.hp) ∧
    ∀ y ρ, headE (I m.nx y) (fun t => dead t || W t) f (keepOf use m.hp) m.nx ρ fun f1 m1 => caseE f1 (body y) fun f1 s1 => F f1 m1 s1 fun e f' m' s' => match e with
      | .normal => ∃ y', mu y' < mu y ∧ closeE m.nx (fun t => dead t || W t) f (keepOf use m.hp) (I m.nx y') f' m'.hp
      | e => K e f' m' s'
  | s => unrollE F LF f m s K
def codeE (P : Program) (call : CallF E) (wr : Nat → Bool) (LF : Nat) : Code → SF → Mem E → Scr E → KC E → Prop
  | .skip, f, m, s, K => K .normal f m s
  | .label _, f, m, s, K => K .normal f m s
  | .region _ ops draw, f, m, s, K => regionE P call wr ops draw f m s fun f m s => K .normal f m s
  | .seq a b, f, m, s, K =>
    let plain := codeE P call wr LF a f m s fun e f m s => match e with
      | .normal => codeE P call wr LF b f m s K
      | e => K e f m s
    match s with
    | .cut id dead use Y I first rest => bif hasRegion id a then
        (caseE f first fun f1 s1 => codeE P call wr LF a f1 m s1 fun e f' m' s' => match e with
          | .normal => ∃ y, closeE m.nx (fun t => dead t || (writesOf a).contains t) f (keepOf use m.hp) (I m.nx y) f' m'.hp
          | e => K e f' m' s') ∧
        ∀ y ρ, headE (I m.nx y) (fun t => dead t || (writesOf a).contains t) f (keepOf use m.hp) m.nx ρ fun f1 m1 => caseE f1 (rest y) fun f1 s1 => codeE P call wr LF b f1 m1 s1 K
      else plain
    | .stop => Stuck 544
    | _ => plain
  | .cond x a b, f, m, s, K => match f.opv x with
    | .c (.boo true v) => match v with
      | true => codeE P call wr LF a f m s K
      | false => codeE P call wr LF b f m s K
    | .c (.boo false v) => onTest v s (fun s => codeE P call wr LF a (f.know x true) m s K) (fun s => codeE P call wr LF b (f.know x false) m s K)
    | _ => Stuck 542
  | .block id c, f, m, s, K => codeE P call wr LF c f m s fun e f m s => match e with
    | .exit j => if j = id then K .normal f m s else K (.exit j) f m s
    | e => K e f m s
  | .loop c, f, m, s, K => loopE (fun t => (writesOf c).contains t) (codeE P call wr LF c) LF f m s K
  | .exit id, f, m, s, K => K (.exit id) f m s
  | .ret, f, m, s, K => K .ret f m s
  | _, _, _, _, _ => Stuck 543

theorem rounds_mono {c : Code} {Q : Exit → Act → World → Prop} : ∀ {n k : Nat}, n ≤ k → ∀ {a : Act} {w : World}, Code.rounds P c Q n a w → Code.rounds P c Q k a w
  | 0, _, _, _, _, h => h.elim
  | n + 1, 0, hk, _, _, _ => by omega
  | n + 1, k + 1, hk, a, w, h => by
    rw [rounds_succ] at h ⊢
    refine wp_mono h fun e a w he => ?_
    cases e <;> first | exact he | exact rounds_mono (Nat.le_of_succ_le_succ hk) he

/-- What is shown of a piece of code. -/
def FOk (P : Program) (c : Code) (F : SF → Mem E → Scr E → KC E → Prop) : Prop :=
  ∀ f m s K, F f m s K → ∀ n, n ≤ m.nx → ∀ ν w R w0, Sat w (m.hp.den ν * R) → Kept w0 w → c.wp P (QC K n ν R w0) (actOf ν f) w
theorem unrollE_sound {c : Code} {F : SF → Mem E → Scr E → KC E → Prop} (hF : FOk P c F) : ∀ (k : Nat) (f : SF) (m : Mem E) (s : Scr E) (K : KC E), unrollE F k f m s K → ∀ n, n ≤ m.nx → ∀ (ν0 ν : Nat → Nat) (w : World) (R : Assn) (w0 : World), Agree n ν0 ν → Sat w (m.hp.den ν * R) → Kept w0 w →
    Code.rounds P c (QC K n ν0 R w0) k (actOf ν f) w
  | 0, _, _, _, _, h, _, _, _, _, _, _, _, _, _, _ => h.elim
  | k + 1, f, m, s, K, h, n, hn, ν0, ν, w, R, w0, ag, H, HK => by
    rw [rounds_succ]
    refine wp_mono (hF f m s _ h n hn ν w R w0 H HK) fun e a w' he => ?_
    cases e <;> try exact he.elim
    · obtain ⟨f', m', s', μ, k', ag', hn', rfl, H', HK'⟩ := he
      exact unrollE_sound hF k f' m' s' K k' n hn' ν0 μ w' R w0 (ag.trans ag' (Nat.le_refl _)) H' HK'
    · exact GoodC.agree he ag
    · exact GoodC.agree he ag
theorem headE_sound {I : List (Nat × SV) × List (Nat × SO E)} {W : Nat → Bool} {f0 : SF} {keep : SH E} {N : Nat} {ρ : Nat → Value} {F : SF → Mem E → Prop} (h : headE I W f0 keep N ρ F) : lowB N W I.1 f0 keep = true ∧ F (headF W I.1 ρ f0) ⟨I.2 ++ keep, N + 32⟩ := by
  unfold headE at h
  cases hb : lowB N W I.1 f0 keep <;> rw [hb] at h
  · exact h.elim
  · rw [cond_true, forceF_eq, forceH_eq, forceN_eq] at h
    exact ⟨rfl, h⟩
theorem loopE_sound {c : Code} {W : Nat → Bool} {F : SF → Mem E → Scr E → KC E → Prop} (hF : FOk P c F) {LF : Nat} : FOk P (.loop c) (loopE W F LF) := by
  intro f m s K h n hn ν w R w0 H HK
  unfold loopE at h
  split at h
  · rename_i dead use Y I mu body
    obtain ⟨⟨y, hcl⟩, hr⟩ := h
    obtain ⟨hl, hc⟩ := closeE_sound hcl
    have key : ∀ k y ρ μ w', mu y ≤ k → lowB m.nx (fun t => dead t || W t) (I m.nx y).1 f (keepOf use m.hp) = true → Agree m.nx ν μ → Sat w' (SH.den μ ((I m.nx y).2 ++ keepOf use m.hp) * R) → Kept w0 w' →
        Code.rounds P c (QC K n ν R w0) (k + 1) (actOf μ (headF (fun t => dead t || W t) (I m.nx y).1 ρ f)) w' := by
      intro k
      induction k with
      | zero =>
        intro y ρ μ w' hk hl ag H' HK'
        rw [rounds_succ]
        obtain ⟨f1, s1, ef, hf1⟩ := caseE_sound (ν := μ) (headE_sound (hr y ρ)).2
        rw [← ef]
        refine wp_mono (hF _ _ _ _ hf1 m.nx (Nat.le_add_right _ _) μ w' R w0 H' HK') fun e a w2 he => ?_
        cases e <;> try exact he.elim
        · obtain ⟨f', m', s', ξ, ⟨y', hlt, _⟩, _⟩ := he
          omega
        · obtain ⟨f', m', s', ξ, k', ag', hn', r⟩ := he
          exact ⟨f', m', s', ξ, k', fun i hi => ((ag.trans ag' (Nat.le_refl _)) i (Nat.lt_of_lt_of_le hi hn)), Nat.le_trans hn hn', r⟩
        · obtain ⟨f', m', s', ξ, k', ag', hn', r⟩ := he
          exact ⟨f', m', s', ξ, k', fun i hi => ((ag.trans ag' (Nat.le_refl _)) i (Nat.lt_of_lt_of_le hi hn)), Nat.le_trans hn hn', r⟩
      | succ k ih =>
        intro y ρ μ w' hk hl ag H' HK'
        rw [rounds_succ]
        obtain ⟨f1, s1, ef, hf1⟩ := caseE_sound (ν := μ) (headE_sound (hr y ρ)).2
        rw [← ef]
        refine wp_mono (hF _ _ _ _ hf1 m.nx (Nat.le_add_right _ _) μ w' R w0 H' HK') fun e a w2 he => ?_
        cases e <;> try exact he.elim
        · obtain ⟨f', m', s', ξ, ⟨y', hlt, hcl'⟩, ag', hn', rfl, H2, HK2⟩ := he
          obtain ⟨hl', hc'⟩ := closeE_sound hcl'
          obtain ⟨ζ, ρ', ag2, hact, H3⟩ := Close_sound hc' hl' H2
          rw [hact]
          exact ih y' ρ' ζ w2 (by omega) hl' ((ag.trans ag' (Nat.le_refl _)).trans ag2 (Nat.le_refl _)) H3 HK2
        · obtain ⟨f', m', s', ξ, k', ag', hn', r⟩ := he
          exact ⟨f', m', s', ξ, k', fun i hi => ((ag.trans ag' (Nat.le_refl _)) i (Nat.lt_of_lt_of_le hi hn)), Nat.le_trans hn hn', r⟩
        · obtain ⟨f', m', s', ξ, k', ag', hn', r⟩ := he
          exact ⟨f', m', s', ξ, k', fun i hi => ((ag.trans ag' (Nat.le_refl _)) i (Nat.lt_of_lt_of_le hi hn)), Nat.le_trans hn hn', r⟩
    obtain ⟨μ, ρ, ag, hact, H1⟩ := Close_sound hc hl H
    rw [hact]
    exact wp_loop_rounds _ (key (mu y) y ρ μ w (Nat.le_refl _) hl ag H1 HK)
  · exact wp_loop_rounds LF (unrollE_sound hF LF f m s K h n hn ν ν w R w0 (Agree.refl _ _) H HK)
end
end Go.Proofs.Ytohijcgbfcahhaa
