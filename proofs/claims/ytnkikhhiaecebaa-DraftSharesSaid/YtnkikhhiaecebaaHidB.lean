/- Methods of an object alone, with further arguments; new objects; two objects at once: from runs of the executor to summaries. No program in sight. -/
import Derived.Test.YtnkikhhiaecebaaBaseC
set_option linter.all false
namespace Go.Proofs.Ytnkikhhiaecebaa
open Go Go.RowKit
section
variable {E : EXT} {H : Hid E}

/-- A second object's names: itself 5, what it alone has 50 and so on. -/
def ren5 (n : Nat) : Nat := bif Nat.blt n 10 then n + 5 else n + 40
def renBy (τ : Nat → Nat) : SH E → SH E
  | [] => []
  | (n, o) :: l => (τ n, o.ren τ) :: renBy τ l
theorem renBy_den (τ ν : Nat → Nat) : ∀ l : SH E, (renBy τ l).den ν = l.den (ν ∘ τ)
  | [] => rfl
  | (n, o) :: l => by
    simp only [renBy, SH.den]
    rw [SO.den_ren, renBy_den τ ν l]
    rfl
theorem named_self {ν μ : Nat → Nat} {b : Nat} (h : μ 0 = b) : Named ν μ b [] := ⟨h, fun i n hi => by simp at hi⟩
theorem sat_hid {ν : Nat → Nat} {b : Nat} {x : H.X} {w : World} {R : Assn} (h : Sat w (hidDen H ν b [] x * R)) : ∃ μ z, μ 0 = b ∧ Sat w (SH.den μ (H.heap x z) * R) := by
  unfold hidDen at h
  obtain ⟨μ, h⟩ := h.ex_mul
  obtain ⟨z, h⟩ := h.ex_mul
  rw [Assn.mul_assoc] at h
  obtain ⟨hn, h⟩ := h.pure_mul
  exact ⟨μ, z, hn.1, h⟩
theorem hid_sat {ν μ : Nat → Nat} {b : Nat} {x : H.X} {z : H.Z} (h0 : μ 0 = b) {w : World} {R : Assn} (h : Sat w (SH.den μ (H.heap x z) * R)) : Sat w (hidDen H ν b [] x * R) := by
  unfold hidDen
  refine Sat.mk_ex_mul μ (Sat.mk_ex_mul z ?_)
  rw [Assn.mul_assoc]
  exact Sat.mk_pure_mul (named_self h0) h
theorem den_any {v : SV} (h : v.names = []) (ν μ : Nat → Nat) : v.den ν = v.den μ := SV.den_eq v (by rw [h]; intro n hn; cases hn)
theorem map_den_any {l : List SV} (h : ∀ v ∈ l, v.names = []) (ν μ : Nat → Nat) : l.map (SV.den ν) = l.map (SV.den μ) := List.map_congr_left fun v hv => den_any (h v hv) ν μ

/-- A method that turns the object, and tells something that names no block. -/
structure SelfOk (H : Hid E) (g : FuncId) (A : Type) (av : A → List SV) (cond : H.X → A → Prop) (res : H.X → A → SV) (xF : H.X → A → H.X) : Prop where
  names : ∀ x a, cond x a → (∀ v ∈ av a, v.names = []) ∧ (res x a).names = []
  calls : ∀ x a, cond x a → ∀ z, ∃ (T : List (Smry Try.prog E)) (wr : FuncId → Nat → Bool) (LF k : Nat) (s : Scr E) (post : SV → Mem E → Prop), Run (callN Try.prog T wr LF k g (.c (.ptr 0 0) :: av a) ⟨H.heap x z, 100⟩ s fun v m _ => post v m) ∧ ∀ v m, post v m → ∃ z', outM (res x a) (H.heap (xF x a) z') v m
def selfS (g : FuncId) {A : Type} (av : A → List SV) (cond : H.X → A → Prop) (res : H.X → A → SV) (xF : H.X → A → H.X) (dec : List SV → Option A) (hd : ∀ l a, dec l = some a → ∀ ν, l.map (SV.den ν) = (av a).map (SV.den ν)) (hok : SelfOk H g A av cond res xF) : Smry Try.prog (E.hid H) where
  g := g
  run := fun args m K => match args with
    | .c (.ptr c 0) :: rest => match dec rest with
      | some a => match m.hp.get c with
        | some (.ext (HO.obj [] x)) => cond x a ∧ K (res x a) ⟨m.hp.set c (.ext (HO.obj [] (xF x a))), m.nx⟩
        | _ => Stuck 797
      | none => Stuck 798
    | _ => Stuck 799
  ok := fun args m K hr => by
    split at hr <;> try exact hr.elim
    rename_i c rest
    split at hr <;> try exact hr.elim
    rename_i a hda
    split at hr <;> try exact hr.elim
    rename_i x hx
    obtain ⟨hc, hk⟩ := hr
    intro ν w R w0 Hs HK
    obtain ⟨n1, n2⟩ := hok.names x a hc
    have H1 := Hs
    rw [SH.den_get ν hx, Assn.mul_assoc] at H1
    obtain ⟨μ, z, h0, H1⟩ := sat_hid (H := H) H1
    obtain ⟨T, wr, LF, k, s, post, hrun, hpost⟩ := hok.calls x a hc z
    have e : (SV.c (.ptr c 0) :: rest).map (SV.den ν) = (SV.c (.ptr 0 0) :: av a).map (SV.den μ) := by
      simp only [List.map_cons]
      rw [hd rest a hda ν, map_den_any n1 ν μ]
      simp only [SV.den, SC.den, h0]
    rw [e]
    refine (callN_ok namesOk mixed T wr LF k g _ ⟨H.heap x z, 100⟩ s _ hrun.out μ w _ w0 H1 HK).mono ?_
    rintro e w' ⟨v, m', s', ξ, hv, ag, _, he, hs, hk'⟩
    obtain ⟨z', ho⟩ := hpost v m' hv
    obtain ⟨κ, ag2, hv2, hs⟩ := outM_sound ho hs
    have k0 : κ 0 = ν c := by rw [ag2 0 (by decide), ag 0 (show 0 < 100 by decide), h0]
    refine ⟨_, _, ν, hk, Agree.refl _ _, Nat.le_refl _, ?_, ?_, hk'⟩
    · rw [he, hv2, den_any n2 κ ν]
    · rw [SH.den_set ν hx, Assn.mul_assoc]
      exact hid_sat (H := H) k0 hs
/-- A new object, made out of what names no block. -/
structure NewOk (H : Hid E) (g : FuncId) (A : Type) (av : A → List SV) (cond : A → Prop) (x0 : A → H.X) : Prop where
  names : ∀ a, cond a → ∀ v ∈ av a, v.names = []
  calls : ∀ a, cond a → ∃ (T : List (Smry Try.prog E)) (wr : FuncId → Nat → Bool) (LF k : Nat) (s : Scr E) (post : SV → Mem E → Prop), Run (callN Try.prog T wr LF k g (av a) ⟨[], 100⟩ s fun v m _ => post v m) ∧ ∀ v m, post v m → ∃ z', outM (.c (.ptr 40 0)) (renBy (· + 40) (H.heap (x0 a) z')) v m
def newS (g : FuncId) {A : Type} (av : A → List SV) (cond : A → Prop) (x0 : A → H.X) (dec : List SV → Option A) (hd : ∀ l a, dec l = some a → ∀ ν, l.map (SV.den ν) = (av a).map (SV.den ν)) (hok : NewOk H g A av cond x0) : Smry Try.prog (E.hid H) where
  g := g
  run := fun args m K => match dec args with
    | some a => cond a ∧ bif newOk m (.ext (HO.obj [] (x0 a))) then K (.c (.ptr m.nx 0)) (withNew m (.ext (HO.obj [] (x0 a)))) else Stuck 801
    | none => Stuck 802
  ok := fun args m K hr => by
    split at hr <;> try exact hr.elim
    rename_i a hda
    obtain ⟨hc, hk⟩ := hr
    cases hn : newOk m (SO.ext (HO.obj [] (x0 a)) : SO (E.hid H)) <;> rw [hn] at hk
    · exact hk.elim
    simp only [cond_true] at hk
    intro ν w R w0 Hs HK
    obtain ⟨T, wr, LF, k, s, post, hrun, hpost⟩ := hok.calls a hc
    rw [hd args a hda ν]
    have H1 : Sat w ((⟨[], 100⟩ : Mem E).hp.den ν * (m.hp.den ν * R)) := by
      simp only [SH.den]
      rw [Assn.one_mul]
      exact Hs
    refine (callN_ok namesOk mixed T wr LF k g _ ⟨[], 100⟩ s _ hrun.out ν w _ w0 H1 HK).mono ?_
    rintro e w' ⟨v, m', s', ξ, hv, _, _, he, hs, hk'⟩
    obtain ⟨z', ho⟩ := hpost v m' hv
    obtain ⟨κ, _, hv2, hs⟩ := outM_sound ho hs
    rw [renBy_den] at hs
    have hs2 : Sat w' (hidDen H ν (κ 40) [] (x0 a) * (m.hp.den ν * R)) := hid_sat (H := H) (μ := κ ∘ (· + 40)) rfl hs
    refine ⟨_, _, upd ν m.nx (κ 40), hk, Agree.upd (Nat.le_refl _) _, by unfold withNew; exact Nat.le_succ _, ?_, withNew_sat hn hs2, hk'⟩
    rw [he, hv2]
    simp only [SV.den, SC.den, upd_same]
/-- A new object, made out of another one. -/
structure FromOk (H : Hid E) (g : FuncId) (cond : H.X → Prop) (xF : H.X → H.X) (x0 : H.X → H.X) : Prop where
  calls : ∀ x, cond x → ∀ z, ∃ (T : List (Smry Try.prog E)) (wr : FuncId → Nat → Bool) (LF k : Nat) (s : Scr E) (post : SV → Mem E → Prop), Run (callN Try.prog T wr LF k g [.c (.ptr 0 0)] ⟨H.heap x z, 100⟩ s fun v m _ => post v m) ∧ ∀ v m, post v m → ∃ z' z'', outM (.c (.ptr 40 0)) (H.heap (xF x) z' ++ renBy (· + 40) (H.heap (x0 x) z'')) v m
def fromS (g : FuncId) (cond : H.X → Prop) (xF : H.X → H.X) (x0 : H.X → H.X) (hok : FromOk H g cond xF x0) : Smry Try.prog (E.hid H) where
  g := g
  run := fun args m K => match args with
    | [.c (.ptr c 0)] => match m.hp.get c with
      | some (.ext (HO.obj [] x)) => cond x ∧ bif newOk ⟨m.hp.set c (.ext (HO.obj [] (xF x))), m.nx⟩ (.ext (HO.obj [] (x0 x))) then K (.c (.ptr m.nx 0)) (withNew ⟨m.hp.set c (.ext (HO.obj [] (xF x))), m.nx⟩ (.ext (HO.obj [] (x0 x)))) else Stuck 803
      | _ => Stuck 804
    | _ => Stuck 805
  ok := fun args m K hr => by
    split at hr <;> try exact hr.elim
    rename_i c
    split at hr <;> try exact hr.elim
    rename_i x hx
    obtain ⟨hc, hk⟩ := hr
    cases hn : newOk (⟨m.hp.set c (.ext (HO.obj [] (xF x))), m.nx⟩ : Mem (E.hid H)) (SO.ext (HO.obj [] (x0 x)) : SO (E.hid H)) <;> rw [hn] at hk
    · exact hk.elim
    simp only [cond_true] at hk
    intro ν w R w0 Hs HK
    have H1 := Hs
    rw [SH.den_get ν hx, Assn.mul_assoc] at H1
    obtain ⟨μ, z, h0, H1⟩ := sat_hid (H := H) H1
    obtain ⟨T, wr, LF, k, s, post, hrun, hpost⟩ := hok.calls x hc z
    have e : ([SV.c (.ptr c 0)] : List SV).map (SV.den ν) = ([SV.c (.ptr 0 0)] : List SV).map (SV.den μ) := by
      simp only [List.map_cons, List.map_nil, SV.den, SC.den, h0]
    rw [e]
    refine (callN_ok namesOk mixed T wr LF k g _ ⟨H.heap x z, 100⟩ s _ hrun.out μ w _ w0 H1 HK).mono ?_
    rintro e w' ⟨v, m', s', ξ, hv, ag, _, he, hs, hk'⟩
    obtain ⟨z', z'', ho⟩ := hpost v m' hv
    obtain ⟨κ, ag2, hv2, hs⟩ := outM_sound ho hs
    have k0 : κ 0 = ν c := by rw [ag2 0 (by decide), ag 0 (show 0 < 100 by decide), h0]
    rw [SH.den_append, renBy_den, Assn.mul_assoc] at hs
    have hs1 : Sat w' (hidDen H ν (ν c) [] (xF x) * (SH.den (κ ∘ (· + 40)) (H.heap (x0 x) z'') * ((m.hp.del c).den ν * R))) := hid_sat (H := H) k0 hs
    have hs2 : Sat w' (SH.den (κ ∘ (· + 40)) (H.heap (x0 x) z'') * (hidDen H ν (ν c) [] (xF x) * ((m.hp.del c).den ν * R))) := hs1.swap
    have hs3 := hid_sat (H := H) (ν := ν) (b := κ 40) (μ := κ ∘ (· + 40)) rfl hs2
    have hs4 : Sat w' (hidDen H ν (κ 40) [] (x0 x) * ((m.hp.set c (.ext (HO.obj [] (xF x)))).den ν * R)) := by
      rw [SH.den_set ν hx, Assn.mul_assoc]
      exact hs3
    refine ⟨_, _, upd ν m.nx (κ 40), hk, Agree.upd (Nat.le_refl _) _, by unfold withNew; exact Nat.le_succ _, ?_, withNew_sat hn hs4, hk'⟩
    rw [he, hv2]
    simp only [SV.den, SC.den, upd_same]
def lowN (n : Nat) : Bool := Nat.beq n 0 || (Nat.ble 10 n && Nat.blt n 50)
theorem lowN_of {l : List Nat} (h : l.all lowN = true) : ∀ n ∈ l, n = 0 ∨ (10 ≤ n ∧ n < 50) := fun n hn => by
  have := List.all_eq_true.1 h n hn
  simp only [lowN, Bool.or_eq_true, Bool.and_eq_true, Nat.ble_eq, Nat.blt_eq] at this
  rcases this with h | h
  · exact .inl (Nat.eq_of_beq_eq_true h)
  · exact .inr h
def two (μ μ2 : Nat → Nat) (n : Nat) : Nat := if n < 5 then μ n else if n < 10 then μ2 (n - 5) else if n < 50 then μ n else μ2 (n - 40)
theorem two_left {μ μ2 : Nat → Nat} {n : Nat} (h : n = 0 ∨ (10 ≤ n ∧ n < 50)) : μ n = two μ μ2 n := by
  unfold two
  rcases h with rfl | h
  · rfl
  · rw [if_neg (by omega), if_neg (by omega), if_pos (by omega)]
theorem two_right {μ μ2 : Nat → Nat} {n : Nat} (h : n = 0 ∨ (10 ≤ n ∧ n < 50)) : μ2 n = (two μ μ2 ∘ ren5) n := by
  rcases h with rfl | h
  · rfl
  · have e : ren5 n = n + 40 := by
      unfold ren5
      have hb : Nat.blt n 10 = false := by
        cases hb : Nat.blt n 10 with
        | false => rfl
        | true => rw [Nat.blt_eq] at hb; omega
      rw [hb]
      rfl
    simp only [Function.comp, e, two]
    rw [if_neg (by omega), if_neg (by omega), if_neg (by omega), Nat.add_sub_cancel]
/-- A function that looks at two objects. -/
structure TwoOk (H : Hid E) (g : FuncId) (cond : H.X → H.X → Prop) (res : H.X → H.X → SV) : Prop where
  low : ∀ x y, cond x y → ∀ z z2, (H.heap x z).names.all lowN = true ∧ (H.heap y z2).names.all lowN = true
  names : ∀ x y, cond x y → (res x y).names = []
  calls : ∀ x y, cond x y → ∀ z z2, ∃ (T : List (Smry Try.prog E)) (wr : FuncId → Nat → Bool) (LF k : Nat) (s : Scr E) (post : SV → Mem E → Prop), Run (callN Try.prog T wr LF k g [.c (.ptr 0 0), .c (.ptr 5 0)] ⟨H.heap x z ++ renBy ren5 (H.heap y z2), 100⟩ s fun v m _ => post v m) ∧ ∀ v m, post v m → ∃ z' z'', outM (res x y) (H.heap x z' ++ renBy ren5 (H.heap y z'')) v m
def twoS (g : FuncId) (cond : H.X → H.X → Prop) (res : H.X → H.X → SV) (hok : TwoOk H g cond res) : Smry Try.prog (E.hid H) where
  g := g
  run := fun args m K => match args with
    | [.c (.ptr c 0), .c (.ptr d 0)] => match m.hp.get c with
      | some (.ext (HO.obj [] x)) => match (m.hp.del c).get d with
        | some (.ext (HO.obj [] y)) => cond x y ∧ K (res x y) m
        | _ => Stuck 806
      | _ => Stuck 807
    | _ => Stuck 808
  ok := fun args m K hr => by
    split at hr <;> try exact hr.elim
    rename_i c d
    split at hr <;> try exact hr.elim
    rename_i x hx
    split at hr <;> try exact hr.elim
    rename_i y hy
    obtain ⟨hc, hk⟩ := hr
    intro ν w R w0 Hs HK
    have H1 := Hs
    rw [SH.den_get ν hx, Assn.mul_assoc, SH.den_get ν hy, Assn.mul_assoc] at H1
    obtain ⟨μ, z, h0, H1⟩ := sat_hid (H := H) H1
    obtain ⟨μ2, z2, h2, H2⟩ := sat_hid (H := H) H1.swap
    obtain ⟨T, wr, LF, k, s, post, hrun, hpost⟩ := hok.calls x y hc z z2
    obtain ⟨l1, l2⟩ := hok.low x y hc z z2
    rw [SH.den_eq (H.heap x z) (ν := μ) (μ := two μ μ2) fun n hn => two_left (lowN_of l1 n hn), SH.den_eq (H.heap y z2) (ν := μ2) (μ := two μ μ2 ∘ ren5) fun n hn => two_right (lowN_of l2 n hn), ← renBy_den] at H2
    have H3 : Sat w ((⟨H.heap x z ++ renBy ren5 (H.heap y z2), 100⟩ : Mem E).hp.den (two μ μ2) * (((m.hp.del c).del d).den ν * R)) := by
      rw [SH.den_append]
      exact H2.cast (by ac_rfl)
    have e : ([SV.c (.ptr c 0), SV.c (.ptr d 0)] : List SV).map (SV.den ν) = ([SV.c (.ptr 0 0), SV.c (.ptr 5 0)] : List SV).map (SV.den (two μ μ2)) := by
      have e1 : two μ μ2 0 = ν c := h0
      have e2 : two μ μ2 5 = ν d := h2
      simp only [List.map_cons, List.map_nil, SV.den, SC.den, e1, e2]
    rw [e]
    refine (callN_ok namesOk mixed T wr LF k g _ ⟨H.heap x z ++ renBy ren5 (H.heap y z2), 100⟩ s _ hrun.out (two μ μ2) w _ w0 H3 HK).mono ?_
    rintro e w' ⟨v, m', s', ξ, hv, ag, _, he, hs, hk'⟩
    obtain ⟨z', z'', ho⟩ := hpost v m' hv
    obtain ⟨κ, ag2, hv2, hs⟩ := outM_sound ho hs
    have k0 : κ 0 = ν c := by rw [ag2 0 (by decide), ag 0 (show 0 < 100 by decide)]; exact h0
    have k5 : κ 5 = ν d := by rw [ag2 5 (by decide), ag 5 (show 5 < 100 by decide)]; exact h2
    rw [SH.den_append, renBy_den, Assn.mul_assoc] at hs
    have hs1 : Sat w' (hidDen H ν (ν c) [] x * (SH.den (κ ∘ ren5) (H.heap y z'') * (((m.hp.del c).del d).den ν * R))) := hid_sat (H := H) k0 hs
    have hs2 : Sat w' (hidDen H ν (ν d) [] y * (hidDen H ν (ν c) [] x * (((m.hp.del c).del d).den ν * R))) := hid_sat (H := H) (μ := κ ∘ ren5) k5 hs1.swap
    refine ⟨_, _, ν, hk, Agree.refl _ _, Nat.le_refl _, ?_, ?_, hk'⟩
    · rw [he, hv2, den_any (hok.names x y hc) κ ν]
    · rw [SH.den_get ν hx, Assn.mul_assoc, SH.den_get ν hy, Assn.mul_assoc]
      exact hs2.swap
end
end Go.Proofs.Ytnkikhhiaecebaa
