/- The executor: guarded operations, regions in the text's order and in whichever. -/
import Derived.Test.YtohijcgbfcahhaaSymDig
namespace Go.Proofs.Ytohijcgbfcahhaa
open Go Go.RowKit

section
variable {E : EXT} {P : Program}

def litS (b : Bool) : SV := .c (.boo true b)
theorem actOf_lit {ν : Nat → Nat} {f : SF} {t : Nat} {l b : Bool} (h : f.at t = .c (.boo l b)) : actOf ν (f.set (some t) (litS b)) = actOf ν f := by
  have hlt : t < f.n := by
    by_cases h' : t < f.n
    · exact h'
    · rw [SF.at_ge h'] at h; cases h
  rw [SF.at_lt hlt] at h
  refine actOf_of rfl fun i _ => ?_
  simp only [SF.set]
  rw [ST.get_put]
  split
  · rename_i e
    subst e
    rw [h]
    simp [litS, SV.den, SC.den]
  · rfl

def guardE (ops : Array Oper) (f : SF) (s : Scr E) (o : Oper) (want skip : SF → Scr E → Prop) : Prop :=
  match o.guard with
  | none => want f s
  | some (g, b) => match (ops[g]?).bind (·.dst) with
    | none => skip f s
    | some t => match f.at t with
      | .c (.boo true q) => bif q == b then want f s else skip f s
      | .c (.boo false q) => onTest q s (fun s => bif b then want (f.set (some t) (litS true)) s else skip (f.set (some t) (litS true)) s)
          (fun s => bif b then skip (f.set (some t) (litS false)) s else want (f.set (some t) (litS false)) s)
      | .tup [] => skip f s
      | _ => Stuck 360
theorem yielded_boo {ops : Array Oper} {f : SF} {g t : Nat} {l q : Bool} (ν : Nat → Nat) (hd : (ops[g]?).bind (·.dst) = some t) (h : f.at t = .c (.boo l q)) : yielded ops (actOf ν f).tmps g = some q := by
  have hlt : t < f.n := by
    by_cases h' : t < f.n
    · exact h'
    · rw [SF.at_ge h'] at h; cases h
  rw [SF.at_lt hlt] at h
  unfold yielded
  rw [hd]
  have e : (actOf ν f).tmps[t]? = some (.bool q) := by rw [actOf_tmp, if_pos hlt, h]; simp [SV.den, SC.den]
  simp [e]
theorem yielded_und {ops : Array Oper} {f : SF} {g t : Nat} (ν : Nat → Nat) (hd : (ops[g]?).bind (·.dst) = some t) (h : f.at t = .tup []) : yielded ops (actOf ν f).tmps g = none := by
  unfold yielded
  rw [hd]
  by_cases hlt : t < f.n
  · rw [SF.at_lt hlt] at h
    have e : (actOf ν f).tmps[t]? = some undef := by rw [actOf_tmp, if_pos hlt, h]; rfl
    simp [e, undef]
  · have e : (actOf ν f).tmps[t]? = none := by rw [actOf_tmp, if_neg hlt]
    simp [e]
theorem guardE_sound {ops : Array Oper} {f : SF} {s : Scr E} {o : Oper} {want skip : SF → Scr E → Prop} (h : guardE ops f s o want skip) (ν : Nat → Nat) :
    ∃ f' s', actOf ν f' = actOf ν f ∧ ((Region.wanted o (yielded ops (actOf ν f).tmps) = true ∧ want f' s') ∨ (Region.wanted o (yielded ops (actOf ν f).tmps) = false ∧ skip f' s')) := by
  unfold guardE at h
  split at h
  · rename_i hg
    exact ⟨f, s, rfl, .inl ⟨by simp [Region.wanted, hg], h⟩⟩
  · rename_i g b hg
    split at h
    · rename_i hd
      refine ⟨f, s, rfl, .inr ⟨?_, h⟩⟩
      simp [Region.wanted, hg, yielded, hd]
    · rename_i t hd
      split at h
      · rename_i q hq
        refine ⟨f, s, rfl, ?_⟩
        simp only [Region.wanted, hg, yielded_boo ν hd hq]
        cases q <;> cases b <;> first | exact .inl ⟨rfl, h⟩ | exact .inr ⟨rfl, h⟩
      · rename_i q hq
        simp only [Region.wanted, hg, yielded_boo ν hd hq]
        rcases onTest_sound h with ⟨hb, s, h2⟩ | ⟨hb, s, h2⟩ <;> subst hb
        · refine ⟨_, s, actOf_lit hq, ?_⟩
          cases b <;> simp only [cond_true, cond_false] at h2
          · exact .inr ⟨rfl, h2⟩
          · exact .inl ⟨rfl, h2⟩
        · refine ⟨_, s, actOf_lit hq, ?_⟩
          cases b <;> simp only [cond_true, cond_false] at h2
          · exact .inl ⟨rfl, h2⟩
          · exact .inr ⟨rfl, h2⟩
      · rename_i hq
        refine ⟨f, s, rfl, .inr ⟨?_, h⟩⟩
        simp [Region.wanted, hg, yielded_und ν hd hq]
      · exact h.elim

def opsE (P : Program) (call : CallF E) (wr : Nat → Bool) (ops : Array Oper) (base top : Nat) : List Nat → SF → Mem E → Scr E → KO E → Prop
  | [], f, m, s, K => K f m s
  | i :: l, f, m, s, K => match ops[i]? with
    | none => Stuck 361
    | some o => guardE ops f s o (fun f s => opE P call wr f m s (base + i) top o fun f m s => opsE P call wr ops base top l f m s K) (fun f s => opsE P call wr ops base top l (f.set o.dst .und) m s K)

/-- Behind a region: its end alone. -/
def QR (K : KO E) (n : Nat) (ν : Nat → Nat) (R : Assn) (w0 : World) (e : Exit) (a : Act) (w : World) : Prop :=
  match e with
  | .normal => GoodR K n ν R w0 a w
  | _ => False
theorem GoodR.agree {K : KO E} {n : Nat} {ν μ : Nat → Nat} {R : Assn} {w0 : World} {a : Act} {w : World} (h : GoodR K n μ R w0 a w) (ha : Agree n ν μ) : GoodR K n ν R w0 a w := by
  obtain ⟨f, m, s, ξ, k, ag, r⟩ := h
  exact ⟨f, m, s, ξ, k, ha.trans ag (Nat.le_refl _), r⟩

theorem opsE_sound {call : CallF E} (hc : CallOk P call) (hf : NamesOk P) {wr : Nat → Bool} {ops : Array Oper} {base top n : Nat} (hb : n ≤ base) {ν0 : Nat → Nat} {w0 : World} {R : Assn} {K : KO E} :
    ∀ (l : List Nat) (f : SF) (m : Mem E) (s : Scr E), opsE P call wr ops base top l f m s K → n ≤ m.nx → ∀ (ν : Nat → Nat) (w : World), Agree n ν0 ν → Sat w (m.hp.den ν * R) → Kept w0 w → wpOps P ops (QR K n ν0 R w0) l (actOf ν f) w
  | [], f, m, s, h, hn, ν, w, ag, H, HK => ⟨f, m, s, ν, h, ag, hn, rfl, H, HK⟩
  | i :: l, f, m, s, h, hn, ν, w, ag, H, HK => by
    simp only [opsE] at h
    split at h
    · exact h.elim
    · rename_i o ho
      simp only [wpOps, ho]
      obtain ⟨f', s', hf', hg | hg⟩ := guardE_sound h ν
      · rw [if_pos hg.1, ← hf']
        refine .inl (Oper.wp_mono (fun a w' hgood => ?_) (opE_sound hc hf hn (Nat.le_trans hb (Nat.le_add_right _ _)) hg.2 H HK _))
        obtain ⟨f2, m2, s2, μ, k, ag2, hn2, rfl, H2, HK2⟩ := hgood
        exact opsE_sound hc hf hb l f2 m2 s2 k hn2 μ w' (ag.trans ag2 (Nat.le_refl _)) H2 HK2
      · rw [if_neg (by simp [hg.1])]
        rw [← hf', ← SV.den_und ν, actOf_put]
        exact opsE_sound hc hf hb l _ m s' hg.2 hn ν w ag H HK

def wantedS (ops : Array Oper) (f : SF) (o : Oper) : Option Bool :=
  match o.guard with
  | none => some true
  | some (g, b) => match (ops[g]?).bind (·.dst) with
    | none => some false
    | some t => match f.at t with
      | .c (.boo true q) => some (q == b)
      | .tup [] => some false
      | _ => none
theorem wantedS_sound {ops : Array Oper} {f : SF} {o : Oper} {b : Bool} (h : wantedS ops f o = some b) (ν : Nat → Nat) : Region.wanted o (yielded ops (actOf ν f).tmps) = b := by
  unfold wantedS at h
  split at h
  · rename_i hg; cases h; simp [Region.wanted, hg]
  · rename_i g b' hg
    split at h
    · rename_i hd; cases h; simp [Region.wanted, hg, yielded, hd]
    · rename_i t hd
      split at h
      · rename_i q hq
        cases h
        simp only [Region.wanted, hg, yielded_boo ν hd hq]
        cases q <;> cases b' <;> rfl
      · rename_i hq
        cases h
        simp [Region.wanted, hg, yielded_und ν hd hq]
      · cases h
/-- What it gives, if it is quiet. -/
def takeV (P : Program) (wr : Nat → Bool) (ops : Array Oper) (h0 : SH E) (f : SF) (i : Nat) : Option (Option Prop × SV) :=
  match ops[i]? with
  | some o => (match wantedS ops f o with
      | some false => some (none, .und)
      | some true => match evalOp P (wr (o.dst.getD 0)) f (bif isLoad o then h0 else []) o with
        | .ok v => some (none, v)
        | .need p v => some (some p, v)
        | _ => none
      | none => none)
  | none => none
/-- The first that is ready, free and quiet. -/
def firstD {α : Type} (g : Nat → Option α) (L : Nat) : List Dg → Nat → Option (Nat × α)
  | [], _ => none
  | d :: l, i => bif readyB L i d && covers L d.conf then (match g i with
      | some a => some (i, a)
      | none => firstD g L l (i + 1)) else firstD g L l (i + 1)
theorem firstD_mem {α : Type} {g : Nat → Option α} {L : Nat} : ∀ {l : List Dg} {i k : Nat} {a : α}, firstD g L l i = some (k, a) → ∃ j d, l[j]? = some d ∧ k = i + j ∧ readyB L k d = true ∧ covers L d.conf = true ∧ g k = some a
  | [], _, _, _, h => by simp [firstD] at h
  | d :: l, i, k, a, h => by
    have next : firstD g L l (i + 1) = some (k, a) → ∃ j e, (d :: l)[j]? = some e ∧ k = i + j ∧ readyB L k e = true ∧ covers L e.conf = true ∧ g k = some a := fun h => by
      obtain ⟨j, e, h1, h2, h3⟩ := firstD_mem h
      exact ⟨j + 1, e, by simpa using h1, by omega, h3⟩
    simp only [firstD] at h
    cases hb : readyB L i d && covers L d.conf <;> rw [hb] at h
    · exact next h
    · simp only [cond_true] at h
      split at h
      · rename_i b hg
        simp only [Option.some.injEq, Prod.mk.injEq] at h
        obtain ⟨rfl, rfl⟩ := h
        simp only [Bool.and_eq_true] at hb
        exact ⟨0, d, rfl, rfl, hb.1, hb.2, hg⟩
      · exact next h
def setP (f : SF) (ops : Array Oper) (i : Nat) (v : SV) : SF := match ops[i]? with | some o => f.set o.dst v | none => f
def restP (V : Nat → Prop) (i : Nat) : List Nat → Prop
  | [] => True
  | j :: l => (V i → V j) ∧ restP V i l
theorem restP_mem {V : Nat → Prop} {i : Nat} (hi : V i) : ∀ {l : List Nat}, restP V i l → ∀ j ∈ l, V j
  | [], _, _, hj => by cases hj
  | k :: l, h, j, hj => by
    cases hj with
    | head => exact h.1 hi
    | tail _ hm => exact restP_mem hi h.2 j hm
/-- The flag of a guard that is not decided yet, of one that is ready. -/
def openG (ops : Array Oper) (f : SF) (o : Oper) : Option (Nat × Bool) := match o.guard with
  | none => none
  | some (g, _) => match (ops[g]?).bind (·.dst) with
    | none => none
    | some t => match f.at t with
      | .c (.boo false q) => some (t, q)
      | _ => none
theorem openG_at {ops : Array Oper} {f : SF} {o : Oper} {t : Nat} {q : Bool} (h : openG ops f o = some (t, q)) : f.at t = .c (.boo false q) := by
  unfold openG at h
  split at h <;> try cases h
  split at h <;> try cases h
  split at h <;> try cases h
  rename_i hq
  exact hq
def firstG (ops : Array Oper) (f : SF) (L : Nat) : List Dg → Nat → Option (Nat × Bool)
  | [], _ => none
  | d :: l, i => bif readyB L i d then (match ops[i]? with
      | some o => (match openG ops f o with
        | some a => some a
        | none => firstG ops f L l (i + 1))
      | none => firstG ops f L l (i + 1)) else firstG ops f L l (i + 1)
theorem firstG_at {ops : Array Oper} {f : SF} {L : Nat} {t : Nat} {q : Bool} : ∀ {l : List Dg} {i : Nat}, firstG ops f L l i = some (t, q) → f.at t = .c (.boo false q)
  | [], _, h => by simp [firstG] at h
  | d :: l, i, h => by
    simp only [firstG] at h
    cases hb : readyB L i d <;> rw [hb] at h
    · exact firstG_at h
    · simp only [cond_true] at h
      split at h
      · split at h
        · rename_i ho
          cases h
          exact openG_at ho
        · exact firstG_at h
      · exact firstG_at h
/-- One that is not quiet, whichever. -/
def goB (P : Program) (call : CallF E) (wr : Nat → Bool) (ops : Array Oper) (base top : Nat) (h0 : SH E) (ds : List Dg) (L : Nat) (f : SF) (m : Mem E) (s : Scr E) (K : KO E) (rec : Nat → SF → Mem E → Scr E → Prop) : Prop :=
  match readyD L ds 0 with
  | [] => K f m s
  | i :: l =>
    let V := fun i => match ops[i]? with
      | some o => guardE ops f s o
          (fun f s => opE P call wr f m s (base + i) top o fun f m s => bif ((ds[i]?).map Dg.lo).getD true then subH h0 m.hp (rec (orB i L) f m s) else rec (orB i L) f m s)
          (fun f s => rec (orB i L) (f.set o.dst .und) m s)
      | none => Stuck 371
    V i ∧ restP V i l
def stepB (P : Program) (call : CallF E) (wr : Nat → Bool) (ops : Array Oper) (base top : Nat) (h0 : SH E) (ds : List Dg) (L : Nat) (f : SF) (m : Mem E) (s : Scr E) (K : KO E) (rec : Nat → SF → Mem E → Scr E → Prop) (other : Prop) : Prop :=
  match firstD (takeV P wr ops h0 f) L ds 0 with
  | some (i, none, v) => rec (orB i L) (setP f ops i v) m s
  | some (i, some p, v) => p ∧ rec (orB i L) (setP f ops i v) m s
  | none => other
def anyE (P : Program) (call : CallF E) (wr : Nat → Bool) (ops : Array Oper) (base top : Nat) (h0 : SH E) (ds : List Dg) : Nat → Nat → SF → Mem E → Scr E → KO E → Prop
  | 0, L, f, m, s, K => match readyD L ds 0 with
    | [] => K f m s
    | _ => Stuck 370
  | fuel + 1, L0, f, m, s, K => outN L0 fun L =>
    let rec' := fun L f m s => anyE P call wr ops base top h0 ds fuel L f m s K
    stepB P call wr ops base top h0 ds L f m s K rec' (match firstG ops f L ds 0 with
      | some (t, q) => onTest q s
          (fun s => stepB P call wr ops base top h0 ds L (f.set (some t) (litS true)) m s K rec' (goB P call wr ops base top h0 ds L (f.set (some t) (litS true)) m s K rec'))
          (fun s => stepB P call wr ops base top h0 ds L (f.set (some t) (litS false)) m s K rec' (goB P call wr ops base top h0 ds L (f.set (some t) (litS false)) m s K rec'))
      | none => goB P call wr ops base top h0 ds L f m s K rec')
end
end Go.Proofs.Ytohijcgbfcahhaa
