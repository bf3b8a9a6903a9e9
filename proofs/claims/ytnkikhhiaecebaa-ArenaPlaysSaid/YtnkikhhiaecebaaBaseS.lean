/- What the executor knows of the arena: abstract predicates for it and for a count, contracts of its calls (all at addresses that there are). -/
import Derived.Test.YtnkikhhiaecebaaBaseC
import Derived.Test.YtnkikhhiaecebaaBaseAP3
set_option linter.all false
namespace Go.Proofs.Ytnkikhhiaecebaa
open Go Go.RowKit

inductive XO where
  | ar (A : Ar)
  | cnt (p : Nat) (st : Cnt)
def XO.den (ν : Nat → Nat) (b : Nat) : XO → Assn
  | .ar A => arAt b A
  | .cnt p st => cntAt b (ν p) st
def XO.names : XO → List Nat
  | .ar _ => []
  | .cnt p _ => [p]
def XO.ren (τ : Nat → Nat) : XO → XO
  | .ar A => .ar A
  | .cnt p st => .cnt (τ p) st
def XO.eqv : XO → XO → Prop
  | .ar A, .ar B => A = B
  | .cnt p s, .cnt q t => bif Nat.beq p q then s = t else Stuck 519
  | _, _ => Stuck 519
def XE : EXT where
  X := XO
  den := XO.den
  names := XO.names
  ren := XO.ren
  law := fun ν μ b x h => by
    cases x with
    | ar A => rfl
    | cnt p st => simp only [XO.den, h p (by simp [XO.names])]
  rlaw := fun τ ν b x => by cases x <;> rfl
  eqv := XO.eqv
  eqv_eq := fun x y h => by
    cases x <;> cases y <;> simp only [XO.eqv] at h <;> first | exact h.elim | (subst h; rfl) | skip
    rename_i p s q t
    cases hb : Nat.beq p q <;> rw [hb] at h
    · exact h.elim
    · have e := Nat.eq_of_beq_eq_true hb
      simp only [cond_true] at h
      subst e h
      rfl

abbrev MX := Mem XE
abbrev arO (A : Ar) : SO XE := .ext (XO.ar A)

def Ar.rd (A : Ar) (h i : Int) : Nat := (A.word h.toNat i.toNat).getD 0
def Ar.Has (A : Ar) (h i : Int) : Prop := 0 ≤ h ∧ h < 18446744073709551616 ∧ 0 ≤ i ∧ (A.word h.toNat i.toNat).isSome = true
theorem has_cases {A : Ar} {h i : Int} (H : A.Has h i) : (∃ n : Nat, h = n ∧ n < TW) ∧ (∃ k : Nat, i = k) ∧
    ((h.toNat = 0 ∧ i.toNat < 9 ∧ A.fixed i.toNat = A.rd h i) ∨ (h.toNat ≠ 0 ∧ ∃ b, A.find h.toNat = some b ∧ b.ws[i.toNat]? = some (A.rd h i))) := by
  obtain ⟨h0, h1, h2, h3⟩ := H
  refine ⟨⟨h.toNat, by omega, by unfold TW; omega⟩, ⟨i.toNat, by omega⟩, ?_⟩
  unfold Ar.rd
  unfold Ar.word at *
  split at h3
  · rename_i e
    rw [if_pos e]
    split at h3
    · rename_i e9
      exact .inl ⟨e, e9, by simp [e9]⟩
    · cases h3
  · rename_i e
    rw [if_neg e]
    cases hf : A.find h.toNat with
    | none => rw [hf] at h3; cases h3
    | some b =>
      rw [hf] at h3
      simp only [Option.bind_some] at h3 ⊢
      cases hb : b.ws[i.toNat]? with
      | none => rw [hb] at h3; cases h3
      | some x => exact .inr ⟨e, b, rfl, by simp [hb]⟩
theorem gives_ext {g : FuncId} {args : List SV} {m : MX} {K : SV → MX → Prop} {n : Nat} {x y : XO} (hg : m.hp.get n = some (.ext x)) {v : SV} (hk : K v ⟨m.hp.set n (.ext y), m.nx⟩)
    (hc : ∀ ν w R, Sat w (XO.den ν (ν n) x * R) → Calls Try.prog g (args.map (SV.den ν)).toArray w fun e w' => e = .returned (v.den ν) ∧ Sat w' (XO.den ν (ν n) y * R) ∧ Kept w w') : Gives Try.prog g args m K := fun ν w R w0 H HK => by
  rw [SH.den_get ν hg, Assn.mul_assoc] at H
  refine (hc ν w _ H).mono fun e w' ⟨he, hs, hk'⟩ => ⟨v, _, ν, hk, Agree.refl _ _, Nat.le_refl _, he, ?_, HK.trans hk'⟩
  rw [SH.den_set ν hg, Assn.mul_assoc]
  exact hs
def okE : Bool × List SC := (false, [.int true .i64 0])
def nat64 (n : Nat) : Bool × List SC := (false, [.int false .u64 (n : Int)])

def Ar.read (A : Ar) : Ar := A.tick fun t => { t with reads := t.reads + 1 }
def Ar.write (A : Ar) (h i y : Int) : Ar := (A.set h.toNat i.toNat y.toNat).tick fun t => { t with writes := t.writes + 1 }
def Ar.add (A : Ar) (h i y : Int) : Ar := (A.set h.toNat i.toNat (addW (A.rd h i) y.toNat)).tick fun t => { t with adds := t.adds + 1 }
def Ar.swap (A : Ar) (h i o y : Int) : Ar := if (A.rd h i : Int) = o then (A.set h.toNat i.toNat y.toNat).tick (fun t => { t with swaps := t.swaps + 1 }) else A.tick fun t => { t with swaps := t.swaps + 1 }

def readX : Smry Try.prog XE where
  g := 15
  run := fun args m K => match args with
    | [.c (.ptr n 0), .agg [.int _ .u64 h _, .int _ .i64 i _]] => match m.hp.get n with
      | some (.ext (.ar A)) => A.Has h i ∧ K (.tup [nat64 (A.rd h i), okE]) ⟨m.hp.set n (arO A.read), m.nx⟩
      | _ => Stuck 730
    | _ => Stuck 731
  ok := fun args m K hr => by
    split at hr <;> try exact hr.elim
    rename_i n _ h _ _ i _
    split at hr <;> try exact hr.elim
    rename_i A hA
    refine gives_ext hA hr.2 fun ν w R H => ?_
    obtain ⟨⟨a, rfl, ha⟩, ⟨b, rfl⟩, hc⟩ := has_cases hr.1
    rcases hc with ⟨hz, h9, hx⟩ | ⟨hz, bl, hf, hx⟩
    · have := read_fixed (ν n) b _ A w H (by simpa using h9) (by simpa using hx)
      have e : a = 0 := by simpa using hz
      subst e
      exact this
    · exact read_block (ν n) a b _ A bl w H ha (by simpa using hz) (by simpa using hf) (by simpa using hx)
def writeX : Smry Try.prog XE where
  g := 19
  run := fun args m K => match args with
    | [.c (.ptr n 0), .agg [.int _ .u64 h _, .int _ .i64 i _], .c (.int _ .u64 y _)] => match m.hp.get n with
      | some (.ext (.ar A)) => A.Has h i ∧ (0 ≤ y ∧ y < 18446744073709551616) ∧ K (.c (.int true .i64 0)) ⟨m.hp.set n (arO (A.write h i y)), m.nx⟩
      | _ => Stuck 732
    | _ => Stuck 733
  ok := fun args m K hr => by
    split at hr <;> try exact hr.elim
    rename_i n _ h _ _ i _ _ y _
    split at hr <;> try exact hr.elim
    rename_i A hA
    refine gives_ext hA hr.2.2 fun ν w R H => ?_
    obtain ⟨⟨a, rfl, ha⟩, ⟨b, rfl⟩, hc⟩ := has_cases hr.1
    have hy := hr.2.1
    obtain ⟨z, rfl⟩ : ∃ z : Nat, y = z := ⟨y.toNat, by omega⟩
    have hzt : z < TW := by unfold TW; omega
    rcases hc with ⟨hz, h9, hx⟩ | ⟨hz, bl, hf, hx⟩
    · have := write_fixed (ν n) b _ z A w H (by simpa using h9) rfl hzt
      have e : a = 0 := by simpa using hz
      subst e
      exact this
    · exact write_block (ν n) a b _ z A bl w H ha (by simpa using hz) (by simpa using hf) (by simpa using hx) hzt
def addX : Smry Try.prog XE where
  g := 17
  run := fun args m K => match args with
    | [.c (.ptr n 0), .agg [.int _ .u64 h _, .int _ .i64 i _], .c (.int _ .u64 y _)] => match m.hp.get n with
      | some (.ext (.ar A)) => A.Has h i ∧ (0 ≤ y ∧ y < 18446744073709551616) ∧ K (.tup [nat64 (A.rd h i), okE]) ⟨m.hp.set n (arO (A.add h i y)), m.nx⟩
      | _ => Stuck 734
    | _ => Stuck 735
  ok := fun args m K hr => by
    split at hr <;> try exact hr.elim
    rename_i n _ h _ _ i _ _ y _
    split at hr <;> try exact hr.elim
    rename_i A hA
    refine gives_ext hA hr.2.2 fun ν w R H => ?_
    obtain ⟨⟨a, rfl, ha⟩, ⟨b, rfl⟩, hc⟩ := has_cases hr.1
    have hy := hr.2.1
    obtain ⟨z, rfl⟩ : ∃ z : Nat, y = z := ⟨y.toNat, by omega⟩
    rcases hc with ⟨hz, h9, hx⟩ | ⟨hz, bl, hf, hx⟩
    · have := add_fixed (ν n) b _ z A w H (by simpa using h9) (by simpa using hx)
      have e : a = 0 := by simpa using hz
      subst e
      exact this
    · exact add_block (ν n) a b _ z A bl w H ha (by simpa using hz) (by simpa using hf) (by simpa using hx)
def swapX : Smry Try.prog XE where
  g := 16
  run := fun args m K => match args with
    | [.c (.ptr n 0), .agg [.int _ .u64 h _, .int _ .i64 i _], .c (.int _ .u64 o _), .c (.int _ .u64 y _)] => match m.hp.get n with
      | some (.ext (.ar A)) => A.Has h i ∧ (0 ≤ y ∧ y < 18446744073709551616) ∧ 0 ≤ o ∧ K (.tup [(false, [.boo false (decide ((A.rd h i : Int) = o))]), okE]) ⟨m.hp.set n (arO (A.swap h i o y)), m.nx⟩
      | _ => Stuck 736
    | _ => Stuck 737
  ok := fun args m K hr => by
    split at hr <;> try exact hr.elim
    rename_i n _ h _ _ i _ _ o _ _ y _
    split at hr <;> try exact hr.elim
    rename_i A hA
    refine gives_ext hA hr.2.2.2 fun ν w R H => ?_
    obtain ⟨⟨a, rfl, ha⟩, ⟨b, rfl⟩, hc⟩ := has_cases hr.1
    have hy := hr.2.1
    have ho := hr.2.2.1
    obtain ⟨z, rfl⟩ : ∃ z : Nat, y = z := ⟨y.toNat, by omega⟩
    obtain ⟨o, rfl⟩ : ∃ z : Nat, o = z := ⟨o.toNat, by omega⟩
    have hzt : z < TW := by unfold TW; omega
    unfold Ar.swap
    by_cases he : (A.rd (a : Int) (b : Int) : Int) = (o : Int)
    · have he' : A.rd (a : Int) (b : Int) = o := by omega
      rw [if_pos he]
      simp only [he, decide_true]
      rw [he'] at hc
      rcases hc with ⟨hz, h9, hx⟩ | ⟨hz, bl, hf, hx⟩
      · have := swapY_fixed (ν n) b _ z A w H (by simpa using h9) (by simpa using hx) hzt
        have e : a = 0 := by simpa using hz
        subst e
        exact this
      · exact swapY_block (ν n) a b _ z A bl w H ha (by simpa using hz) (by simpa using hf) (by simpa using hx) hzt
    · have he' : A.rd (a : Int) (b : Int) ≠ o := by omega
      rw [if_neg he]
      simp only [he, decide_false]
      rcases hc with ⟨hz, h9, hx⟩ | ⟨hz, bl, hf, hx⟩
      · have := swapN_fixed (ν n) b _ o z A w H (by simpa using h9) (by simpa using hx) he'
        have e : a = 0 := by simpa using hz
        subst e
        exact this
      · exact swapN_block (ν n) a b _ o z A bl w H ha (by simpa using hz) (by simpa using hf) (by simpa using hx) he'
def newX : Smry Try.prog XE where
  g := 13
  run := fun args m K => match args with
    | [.c (.int _ .i64 c _)] => (0 ≤ c ∧ c ≤ 60000) ∧ bif newOk m (arO (Ar.new c.toNat)) then K (.tup [(false, [.ptr m.nx 0]), okE]) (withNew m (arO (Ar.new c.toNat))) else Stuck 738
    | _ => Stuck 739
  ok := fun args m K hr => by
    split at hr <;> try exact hr.elim
    rename_i c bc
    obtain ⟨⟨h0, h1⟩, hk⟩ := hr
    cases hn : newOk m (arO (Ar.new c.toNat)) <;> rw [hn] at hk
    · exact hk.elim
    simp only [cond_true] at hk
    intro ν w R w0 H HK
    obtain ⟨z, rfl⟩ : ∃ z : Nat, c = z := ⟨c.toNat, by omega⟩
    refine (arenaNew z w H (by omega)).mono fun e w' ⟨p, he, hs, hk'⟩ => ⟨_, _, upd ν m.nx p, hk, Agree.upd (Nat.le_refl _) _, Nat.le_succ _, ?_, withNew_sat hn hs, HK.trans hk'⟩
    rw [he]
    simp [SV.den, SC.den, SC.denL, partDen, okE, upd_same]
theorem head_rowAt {w : World} {T : TypeId} {n cap g : Nat} {xs : List Value} {Q : Assn} (hx : xs.length = n) (H : Sat w (rowHead g T 1 n cap xs * Q)) : Sat w (rowAt T (.slice (some ⟨g, 0, none⟩) n cap) xs * Q) := by
  have := head_rowK H (Nat.le_refl n)
  rw [Nat.mul_one, List.take_of_length_le (by omega)] at this
  rw [rowAt_rowK, hx]
  exact this
theorem rowAt_head {w : World} {T : TypeId} {n cap g : Nat} {xs : List Value} {Q : Assn} (hx : xs.length = n) (H : Sat w (rowAt T (.slice (some ⟨g, 0, none⟩) n cap) xs * Q)) : Sat w (rowHead g T 1 n cap xs * Q) := by
  rw [rowAt_rowK, hx] at H
  obtain ⟨g', cap', he, _, h2⟩ := rowK_head H (by intro e; cases e)
  simp only [Value.slice.injEq, Option.some.injEq, Addr.mk.injEq] at he
  obtain ⟨⟨rfl, _⟩, _, rfl⟩ := he
  exact h2
def natsOf (n : Nat) (f : Nat → Int) : List Nat := (List.range n).map fun i => (f i).toNat
theorem natsOf_u64s {n : Nat} {f : Nat → Int} (h : ∀ i, i < n → 0 ≤ f i) : u64s (natsOf n f) = intsOf .u64 n f := by
  simp only [u64s, natsOf, intsOf, List.map_map]
  refine List.map_congr_left fun i hi => ?_
  simp only [Function.comp, Value.int.injEq, true_and]
  have := h i (List.mem_range.1 hi)
  omega
def natsC : List SC → List Nat
  | [] => []
  | .int _ _ x _ :: l => x.toNat :: natsC l
  | _ :: l => 0 :: natsC l
def wordsC : List SC → Prop
  | [] => True
  | .int true .u64 x _ :: l => bif leI 0 x && leI x 18446744073709551615 then wordsC l else Stuck 745
  | .int false .u64 x _ :: l => (0 ≤ x ∧ x ≤ 18446744073709551615) ∧ wordsC l
  | _ => Stuck 744
theorem wordsC_den (ν : Nat → Nat) : ∀ {l : List SC}, wordsC l → SC.denL ν l = u64s (natsC l) ∧ (natsC l).length = l.length ∧ ∀ x ∈ natsC l, x < TW
  | [], _ => ⟨rfl, rfl, by intro x hx; cases hx⟩
  | x :: l, h => by
    have key : ∀ (k : Bool) (n : Int) (bd : Bd n), x = .int k .u64 n bd → (0 ≤ n ∧ n ≤ 18446744073709551615) → wordsC l → SC.denL ν (x :: l) = u64s (natsC (x :: l)) ∧ (natsC (x :: l)).length = (x :: l).length ∧ ∀ y ∈ natsC (x :: l), y < TW := by
      rintro k n bd rfl ⟨h0, h1⟩ hl
      obtain ⟨e1, e2, e3⟩ := wordsC_den ν hl
      refine ⟨?_, by simp [natsC, e2], ?_⟩
      · simp only [SC.denL, SC.den, natsC, u64s, List.map_cons] at e1 ⊢
        rw [e1]
        have : ((n.toNat : Nat) : Int) = n := by omega
        rw [this]
      · intro y hy
        simp only [natsC, List.mem_cons] at hy
        rcases hy with rfl | hy
        · unfold TW; omega
        · exact e3 y hy
    unfold wordsC at h
    split at h
    · rename_i he; cases he
    · rename_i n bd l' he
      simp only [List.cons.injEq] at he
      obtain ⟨rfl, rfl⟩ := he
      cases hb : leI 0 n && leI n 18446744073709551615 <;> rw [hb] at h
      · exact h.elim
      · simp only [Bool.and_eq_true] at hb
        have h1 := leI_le hb.1
        have h2 := leI_le hb.2
        exact key _ _ _ rfl ⟨h1, h2⟩ h
    · rename_i n bd l' he
      simp only [List.cons.injEq] at he
      obtain ⟨rfl, rfl⟩ := he
      exact key _ _ _ rfl h.1 h.2
    · exact h.elim
end Go.Proofs.Ytnkikhhiaecebaa

/- What the executor knows of counts, of an arena's faults and tally. -/
namespace Go.Proofs.Ytnkikhhiaecebaa
open Go Go.RowKit

theorem ar_faults (p : Nat) (A : Ar) (w : World) {R : Assn} (H : Sat w (arAt p A * R)) :
    Calls Try.prog 24 #[.pointer (some ⟨p, 0, none⟩)] w fun e w' => e = .returned (.int .i64 (wr64 A.faults)) ∧ w = w' := by
  obtain ⟨ps, pb, _, H1⟩ := arAt_open H
  have hc := H1.cell 3
  simp [arCells] at hc
  clear H H1
  go_enter Try.func24, Try.ntmps24
  go_wp2
  go_ret
  exact ⟨rfl, rfl⟩
theorem gives_told {g : FuncId} {args : List SV} {m : MX} {K : SV → MX → Prop} {n : Nat} {A : Ar} {v : SV} (hA : m.hp.get n = some (arO A)) (hk : K v m)
    (hc : ∀ ν w R, Sat w (arAt (ν n) A * R) → Calls Try.prog g (args.map (SV.den ν)).toArray w fun e w' => e = .returned (v.den ν) ∧ w = w') : Gives Try.prog g args m K := fun ν w R w0 H HK => by
  have H' := H
  rw [SH.den_get ν hA, Assn.mul_assoc] at H'
  refine (hc ν w _ H').mono fun e w' ⟨he, hw⟩ => ?_
  subst hw
  exact ⟨_, m, ν, hk, Agree.refl _ _, Nat.le_refl _, he, H, HK⟩
def faultsX : Smry Try.prog XE where
  g := 24
  run := fun args m K => match args with
    | [.c (.ptr n 0)] => match m.hp.get n with
      | some (.ext (.ar A)) => K (.c (.int false .i64 (wr64 A.faults))) m
      | _ => Stuck 760
    | _ => Stuck 761
  ok := fun args m K hr => by
    split at hr <;> try exact hr.elim
    split at hr <;> try exact hr.elim
    rename_i A hA
    exact gives_told hA hr fun ν w R H => ar_faults _ A w H
end Go.Proofs.Ytnkikhhiaecebaa

/- Summaries for closed runs: what an arena's call needs is reckoned, not left to be shown. -/
namespace Go.Proofs.Ytnkikhhiaecebaa
open Go Go.RowKit
end Go.Proofs.Ytnkikhhiaecebaa