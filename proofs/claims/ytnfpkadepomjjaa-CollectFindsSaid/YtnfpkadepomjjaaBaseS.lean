/- What the executor knows of the arena: abstract predicates for it and for a count, contracts of its calls (all at addresses that there are). -/
import Derived.Test.YtnfpkadepomjjaaBaseC
import Derived.Test.YtnfpkadepomjjaaArenaLayB
import Derived.Test.YtnfpkadepomjjaaArenaRead
import Derived.Test.YtnfpkadepomjjaaArenaWrite
import Derived.Test.YtnfpkadepomjjaaArenaSwap
import Derived.Test.YtnfpkadepomjjaaArenaAdd
import Derived.Test.YtnfpkadepomjjaaCountB
set_option linter.all false
namespace Go.Proofs.Ytnfpkadepomjjaa
open Go Go.RowKit

/-- What may stand for a block: an arena; a count, and its arena's name. -/
inductive XO where
  | ar (A : Ar)
  | cnt (p : Nat) (st : Cnt)
def XO.den (ν : Nat → Nat) (b : Nat) : XO → Assn
  | .ar A => arAt b A
  | .cnt p st => cntAt b (ν p) st
def XO.names : XO → List Nat
  | .ar _ => []
  | .cnt p _ => [p]
def XO.ren (τ : Nat → Nat) : XO → XO
  | .ar A => .ar A
  | .cnt p st => .cnt (τ p) st
def XO.eqv : XO → XO → Prop
  | .ar A, .ar B => A = B
  | .cnt p s, .cnt q t => bif Nat.beq p q then s = t else Stuck 519
  | _, _ => Stuck 519
def XE : EXT where
  X := XO
  den := XO.den
  names := XO.names
  ren := XO.ren
  law := fun ν μ b x h => by
    cases x with
    | ar A => rfl
    | cnt p st => simp only [XO.den, h p (by simp [XO.names])]
  rlaw := fun τ ν b x => by cases x <;> rfl
  eqv := XO.eqv
  eqv_eq := fun x y h => by
    cases x <;> cases y <;> simp only [XO.eqv] at h <;> first | exact h.elim | (subst h; rfl) | skip
    rename_i p s q t
    cases hb : Nat.beq p q <;> rw [hb] at h
    · exact h.elim
    · have e := Nat.eq_of_beq_eq_true hb
      simp only [cond_true] at h
      subst e h
      rfl

abbrev MX := Mem XE
abbrev arO (A : Ar) : SO XE := .ext (XO.ar A)
abbrev cntO (p : Nat) (st : Cnt) : SO XE := .ext (XO.cnt p st)

/-- A word that is read. -/
def Ar.rd (A : Ar) (h i : Int) : Nat := (A.word h.toNat i.toNat).getD 0
/-- There is such a word. -/
def Ar.Has (A : Ar) (h i : Int) : Prop := 0 ≤ h ∧ h < 18446744073709551616 ∧ 0 ≤ i ∧ (A.word h.toNat i.toNat).isSome = true
theorem has_cases {A : Ar} {h i : Int} (H : A.Has h i) : (∃ n : Nat, h = n ∧ n < TW) ∧ (∃ k : Nat, i = k) ∧
    ((h.toNat = 0 ∧ i.toNat < 9 ∧ A.fixed i.toNat = A.rd h i) ∨ (h.toNat ≠ 0 ∧ ∃ b, A.find h.toNat = some b ∧ b.ws[i.toNat]? = some (A.rd h i))) := by
  obtain ⟨h0, h1, h2, h3⟩ := H
  refine ⟨⟨h.toNat, by omega, by unfold TW; omega⟩, ⟨i.toNat, by omega⟩, ?_⟩
  unfold Ar.rd
  unfold Ar.word at *
  split at h3
  · rename_i e
    rw [if_pos e]
    split at h3
    · rename_i e9
      exact .inl ⟨e, e9, by simp [e9]⟩
    · cases h3
  · rename_i e
    rw [if_neg e]
    cases hf : A.find h.toNat with
    | none => rw [hf] at h3; cases h3
    | some b =>
      rw [hf] at h3
      simp only [Option.bind_some] at h3 ⊢
      cases hb : b.ws[i.toNat]? with
      | none => rw [hb] at h3; cases h3
      | some x => exact .inr ⟨e, b, rfl, by simp [hb]⟩
/-- A contract of a call that turns an abstract block alone. -/
theorem gives_ext {g : FuncId} {args : List SV} {m : MX} {K : SV → MX → Prop} {n : Nat} {x y : XO} (hg : m.hp.get n = some (.ext x)) {v : SV} (hk : K v ⟨m.hp.set n (.ext y), m.nx⟩)
    (hc : ∀ ν w R, Sat w (XO.den ν (ν n) x * R) → Calls Try.prog g (args.map (SV.den ν)).toArray w fun e w' => e = .returned (v.den ν) ∧ Sat w' (XO.den ν (ν n) y * R) ∧ Kept w w') : Gives Try.prog g args m K := fun ν w R w0 H HK => by
  rw [SH.den_get ν hg, Assn.mul_assoc] at H
  refine (hc ν w _ H).mono fun e w' ⟨he, hs, hk'⟩ => ⟨v, _, ν, hk, Agree.refl _ _, Nat.le_refl _, he, ?_, HK.trans hk'⟩
  rw [SH.den_set ν hg, Assn.mul_assoc]
  exact hs
def okE : Bool × List SC := (false, [.int true .i64 0])
def nat64 (n : Nat) : Bool × List SC := (false, [.int false .u64 (n : Int)])

def Ar.read (A : Ar) : Ar := A.tick fun t => { t with reads := t.reads + 1 }
def Ar.write (A : Ar) (h i y : Int) : Ar := (A.set h.toNat i.toNat y.toNat).tick fun t => { t with writes := t.writes + 1 }
def Ar.add (A : Ar) (h i y : Int) : Ar := (A.set h.toNat i.toNat (addW (A.rd h i) y.toNat)).tick fun t => { t with adds := t.adds + 1 }
def Ar.swap (A : Ar) (h i o y : Int) : Ar := if (A.rd h i : Int) = o then (A.set h.toNat i.toNat y.toNat).tick (fun t => { t with swaps := t.swaps + 1 }) else A.tick fun t => { t with swaps := t.swaps + 1 }

def readX : Smry Try.prog XE where
  g := 72
  run := fun args m K => match args with
    | [.c (.ptr n 0), .agg [.int _ .u64 h _, .int _ .i64 i _]] => match m.hp.get n with
      | some (.ext (.ar A)) => A.Has h i ∧ K (.tup [nat64 (A.rd h i), okE]) ⟨m.hp.set n (arO A.read), m.nx⟩
      | _ => Stuck 730
    | _ => Stuck 731
  ok := fun args m K hr => by
    split at hr <;> try exact hr.elim
    rename_i n _ h _ _ i _
    split at hr <;> try exact hr.elim
    rename_i A hA
    refine gives_ext hA hr.2 fun ν w R H => ?_
    obtain ⟨⟨a, rfl, ha⟩, ⟨b, rfl⟩, hc⟩ := has_cases hr.1
    rcases hc with ⟨hz, h9, hx⟩ | ⟨hz, bl, hf, hx⟩
    · have := read_fixed (ν n) b _ A w H (by simpa using h9) (by simpa using hx)
      have e : a = 0 := by simpa using hz
      subst e
      exact this
    · exact read_block (ν n) a b _ A bl w H ha (by simpa using hz) (by simpa using hf) (by simpa using hx)
def writeX : Smry Try.prog XE where
  g := 45
  run := fun args m K => match args with
    | [.c (.ptr n 0), .agg [.int _ .u64 h _, .int _ .i64 i _], .c (.int _ .u64 y _)] => match m.hp.get n with
      | some (.ext (.ar A)) => A.Has h i ∧ (0 ≤ y ∧ y < 18446744073709551616) ∧ K (.c (.int true .i64 0)) ⟨m.hp.set n (arO (A.write h i y)), m.nx⟩
      | _ => Stuck 732
    | _ => Stuck 733
  ok := fun args m K hr => by
    split at hr <;> try exact hr.elim
    rename_i n _ h _ _ i _ _ y _
    split at hr <;> try exact hr.elim
    rename_i A hA
    refine gives_ext hA hr.2.2 fun ν w R H => ?_
    obtain ⟨⟨a, rfl, ha⟩, ⟨b, rfl⟩, hc⟩ := has_cases hr.1
    have hy := hr.2.1
    obtain ⟨z, rfl⟩ : ∃ z : Nat, y = z := ⟨y.toNat, by omega⟩
    have hzt : z < TW := by unfold TW; omega
    rcases hc with ⟨hz, h9, hx⟩ | ⟨hz, bl, hf, hx⟩
    · have := write_fixed (ν n) b _ z A w H (by simpa using h9) rfl hzt
      have e : a = 0 := by simpa using hz
      subst e
      exact this
    · exact write_block (ν n) a b _ z A bl w H ha (by simpa using hz) (by simpa using hf) (by simpa using hx) hzt
def addX : Smry Try.prog XE where
  g := 74
  run := fun args m K => match args with
    | [.c (.ptr n 0), .agg [.int _ .u64 h _, .int _ .i64 i _], .c (.int _ .u64 y _)] => match m.hp.get n with
      | some (.ext (.ar A)) => A.Has h i ∧ (0 ≤ y ∧ y < 18446744073709551616) ∧ K (.tup [nat64 (A.rd h i), okE]) ⟨m.hp.set n (arO (A.add h i y)), m.nx⟩
      | _ => Stuck 734
    | _ => Stuck 735
  ok := fun args m K hr => by
    split at hr <;> try exact hr.elim
    rename_i n _ h _ _ i _ _ y _
    split at hr <;> try exact hr.elim
    rename_i A hA
    refine gives_ext hA hr.2.2 fun ν w R H => ?_
    obtain ⟨⟨a, rfl, ha⟩, ⟨b, rfl⟩, hc⟩ := has_cases hr.1
    have hy := hr.2.1
    obtain ⟨z, rfl⟩ : ∃ z : Nat, y = z := ⟨y.toNat, by omega⟩
    rcases hc with ⟨hz, h9, hx⟩ | ⟨hz, bl, hf, hx⟩
    · have := add_fixed (ν n) b _ z A w H (by simpa using h9) (by simpa using hx)
      have e : a = 0 := by simpa using hz
      subst e
      exact this
    · exact add_block (ν n) a b _ z A bl w H ha (by simpa using hz) (by simpa using hf) (by simpa using hx)
def swapX : Smry Try.prog XE where
  g := 73
  run := fun args m K => match args with
    | [.c (.ptr n 0), .agg [.int _ .u64 h _, .int _ .i64 i _], .c (.int _ .u64 o _), .c (.int _ .u64 y _)] => match m.hp.get n with
      | some (.ext (.ar A)) => A.Has h i ∧ (0 ≤ y ∧ y < 18446744073709551616) ∧ 0 ≤ o ∧ K (.tup [(false, [.boo false (decide ((A.rd h i : Int) = o))]), okE]) ⟨m.hp.set n (arO (A.swap h i o y)), m.nx⟩
      | _ => Stuck 736
    | _ => Stuck 737
  ok := fun args m K hr => by
    split at hr <;> try exact hr.elim
    rename_i n _ h _ _ i _ _ o _ _ y _
    split at hr <;> try exact hr.elim
    rename_i A hA
    refine gives_ext hA hr.2.2.2 fun ν w R H => ?_
    obtain ⟨⟨a, rfl, ha⟩, ⟨b, rfl⟩, hc⟩ := has_cases hr.1
    have hy := hr.2.1
    have ho := hr.2.2.1
    obtain ⟨z, rfl⟩ : ∃ z : Nat, y = z := ⟨y.toNat, by omega⟩
    obtain ⟨o, rfl⟩ : ∃ z : Nat, o = z := ⟨o.toNat, by omega⟩
    have hzt : z < TW := by unfold TW; omega
    unfold Ar.swap
    by_cases he : (A.rd (a : Int) (b : Int) : Int) = (o : Int)
    · have he' : A.rd (a : Int) (b : Int) = o := by omega
      rw [if_pos he]
      simp only [he, decide_true]
      rw [he'] at hc
      rcases hc with ⟨hz, h9, hx⟩ | ⟨hz, bl, hf, hx⟩
      · have := swapY_fixed (ν n) b _ z A w H (by simpa using h9) (by simpa using hx) hzt
        have e : a = 0 := by simpa using hz
        subst e
        exact this
      · exact swapY_block (ν n) a b _ z A bl w H ha (by simpa using hz) (by simpa using hf) (by simpa using hx) hzt
    · have he' : A.rd (a : Int) (b : Int) ≠ o := by omega
      rw [if_neg he]
      simp only [he, decide_false]
      rcases hc with ⟨hz, h9, hx⟩ | ⟨hz, bl, hf, hx⟩
      · have := swapN_fixed (ν n) b _ o z A w H (by simpa using h9) (by simpa using hx) he'
        have e : a = 0 := by simpa using hz
        subst e
        exact this
      · exact swapN_block (ν n) a b _ o z A bl w H ha (by simpa using hz) (by simpa using hf) (by simpa using hx) he'
def newX : Smry Try.prog XE where
  g := 41
  run := fun args m K => match args with
    | [.c (.int _ .i64 c _)] => (0 ≤ c ∧ c ≤ 60000) ∧ bif newOk m (arO (Ar.new c.toNat)) then K (.tup [(false, [.ptr m.nx 0]), okE]) (withNew m (arO (Ar.new c.toNat))) else Stuck 738
    | _ => Stuck 739
  ok := fun args m K hr => by
    split at hr <;> try exact hr.elim
    rename_i c bc
    obtain ⟨⟨h0, h1⟩, hk⟩ := hr
    cases hn : newOk m (arO (Ar.new c.toNat)) <;> rw [hn] at hk
    · exact hk.elim
    simp only [cond_true] at hk
    intro ν w R w0 H HK
    obtain ⟨z, rfl⟩ : ∃ z : Nat, c = z := ⟨c.toNat, by omega⟩
    refine (arenaNew z w H (by omega)).mono fun e w' ⟨p, he, hs, hk'⟩ => ⟨_, _, upd ν m.nx p, hk, Agree.upd (Nat.le_refl _) _, Nat.le_succ _, ?_, withNew_sat hn hs, HK.trans hk'⟩
    rw [he]
    simp [SV.den, SC.den, SC.denL, partDen, okE, upd_same]
theorem head_rowAt {w : World} {T : TypeId} {n cap g : Nat} {xs : List Value} {Q : Assn} (hx : xs.length = n) (H : Sat w (rowHead g T 1 n cap xs * Q)) : Sat w (rowAt T (.slice (some ⟨g, 0, none⟩) n cap) xs * Q) := by
  have := head_rowK H (Nat.le_refl n)
  rw [Nat.mul_one, List.take_of_length_le (by omega)] at this
  rw [rowAt_rowK, hx]
  exact this
theorem rowAt_head {w : World} {T : TypeId} {n cap g : Nat} {xs : List Value} {Q : Assn} (hx : xs.length = n) (H : Sat w (rowAt T (.slice (some ⟨g, 0, none⟩) n cap) xs * Q)) : Sat w (rowHead g T 1 n cap xs * Q) := by
  rw [rowAt_rowK, hx] at H
  obtain ⟨g', cap', he, _, h2⟩ := rowK_head H (by intro e; cases e)
  simp only [Value.slice.injEq, Option.some.injEq, Addr.mk.injEq] at he
  obtain ⟨⟨rfl, _⟩, _, rfl⟩ := he
  exact h2
/-- The words of a slice that is handed in. -/
def natsOf (n : Nat) (f : Nat → Int) : List Nat := (List.range n).map fun i => (f i).toNat
theorem natsOf_u64s {n : Nat} {f : Nat → Int} (h : ∀ i, i < n → 0 ≤ f i) : u64s (natsOf n f) = intsOf .u64 n f := by
  simp only [u64s, natsOf, intsOf, List.map_map]
  refine List.map_congr_left fun i hi => ?_
  simp only [Function.comp, Value.int.injEq, true_and]
  have := h i (List.mem_range.1 hi)
  omega
theorem own_head {b : Nat} {T : TypeId} {xs : List Value} {n : Nat} (hx : xs.length = n) (hn : n ≤ maxLen) : own b (.cells xs.toArray T (0, 0)) = rowHead b T 1 n n xs := by
  refine Assn.ext fun h => ?_
  unfold rowHead
  constructor
  · intro H
    refine ⟨xs.toArray, Part.none, h, Part.apart_none _, ?_, ⟨⟨by omega, Nat.le_refl _, hn, by simp [hx], by simp [← hx]⟩, rfl⟩, H⟩
    funext i
    simp [Part.join, Part.none]
  · rintro ⟨cur, h1, h2, _, rfl, ⟨⟨h3, _, _, h4, h5⟩, rfl⟩, H⟩
    have e : cur = xs.toArray := by
      apply Array.ext'
      rw [List.take_of_length_le (by simp; omega)] at h5
      simpa using h5
    subst e
    have : Part.join Part.none h2 = h2 := by funext i; simp [Part.join, Part.none]
    rw [this]
    exact H
/-- The words of cells that are known one by one. -/
def natsC : List SC → List Nat
  | [] => []
  | .int _ _ x _ :: l => x.toNat :: natsC l
  | _ :: l => 0 :: natsC l
def wordsC : List SC → Prop
  | [] => True
  | .int true .u64 x _ :: l => bif leI 0 x && leI x 18446744073709551615 then wordsC l else Stuck 745
  | .int false .u64 x _ :: l => (0 ≤ x ∧ x ≤ 18446744073709551615) ∧ wordsC l
  | _ => Stuck 744
theorem wordsC_den (ν : Nat → Nat) : ∀ {l : List SC}, wordsC l → SC.denL ν l = u64s (natsC l) ∧ (natsC l).length = l.length ∧ ∀ x ∈ natsC l, x < TW
  | [], _ => ⟨rfl, rfl, by intro x hx; cases hx⟩
  | x :: l, h => by
    have key : ∀ (k : Bool) (n : Int) (bd : Bd n), x = .int k .u64 n bd → (0 ≤ n ∧ n ≤ 18446744073709551615) → wordsC l → SC.denL ν (x :: l) = u64s (natsC (x :: l)) ∧ (natsC (x :: l)).length = (x :: l).length ∧ ∀ y ∈ natsC (x :: l), y < TW := by
      rintro k n bd rfl ⟨h0, h1⟩ hl
      obtain ⟨e1, e2, e3⟩ := wordsC_den ν hl
      refine ⟨?_, by simp [natsC, e2], ?_⟩
      · simp only [SC.denL, SC.den, natsC, u64s, List.map_cons] at e1 ⊢
        rw [e1]
        have : ((n.toNat : Nat) : Int) = n := by omega
        rw [this]
      · intro y hy
        simp only [natsC, List.mem_cons] at hy
        rcases hy with rfl | hy
        · unfold TW; omega
        · exact e3 y hy
    unfold wordsC at h
    split at h
    · rename_i he; cases he
    · rename_i n bd l' he
      simp only [List.cons.injEq] at he
      obtain ⟨rfl, rfl⟩ := he
      cases hb : leI 0 n && leI n 18446744073709551615 <;> rw [hb] at h
      · exact h.elim
      · simp only [Bool.and_eq_true] at hb
        have h1 := leI_le hb.1
        have h2 := leI_le hb.2
        exact key _ _ _ rfl ⟨h1, h2⟩ h
    · rename_i n bd l' he
      simp only [List.cons.injEq] at he
      obtain ⟨rfl, rfl⟩ := he
      exact key _ _ _ rfl h.1 h.2
    · exact h.elim
theorem gives_lay {n s cap k : Nat} {lo : Bool} {m : MX} {K : SV → MX → Prop} {A : Ar} {o : SO XE} {ws : List Nat} {l ll : Bool} (hA : m.hp.get n = some (arO A)) (hS : (m.hp.del n).get s = some o) (ho : ∀ ν b, o.den ν b = rowHead b 25 1 k cap (u64s ws)) (hlen : ws.length = k)
    (h1 : 1 ≤ k) (h2 : k ≤ 2048) (hc : A.used + k ≤ A.cap) (hb : A.s.back = []) (hbi : A.births < 268435455) (hw : ∀ x ∈ ws, x < TW)
    (hk : ∀ v, K (.tup [(false, [.int l .u64 (layH A : Nat)]), okE]) ⟨m.hp.set n (arO (A.lay ws v)), m.nx⟩) :
    Gives Try.prog 71 [.c (.ptr n 0), .c (.sli s 1 lo 0 ll k cap)] m K := fun ν w R w0 H HK => by
  have hul : (u64s ws).length = k := by simp [u64s, hlen]
  rw [SH.den_get ν hA, SH.den_get ν hS, Assn.mul_assoc, Assn.mul_assoc, ho] at H
  have H1 : Sat w (rowHead (ν s) 25 1 k cap (u64s ws) * (arAt (ν n) A * (SH.den ν ((m.hp.del n).del s) * R))) := H.cast (by simp only [SO.den, XE, XO.den]; ac_rfl)
  have H2 := head_rowAt hul H1
  have H3 : Sat w (arAt (ν n) A * (rowAt 25 (.slice (some ⟨ν s, 0, none⟩) k cap) (u64s ws) * (SH.den ν ((m.hp.del n).del s) * R))) := H2.cast (by ac_rfl)
  have hcall := lay_new (ν n) A ws k hlen _ w H3 (by omega) (by omega) (by omega) hb hbi hw
  have hargs : (List.map (SV.den ν) [.c (.ptr n 0), .c (.sli s 1 lo 0 ll k cap)]).toArray = #[.pointer (some ⟨ν n, 0, none⟩), .slice (some ⟨ν s, 0, none⟩) k cap] := by simp [SV.den, SC.den]
  rw [hargs]
  refine hcall.mono fun e w' ⟨he, ⟨v', hs⟩, hk'⟩ => ?_
  refine ⟨_, _, ν, hk v', Agree.refl _ _, Nat.le_refl _, he, ?_, HK.trans hk'⟩
  rw [SH.den_set ν hA, SH.den_get ν hS, Assn.mul_assoc, Assn.mul_assoc, ho]
  have h4 : Sat w' (rowAt 25 (.slice (some ⟨ν s, 0, none⟩) k cap) (u64s ws) * (arAt (ν n) (A.lay ws v') * (SH.den ν ((m.hp.del n).del s) * R))) := hs.cast (by ac_rfl)
  have h5 := rowAt_head hul h4
  exact h5.cast (by simp only [SO.den, XE, XO.den]; ac_rfl)
/-- Lay, of words that are told by a function, or known one by one; 'lit': the handle is reckoned to a numeral. -/
def layX (lit : Bool) : Smry Try.prog XE where
  g := 71
  run := fun args m K => match args with
    | [.c (.ptr n 0), .c (.sli s 1 _ 0 _ k cap)] => match m.hp.get n with
      | some (.ext (.ar A)) => match (m.hp.del n).get s with
        | some (.ints T .u64 k' cap' f) => if T = 25 then k' = k ∧ cap' = cap ∧ (1 ≤ k ∧ k ≤ 2048) ∧ A.used + k ≤ A.cap ∧ A.s.back = [] ∧ A.births < 268435455 ∧ (∀ i, i < k → 0 ≤ f i ∧ f i < 18446744073709551616) ∧
            ∀ v, K (.tup [(false, [.int lit .u64 (layH A : Nat)]), okE]) ⟨m.hp.set n (arO (A.lay (natsOf k f) v)), m.nx⟩ else Stuck 740
        | some (.cells l T) => if T = 25 then l.length = k ∧ l.length = cap ∧ (1 ≤ k ∧ k ≤ 2048) ∧ A.used + k ≤ A.cap ∧ A.s.back = [] ∧ A.births < 268435455 ∧ wordsC l ∧
            ∀ v, K (.tup [(false, [.int lit .u64 (layH A : Nat)]), okE]) ⟨m.hp.set n (arO (A.lay (natsC l) v)), m.nx⟩ else Stuck 740
        | some (.row T 1 k' cap' l) => if T = 25 then k' = k ∧ l.length = k ∧ cap' = cap ∧ (1 ≤ k ∧ k ≤ 2048) ∧ A.used + k ≤ A.cap ∧ A.s.back = [] ∧ A.births < 268435455 ∧ wordsC l ∧
            ∀ v, K (.tup [(false, [.int lit .u64 (layH A : Nat)]), okE]) ⟨m.hp.set n (arO (A.lay (natsC l) v)), m.nx⟩ else Stuck 740
        | _ => Stuck 741
      | _ => Stuck 742
    | _ => Stuck 743
  ok := fun args m K hr => by
    split at hr <;> try exact hr.elim
    rename_i n s lo ll k cap
    split at hr <;> try exact hr.elim
    rename_i A hA
    split at hr <;> try exact hr.elim
    · rename_i T k' cap' f hS
      split at hr <;> try exact hr.elim
      rename_i hT
      subst hT
      obtain ⟨rfl, rfl, ⟨h1, h2⟩, hc, hb, hbi, hw, hk⟩ := hr
      refine gives_lay hA hS (ws := natsOf k' f) (fun ν b => ?_) (by simp [natsOf]) h1 h2 hc hb hbi (fun x hx => ?_) hk
      · simp only [SO.den]; rw [natsOf_u64s fun i hi => (hw i hi).1]
      · simp only [natsOf, List.mem_map, List.mem_range] at hx
        obtain ⟨i, hi, rfl⟩ := hx
        have := hw i hi
        unfold TW
        omega
    · rename_i l T hS
      split at hr <;> try exact hr.elim
      rename_i hT
      subst hT
      obtain ⟨rfl, rfl, ⟨h1, h2⟩, hc, hb, hbi, hw, hk⟩ := hr
      refine gives_lay hA hS (ws := natsC l) (fun ν b => ?_) (wordsC_den id hw).2.1 h1 h2 hc hb hbi (wordsC_den id hw).2.2 hk
      simp only [SO.den]
      rw [(wordsC_den ν hw).1]
      exact own_head (by simp [u64s, (wordsC_den id hw).2.1]) (by unfold maxLen; omega)
    · rename_i T k' cap' l hS
      split at hr <;> try exact hr.elim
      rename_i hT
      subst hT
      obtain ⟨rfl, hl, rfl, ⟨h1, h2⟩, hc, hb, hbi, hw, hk⟩ := hr
      refine gives_lay hA hS (ws := natsC l) (fun ν b => ?_) ((wordsC_den id hw).2.1.trans hl) h1 h2 hc hb hbi (wordsC_den id hw).2.2 hk
      simp only [SO.den]
      rw [(wordsC_den ν hw).1]
end Go.Proofs.Ytnfpkadepomjjaa

/- What the executor knows of counts, of an arena's faults and tally. -/
namespace Go.Proofs.Ytnfpkadepomjjaa
open Go Go.RowKit

def cntAddr (st : Cnt) : Nat := 5 * 2 ^ segG st.s + (st.s + 1) / 2 ^ st.first
def stepC (st : Cnt) : Cnt := if st.first < st.last then { st with first := st.first + 1 } else st
def stepA (st : Cnt) (A : Ar) : Ar := if st.first < st.last then A.add (st.sg : Nat) (cntAddr st : Nat) (st.by' : Nat) else A
/-- A step of the count may be done. -/
def CntOk (st : Cnt) (A : Ar) : Prop := st.s ≤ 254 ∧ st.last ≤ segG st.s + 1 ∧ st.sg ≠ 0 ∧ (st.first < st.last → A.Has (st.sg : Nat) (cntAddr st : Nat))
/-- The memory with two blocks turned. -/
def put2 (m : MX) (c p : Nat) (x y : SO XE) : MX := ⟨(((m.hp.del c).del p).put p y).put c x, m.nx⟩
theorem gives_two {g : FuncId} {args : List SV} {m : MX} {K : SV → MX → Prop} {c p : Nat} {x x' y y' : XO} (hc : m.hp.get c = some (.ext x)) (hp : (m.hp.del c).get p = some (.ext y)) {v : SV} (hk : K v (put2 m c p (.ext x') (.ext y')))
    (hcall : ∀ ν w R, Sat w (XO.den ν (ν c) x * (XO.den ν (ν p) y * R)) → Calls Try.prog g (args.map (SV.den ν)).toArray w fun e w' => e = .returned (v.den ν) ∧ Sat w' (XO.den ν (ν c) x' * (XO.den ν (ν p) y' * R)) ∧ Kept w w') : Gives Try.prog g args m K := fun ν w R w0 H HK => by
  rw [SH.den_get ν hc, SH.den_get ν hp, Assn.mul_assoc, Assn.mul_assoc] at H
  refine (hcall ν w _ H).mono fun e w' ⟨he, hs, hk'⟩ => ⟨v, _, ν, hk, Agree.refl _ _, Nat.le_refl _, he, ?_, HK.trans hk'⟩
  unfold put2
  rw [SH.den_put, SH.den_put, Assn.mul_assoc, Assn.mul_assoc]
  exact hs
def stepX : Smry Try.prog XE where
  g := 23
  run := fun args m K => match args with
    | [.c (.ptr c 0)] => match m.hp.get c with
      | some (.ext (.cnt p st)) => match (m.hp.del c).get p with
        | some (.ext (.ar A)) => CntOk st A ∧ K (.tup []) (put2 m c p (cntO p (stepC st)) (arO (stepA st A)))
        | _ => Stuck 750
      | _ => Stuck 751
    | _ => Stuck 752
  ok := fun args m K hr => by
    split at hr <;> try exact hr.elim
    rename_i c
    split at hr <;> try exact hr.elim
    rename_i p st hc
    split at hr <;> try exact hr.elim
    rename_i A hA
    refine gives_two (x := .cnt p st) (y := .ar A) (x' := .cnt p (stepC st)) (y' := .ar (stepA st A)) hc hA hr.2 fun ν w R H => ?_
    obtain ⟨hs, hl, h0, hh⟩ := hr.1
    unfold stepC stepA
    by_cases hf : st.first < st.last
    · rw [if_pos hf, if_pos hf]
      obtain ⟨⟨a, ha, hat⟩, _, hcs⟩ := has_cases (hh hf)
      have ha' : a = st.sg := by omega
      subst ha'
      rcases hcs with ⟨hz, _⟩ | ⟨_, b, hfb, hx⟩
      · exact absurd (by simpa using hz) h0
      · exact count_step_add (ν c) (ν p) _ A b st w H hs hf hl hat h0 (by simpa using hfb) (by rw [Int.toNat_natCast] at hx; exact hx)
    · rw [if_neg hf, if_neg hf]
      refine (count_step_end (ν c) (ν p) st w H (by omega)).mono fun e w' ⟨he, hw⟩ => ?_
      subst hw
      exact ⟨he, H, Kept.refl _⟩
def doneX : Smry Try.prog XE where
  g := 18
  run := fun args m K => match args with
    | [.c (.ptr c 0)] => match m.hp.get c with
      | some (.ext (.cnt _ st)) => K (.c (.boo false (isDone st))) m
      | _ => Stuck 753
    | _ => Stuck 754
  ok := fun args m K hr => by
    split at hr <;> try exact hr.elim
    rename_i c
    split at hr <;> try exact hr.elim
    rename_i p st hc
    intro ν w R w0 H HK
    have H' := H
    rw [SH.den_get ν hc, Assn.mul_assoc] at H'
    refine (count_done (ν c) (ν p) st w H').mono fun e w' ⟨he, hw⟩ => ?_
    subst hw
    exact ⟨_, m, ν, hr, Agree.refl _ _, Nat.le_refl _, he, H, HK⟩
theorem gives_made {g : FuncId} {args : List SV} {m : MX} {K : SV → MX → Prop} {x : XO} (hn : newOk m (.ext x) = true) (hk : K (.c (.ptr m.nx 0)) (withNew m (.ext x)))
    (hc : ∀ ν w R, Sat w R → Calls Try.prog g (args.map (SV.den ν)).toArray w fun e w' => ∃ c, e = .returned (.pointer (some ⟨c, 0, none⟩)) ∧ Sat w' (XO.den ν c x * R) ∧ Kept w w') : Gives Try.prog g args m K := fun ν w R w0 H HK =>
  (hc ν w _ H).mono fun e w' ⟨c, he, hs, hk'⟩ => ⟨_, _, upd ν m.nx c, hk, Agree.upd (Nat.le_refl _) _, Nat.le_succ _, by rw [he]; simp [SV.den, SC.den, upd_same], withNew_sat hn hs, HK.trans hk'⟩
/-- A count of an enter. -/
def enterC (sg s : Int) : Cnt := ⟨sg.toNat, s.toNat, 0, segG s.toNat + 1, 1⟩
def enterX : Smry Try.prog XE where
  g := 22
  run := fun args m K => match args with
    | [.c (.ptr p 0), .agg [.int _ .u64 sg _, .int _ .i64 s _]] => (0 ≤ sg ∧ 0 ≤ s ∧ s ≤ 254) ∧
        bif newOk m (cntO p (enterC sg s)) then K (.c (.ptr m.nx 0)) (withNew m (cntO p (enterC sg s))) else Stuck 755
    | _ => Stuck 756
  ok := fun args m K hr => by
    split at hr <;> try exact hr.elim
    rename_i p _ sg _ _ s _
    obtain ⟨⟨h0, h1, h2⟩, hk⟩ := hr
    obtain ⟨a, rfl⟩ : ∃ z : Nat, sg = z := ⟨sg.toNat, by omega⟩
    obtain ⟨b, rfl⟩ : ∃ z : Nat, s = z := ⟨s.toNat, by omega⟩
    cases hn : newOk m (cntO p (enterC (a : Int) (b : Int))) <;> rw [hn] at hk
    · exact hk.elim
    exact gives_made hn hk fun ν w R H => count_enter (ν p) a b w H (by omega)
def exitX : Smry Try.prog XE where
  g := 20
  run := fun args m K => match args with
    | [.c (.ptr p 0), .agg [.int _ .u64 sg _, .int _ .i64 s _], .c (.int _ .i64 a _), .c (.int _ .i64 b _)] => (0 ≤ sg ∧ 0 ≤ s ∧ s ≤ 254) ∧
        bif newOk m (cntO p (cntNew sg.toNat s.toNat a b 18446744073709551615)) then K (.c (.ptr m.nx 0)) (withNew m (cntO p (cntNew sg.toNat s.toNat a b 18446744073709551615))) else Stuck 757
    | _ => Stuck 758
  ok := fun args m K hr => by
    split at hr <;> try exact hr.elim
    rename_i p _ sg _ _ s _ _ x _ _ y _
    obtain ⟨⟨h0, h1, h2⟩, hk⟩ := hr
    obtain ⟨a, rfl⟩ : ∃ z : Nat, sg = z := ⟨sg.toNat, by omega⟩
    obtain ⟨b, rfl⟩ : ∃ z : Nat, s = z := ⟨s.toNat, by omega⟩
    cases hn : newOk m (cntO p (cntNew (a : Int).toNat (b : Int).toNat x y 18446744073709551615)) <;> rw [hn] at hk
    · exact hk.elim
    exact gives_made hn hk fun ν w R H => count_exit (ν p) a b x y w H (by omega)
-- what an arena tells
theorem ar_faults (p : Nat) (A : Ar) (w : World) {R : Assn} (H : Sat w (arAt p A * R)) :
    Calls Try.prog 49 #[.pointer (some ⟨p, 0, none⟩)] w fun e w' => e = .returned (.int .i64 (wr64 A.faults)) ∧ w = w' := by
  obtain ⟨ps, pb, _, H1⟩ := arAt_open H
  have hc := H1.cell 3
  simp [arCells] at hc
  clear H H1
  go_enter Try.func49, Try.ntmps49
  go_wp2
  go_ret
  exact ⟨rfl, rfl⟩
theorem gives_told {g : FuncId} {args : List SV} {m : MX} {K : SV → MX → Prop} {n : Nat} {A : Ar} {v : SV} (hA : m.hp.get n = some (arO A)) (hk : K v m)
    (hc : ∀ ν w R, Sat w (arAt (ν n) A * R) → Calls Try.prog g (args.map (SV.den ν)).toArray w fun e w' => e = .returned (v.den ν) ∧ w = w') : Gives Try.prog g args m K := fun ν w R w0 H HK => by
  have H' := H
  rw [SH.den_get ν hA, Assn.mul_assoc] at H'
  refine (hc ν w _ H').mono fun e w' ⟨he, hw⟩ => ?_
  subst hw
  exact ⟨_, m, ν, hk, Agree.refl _ _, Nat.le_refl _, he, H, HK⟩
def faultsX : Smry Try.prog XE where
  g := 49
  run := fun args m K => match args with
    | [.c (.ptr n 0)] => match m.hp.get n with
      | some (.ext (.ar A)) => K (.c (.int false .i64 (wr64 A.faults))) m
      | _ => Stuck 760
    | _ => Stuck 761
  ok := fun args m K hr => by
    split at hr <;> try exact hr.elim
    split at hr <;> try exact hr.elim
    rename_i A hA
    exact gives_told hA hr fun ν w R H => ar_faults _ A w H
end Go.Proofs.Ytnfpkadepomjjaa

/- Summaries for closed runs: what an arena's call needs is reckoned, not left to be shown. -/
namespace Go.Proofs.Ytnfpkadepomjjaa
open Go Go.RowKit
def hasA (A : Ar) (h i : Int) : Bool := leI 0 h && (leI h 18446744073709551615 && (leI 0 i && (A.word h.toNat i.toNat).isSome))
theorem hasA_ok {A : Ar} {h i : Int} (e : hasA A h i = true) : A.Has h i := by
  unfold hasA at e
  simp only [Bool.and_eq_true] at e
  have h1 := leI_le e.1
  have h2 := leI_le e.2.1
  have h3 := leI_le e.2.2.1
  exact ⟨h1, by omega, h3, e.2.2.2⟩
def readN : Smry Try.prog XE where
  g := 72
  run := fun args m K => match args with
    | [.c (.ptr n 0), .agg [.int _ .u64 h _, .int _ .i64 i _]] => match m.hp.get n with
      | some (.ext (.ar A)) => bif hasA A h i then forceN (A.rd h i) fun x => K (.tup [(false, [.int true .u64 (x : Int)]), okE]) ⟨m.hp.set n (arO A.read), m.nx⟩ else Stuck 830
      | _ => Stuck 730
    | _ => Stuck 731
  ok := fun args m K hr => by
    split at hr <;> try exact hr.elim
    rename_i n l1 h b1 l2 i b2
    split at hr <;> try exact hr.elim
    rename_i A hA
    cases hb : hasA A h i <;> rw [hb] at hr
    · exact hr.elim
    simp only [cond_true, forceN_eq] at hr
    intro ν w R w0 Hs HK
    have key := readX.ok [.c (.ptr n 0), .agg [.int l1 .u64 h b1, .int l2 .i64 i b2]] m (fun v m' => v = .tup [nat64 (A.rd h i), okE] ∧ m' = ⟨m.hp.set n (arO A.read), m.nx⟩) (by
      simp only [readX]
      rw [hA]
      exact ⟨hasA_ok hb, rfl, rfl⟩) ν w R w0 Hs HK
    refine key.mono ?_
    rintro e w' ⟨v, m', μ, ⟨rfl, rfl⟩, ag, hn, he, hs, hk⟩
    exact ⟨_, _, μ, hr, ag, hn, by rw [he]; rfl, hs, hk⟩
def writeN : Smry Try.prog XE where
  g := 45
  run := fun args m K => match args with
    | [.c (.ptr n 0), .agg [.int _ .u64 h _, .int _ .i64 i _], .c (.int _ .u64 y _)] => match m.hp.get n with
      | some (.ext (.ar A)) => bif hasA A h i && (leI 0 y && leI y 18446744073709551615) then K (.c (.int true .i64 0)) ⟨m.hp.set n (arO (A.write h i y)), m.nx⟩ else Stuck 831
      | _ => Stuck 732
    | _ => Stuck 733
  ok := fun args m K hr => by
    split at hr <;> try exact hr.elim
    rename_i n l1 h b1 l2 i b2 l3 y b3
    split at hr <;> try exact hr.elim
    rename_i A hA
    cases hb : hasA A h i && (leI 0 y && leI y 18446744073709551615) <;> rw [hb] at hr
    · exact hr.elim
    simp only [cond_true] at hr
    simp only [Bool.and_eq_true] at hb
    have h1 := leI_le hb.2.1
    have h2 := leI_le hb.2.2
    exact writeX.ok [.c (.ptr n 0), .agg [.int l1 .u64 h b1, .int l2 .i64 i b2], .c (.int l3 .u64 y b3)] m K (by
      simp only [writeX]
      rw [hA]
      exact ⟨hasA_ok hb.1, ⟨h1, by omega⟩, hr⟩)
def cntB (st : Cnt) (A : Ar) : Bool := Nat.ble st.s 254 && (Nat.ble st.last (segG st.s + 1) && (Nat.blt 0 st.sg && (Nat.ble st.last st.first || hasA A (st.sg : Nat) (cntAddr st : Nat))))
theorem cntB_ok {st : Cnt} {A : Ar} (h : cntB st A = true) : CntOk st A := by
  unfold cntB at h
  simp only [Bool.and_eq_true, Bool.or_eq_true, Nat.ble_eq, Nat.blt_eq] at h
  refine ⟨h.1, h.2.1, by omega, fun hlt => ?_⟩
  rcases h.2.2.2 with h' | h'
  · omega
  · exact hasA_ok h'
def stepN : Smry Try.prog XE where
  g := 23
  run := fun args m K => match args with
    | [.c (.ptr c 0)] => match m.hp.get c with
      | some (.ext (.cnt p st)) => match (m.hp.del c).get p with
        | some (.ext (.ar A)) => bif cntB st A then K (.tup []) (put2 m c p (cntO p (stepC st)) (arO (stepA st A))) else Stuck 832
        | _ => Stuck 750
      | _ => Stuck 751
    | _ => Stuck 752
  ok := fun args m K hr => by
    split at hr <;> try exact hr.elim
    rename_i c
    split at hr <;> try exact hr.elim
    rename_i p st hc
    split at hr <;> try exact hr.elim
    rename_i A hA
    cases hb : cntB st A <;> rw [hb] at hr
    · exact hr.elim
    simp only [cond_true] at hr
    exact stepX.ok [.c (.ptr c 0)] m K (by
      simp only [stepX]
      rw [hc]
      simp only []
      rw [hA]
      exact ⟨cntB_ok hb, hr⟩)
end Go.Proofs.Ytnfpkadepomjjaa
