/- Arenas told without the slices that hold their words (module Par), where not all is known: contracts with conditions that are left to be shown. -/
import Derived.Test.YtgiakcepgbpchaaSumGet
set_option linter.all false
namespace Go.Proofs.Ytgiakcepgbpchaa
open Go Go.RowKit
set_option maxRecDepth 100000

def PA.Has (x : PA) (h i : Int) : Prop := (0 ≤ h ∧ h < 18446744073709551616) ∧ 0 ≤ i ∧ (x.word h.toNat i.toNat).isSome = true ∧ x.fx.length = 9
def PA.rd (x : PA) (h i : Int) : Nat := (x.word h.toNat i.toNat).getD 0
theorem PA.Has.ok {x : PA} {h i : Int} (e : x.Has h i) (z : Nat → Value) : (x.ar z).Has h i ∧ (x.ar z).rd h i = x.rd h i ∧ (h.toNat = 0 → i.toNat < x.fx.length) := by
  obtain ⟨⟨h1, h2⟩, h3, h4, h5⟩ := e
  refine ⟨⟨h1, h2, h3, by rw [PA.word_eq]; exact h4⟩, by unfold Ar.rd PA.rd; rw [PA.word_eq], fun h0 => ?_⟩
  unfold PA.word at h4
  rw [h0] at h4
  simp only [Nat.beq, cond_true] at h4
  cases hb : Nat.blt i.toNat 9 <;> rw [hb] at h4
  · cases h4
  · rw [Nat.blt_eq] at hb
    omega
def PA.writeQ (x : PA) (h i y : Int) : PA := x.write h.toNat i.toNat y.toNat
def PA.addQ (x : PA) (h i y : Int) : PA := x.add h.toNat i.toNat y.toNat
def PA.swapQ (x : PA) (h i o y : Int) : PA := (if (x.rd h i : Int) = o then x.set h.toNat i.toNat y.toNat else x).tick fun t => { t with swaps := t.swaps + 1 }
theorem PA.swapQ_eq {x : PA} {h i : Int} (e : x.Has h i) (z : Nat → Value) {o y : Int} : (x.ar z).swap h i o y = (x.swapQ h i o y).ar z := by
  obtain ⟨h1, h2, h3⟩ := e.ok z
  rw [Ar.swap, h2, PA.set_eq x z _ _ _ h3]
  unfold PA.swapQ
  by_cases ho' : (x.rd h i : Int) = o
  · simp only [if_pos ho']; rfl
  · simp only [if_neg ho']; rfl
def readQ : Smry Try.prog XP where
  g := readX.g
  run := fun args m K => match args with
    | [.c (.ptr n 0), .agg [.int _ .u64 h _, .int _ .i64 i _]] => match m.hp.get n with
      | some (.ext (.obj [] x)) => PA.Has x h i ∧ K (.tup [nat64 (PA.rd x h i), okE]) ⟨m.hp.set n (parO (PA.read x)), m.nx⟩
      | _ => Stuck 920
    | _ => Stuck 921
  ok := fun args m K hr => by
    split at hr <;> try exact hr.elim
    rename_i n l1 h b1 l2 i b2
    split at hr <;> try exact hr.elim
    rename_i x hx
    refine par_gives (S := readX) hx rfl (by intro a ha; simp only [List.mem_singleton] at ha; subst ha; rfl) (fun z => ?_) hr.2
    obtain ⟨h1, h2, _⟩ := PA.Has.ok hr.1 z
    simp only [readX, SH.get, if_true]
    exact ⟨h1, by rw [h2], z, rfl⟩
def writeQ : Smry Try.prog XP where
  g := writeX.g
  run := fun args m K => match args with
    | [.c (.ptr n 0), .agg [.int _ .u64 h _, .int _ .i64 i _], .c (.int _ .u64 y _)] => match m.hp.get n with
      | some (.ext (.obj [] x)) => PA.Has x h i ∧ (0 ≤ y ∧ y < 18446744073709551616) ∧ K (.c (.int true .i64 0)) ⟨m.hp.set n (parO (PA.writeQ x h i y)), m.nx⟩
      | _ => Stuck 922
    | _ => Stuck 923
  ok := fun args m K hr => by
    split at hr <;> try exact hr.elim
    rename_i n l1 h b1 l2 i b2 l3 y b3
    split at hr <;> try exact hr.elim
    rename_i x hx
    refine par_gives (S := writeX) hx rfl (by intro a ha; simp only [List.mem_cons, List.not_mem_nil, or_false] at ha; rcases ha with rfl | rfl <;> rfl) (fun z => ?_) hr.2.2
    obtain ⟨h1, h2, h3⟩ := PA.Has.ok hr.1 z
    simp only [writeX, SH.get, if_true]
    refine ⟨h1, hr.2.1, trivial, z, ?_⟩
    simp only [SH.set, if_true]
    rw [Ar.write, PA.set_eq x z _ _ _ h3]
    rfl
def addQ : Smry Try.prog XP where
  g := addX.g
  run := fun args m K => match args with
    | [.c (.ptr n 0), .agg [.int _ .u64 h _, .int _ .i64 i _], .c (.int _ .u64 y _)] => match m.hp.get n with
      | some (.ext (.obj [] x)) => PA.Has x h i ∧ (0 ≤ y ∧ y < 18446744073709551616) ∧ K (.tup [nat64 (PA.rd x h i), okE]) ⟨m.hp.set n (parO (PA.addQ x h i y)), m.nx⟩
      | _ => Stuck 924
    | _ => Stuck 925
  ok := fun args m K hr => by
    split at hr <;> try exact hr.elim
    rename_i n l1 h b1 l2 i b2 l3 y b3
    split at hr <;> try exact hr.elim
    rename_i x hx
    refine par_gives (S := addX) hx rfl (by intro a ha; simp only [List.mem_cons, List.not_mem_nil, or_false] at ha; rcases ha with rfl | rfl <;> rfl) (fun z => ?_) hr.2.2
    obtain ⟨h1, h2, h3⟩ := PA.Has.ok hr.1 z
    simp only [addX, SH.get, if_true]
    refine ⟨h1, hr.2.1, by rw [h2], z, ?_⟩
    simp only [SH.set, if_true]
    rw [Ar.add, h2, PA.set_eq x z _ _ _ h3]
    rfl
def swapQ : Smry Try.prog XP where
  g := swapX.g
  run := fun args m K => match args with
    | [.c (.ptr n 0), .agg [.int _ .u64 h _, .int _ .i64 i _], .c (.int _ .u64 o _), .c (.int _ .u64 y _)] => match m.hp.get n with
      | some (.ext (.obj [] x)) => PA.Has x h i ∧ (0 ≤ y ∧ y < 18446744073709551616) ∧ 0 ≤ o ∧ K (.tup [(false, [.boo false (decide ((PA.rd x h i : Int) = o))]), okE]) ⟨m.hp.set n (parO (PA.swapQ x h i o y)), m.nx⟩
      | _ => Stuck 926
    | _ => Stuck 927
  ok := fun args m K hr => by
    split at hr <;> try exact hr.elim
    rename_i n l1 h b1 l2 i b2 l4 o b4 l3 y b3
    split at hr <;> try exact hr.elim
    rename_i x hx
    refine par_gives (S := swapX) hx rfl (by intro a ha; simp only [List.mem_cons, List.not_mem_nil, or_false] at ha; rcases ha with rfl | rfl | rfl <;> rfl) (fun z => ?_) hr.2.2.2
    obtain ⟨h1, h2, h3⟩ := PA.Has.ok hr.1 z
    simp only [swapX, SH.get, if_true]
    refine ⟨h1, hr.2.1, hr.2.2.1, by rw [h2], z, ?_⟩
    simp only [SH.set, if_true]
    rw [PA.swapQ_eq hr.1 z]
def newQ : Smry Try.prog XP where
  g := newX.g
  run := fun args m K => match args with
    | [.c (.int _ .i64 c _)] => (0 ≤ c ∧ c ≤ 60000) ∧ bif newOk m (parO (PA.new c.toNat)) then K (.tup [(false, [.ptr m.nx 0]), okE]) (withNew m (parO (PA.new c.toNat))) else Stuck 928
    | _ => Stuck 929
  ok := fun args m K hr => by
    split at hr <;> try exact hr.elim
    rename_i l c bc
    obtain ⟨⟨h0, h1⟩, hr⟩ := hr
    cases hb : newOk m (parO (PA.new c.toNat)) <;> rw [hb] at hr
    · exact hr.elim
    simp only [cond_true] at hr
    intro ν w R w0 H HK
    obtain ⟨c, rfl⟩ : ∃ z : Nat, c = z := ⟨c.toNat, by omega⟩
    refine (arenaNew c w H (by omega)).mono fun e w' ⟨p, he, hs, hk'⟩ => ⟨_, _, upd ν m.nx p, hr, Agree.upd (Nat.le_refl _) _, Nat.le_succ _, ?_, ?_, HK.trans hk'⟩
    · rw [he]
      simp [SV.den, SC.den, SC.denL, partDen, okE, upd_same]
    · rw [PA.new_eq c fun _ => undef] at hs
      exact par_new hb hs
/-- Lay, of words that are told by a function: a row of them. -/
def layQ : Smry Try.prog XP where
  g := 26
  run := fun args m K => match args with
    | [.c (.ptr n 0), .c (.sli s 1 _ 0 _ k cap)] => match m.hp.get n with
      | some (.ext (.obj [] x)) => match (m.hp.del n).get s with
        | some (.ints T .u64 k' cap' f) => if T = 25 then k' = k ∧ cap' = cap ∧ (1 ≤ k ∧ k ≤ 2048) ∧ PA.used x + k ≤ PA.cap x ∧ PA.bk x = [] ∧ PA.births x < 268435455 ∧ (∀ i, i < k → 0 ≤ f i ∧ f i < 18446744073709551616) ∧
            K (.tup [nat64 (PA.hdl x), okE]) ⟨m.hp.set n (parO (PA.lay x (natsOf k f))), m.nx⟩ else Stuck 930
        | _ => Stuck 931
      | _ => Stuck 932
    | _ => Stuck 933
  ok := fun args m K hr => by
    split at hr <;> try exact hr.elim
    rename_i n s lo ll k cap
    split at hr <;> try exact hr.elim
    rename_i x hx
    split at hr <;> try exact hr.elim
    rename_i T k' cap' f hS
    split at hr <;> try exact hr.elim
    rename_i hT
    subst hT
    obtain ⟨rfl, rfl, ⟨k1, k2⟩, hc, hbk, hbi, hw, hk⟩ := hr
    intro ν w R w0 H HK
    rw [SH.den_get ν hx, SH.den_get ν hS, Assn.mul_assoc, Assn.mul_assoc] at H
    obtain ⟨z, H⟩ := par_open H
    let μ : Nat → Nat := fun i => if i = 0 then ν n else ν s
    have H1 : Sat w ((⟨[(0, arO (x.ar z)), (1, .ints 25 .u64 k' cap' f)], 2⟩ : MX).hp.den μ * (((m.hp.del n).del s).den ν * R)) := H.cast (by
      show _ = SH.den μ [(0, arO (x.ar z)), (1, .ints 25 .u64 k' cap' f)] * _
      rw [den_two, show μ 0 = ν n from rfl, show μ 1 = ν s from rfl, Assn.mul_assoc]
      rfl)
    have hargs : (List.map (SV.den ν) [.c (.ptr n 0), .c (.sli s 1 lo 0 ll k' cap')]) = List.map (SV.den μ) [.c (.ptr 0 0), .c (.sli 1 1 lo 0 ll k' cap')] := by
      simp only [List.map_cons, List.map_nil, SV.den, SC.den, show μ 0 = ν n from rfl, show μ 1 = ν s from rfl]
    rw [hargs]
    have run : (layX false).run [.c (.ptr 0 0), .c (.sli 1 1 lo 0 ll k' cap')] ⟨[(0, arO (x.ar z)), (1, .ints 25 .u64 k' cap' f)], 2⟩ (fun v m' => v = .tup [nat64 (PA.hdl x), okE] ∧ ∃ z', m'.hp = [(0, arO ((PA.lay x (natsOf k' f)).ar z')), (1, .ints 25 .u64 k' cap' f)]) := by
      simp only [layX, SH.get, SH.del, if_true]
      refine ⟨trivial, trivial, ⟨k1, k2⟩, hc, hbk, hbi, hw, fun v => ⟨rfl, ?_⟩⟩
      obtain ⟨z', hz⟩ := PA.lay_eq x z (natsOf k' f) v
      exact ⟨z', by rw [hz]; rfl⟩
    refine ((layX false).ok _ _ _ run μ w _ w0 H1 HK).mono ?_
    rintro e' w' ⟨v, m', ξ, ⟨rfl, z', hm⟩, ag, hn, he, hs, hk'⟩
    have h0 : ξ 0 = ν n := ag 0 (by simp)
    have h1 : ξ 1 = ν s := ag 1 (by simp)
    rw [hm] at hs
    refine ⟨_, _, ν, hk, Agree.refl _ _, Nat.le_refl _, he, ?_, hk'⟩
    rw [SH.den_set ν hx, SH.den_get ν hS, Assn.mul_assoc, Assn.mul_assoc]
    refine par_shut (z := z') (hs.cast ?_)
    rw [den_two, h0, h1, Assn.mul_assoc]
    rfl
def faultsQ : Smry Try.prog XP where
  g := faultsX.g
  run := fun args m K => match args with
    | [.c (.ptr n 0)] => match m.hp.get n with
      | some (.ext (.obj [] x)) => K (.c (.int false .i64 (wr64 (PA.faults x)))) ⟨m.hp.set n (parO x), m.nx⟩
      | _ => Stuck 934
    | _ => Stuck 935
  ok := fun args m K hr => by
    split at hr <;> try exact hr.elim
    rename_i n
    split at hr <;> try exact hr.elim
    rename_i x hx
    refine par_gives (S := faultsX) hx rfl (by intro a ha; cases ha) (fun z => ?_) hr
    simp only [faultsX, SH.get, if_true]
    exact ⟨rfl, z, rfl⟩
end Go.Proofs.Ytgiakcepgbpchaa
