/- Arenas told without the slices that hold their words (module Par), where not all is known: contracts with conditions that are left to be shown. -/
import Derived.Test.YtnfpkadepomjjaaSumGet
import Derived.Test.YtnfpkadepomjjaaArL
import Derived.Test.YtnfpkadepomjjaaBaseClo
import Derived.Test.YtnfpkadepomjjaaBaseC
set_option linter.all false
namespace Go.Proofs.Ytnfpkadepomjjaa
open Go Go.RowKit
set_option maxRecDepth 100000

def PA.Has (x : PA) (h i : Int) : Prop := (0 ≤ h ∧ h < 18446744073709551616) ∧ 0 ≤ i ∧ (x.word h.toNat i.toNat).isSome = true ∧ x.fx.length = 9
def PA.rd (x : PA) (h i : Int) : Nat := (x.word h.toNat i.toNat).getD 0
theorem PA.Has.ok {x : PA} {h i : Int} (e : x.Has h i) (z : Nat → Value) : (x.ar z).Has h i ∧ (x.ar z).rd h i = x.rd h i ∧ (h.toNat = 0 → i.toNat < x.fx.length) := by
  obtain ⟨⟨h1, h2⟩, h3, h4, h5⟩ := e
  refine ⟨⟨h1, h2, h3, by rw [PA.word_eq]; exact h4⟩, by unfold Ar.rd PA.rd; rw [PA.word_eq], fun h0 => ?_⟩
  unfold PA.word at h4
  rw [h0] at h4
  simp only [Nat.beq, cond_true] at h4
  cases hb : Nat.blt i.toNat 9 <;> rw [hb] at h4
  · cases h4
  · rw [Nat.blt_eq] at hb
    omega
def PA.writeQ (x : PA) (h i y : Int) : PA := x.write h.toNat i.toNat y.toNat
def PA.addQ (x : PA) (h i y : Int) : PA := x.add h.toNat i.toNat y.toNat
def PA.swapQ (x : PA) (h i o y : Int) : PA := (if (x.rd h i : Int) = o then x.set h.toNat i.toNat y.toNat else x).tick fun t => { t with swaps := t.swaps + 1 }
theorem PA.swapQ_eq {x : PA} {h i : Int} (e : x.Has h i) (z : Nat → Value) {o y : Int} : (x.ar z).swap h i o y = (x.swapQ h i o y).ar z := by
  obtain ⟨h1, h2, h3⟩ := e.ok z
  rw [Ar.swap, h2, PA.set_eq x z _ _ _ h3]
  unfold PA.swapQ
  by_cases ho' : (x.rd h i : Int) = o
  · simp only [if_pos ho']; rfl
  · simp only [if_neg ho']; rfl
def readQ : Smry Try.prog XP where
  g := readX.g
  run := fun args m K => match args with
    | [.c (.ptr n 0), .agg [.int _ .u64 h _, .int _ .i64 i _]] => match m.hp.get n with
      | some (.ext (.obj [] x)) => PA.Has x h i ∧ K (.tup [nat64 (PA.rd x h i), okE]) ⟨m.hp.set n (parO (PA.read x)), m.nx⟩
      | _ => Stuck 920
    | _ => Stuck 921
  ok := fun args m K hr => by
    split at hr <;> try exact hr.elim
    rename_i n l1 h b1 l2 i b2
    split at hr <;> try exact hr.elim
    rename_i x hx
    refine par_gives (S := readX) hx rfl (by intro a ha; simp only [List.mem_singleton] at ha; subst ha; rfl) (fun z => ?_) hr.2
    obtain ⟨h1, h2, _⟩ := PA.Has.ok hr.1 z
    simp only [readX, SH.get, if_true]
    exact ⟨h1, by rw [h2], z, rfl⟩
def writeQ : Smry Try.prog XP where
  g := writeX.g
  run := fun args m K => match args with
    | [.c (.ptr n 0), .agg [.int _ .u64 h _, .int _ .i64 i _], .c (.int _ .u64 y _)] => match m.hp.get n with
      | some (.ext (.obj [] x)) => PA.Has x h i ∧ (0 ≤ y ∧ y < 18446744073709551616) ∧ K (.c (.int true .i64 0)) ⟨m.hp.set n (parO (PA.writeQ x h i y)), m.nx⟩
      | _ => Stuck 922
    | _ => Stuck 923
  ok := fun args m K hr => by
    split at hr <;> try exact hr.elim
    rename_i n l1 h b1 l2 i b2 l3 y b3
    split at hr <;> try exact hr.elim
    rename_i x hx
    refine par_gives (S := writeX) hx rfl (by intro a ha; simp only [List.mem_cons, List.not_mem_nil, or_false] at ha; rcases ha with rfl | rfl <;> rfl) (fun z => ?_) hr.2.2
    obtain ⟨h1, h2, h3⟩ := PA.Has.ok hr.1 z
    simp only [writeX, SH.get, if_true]
    refine ⟨h1, hr.2.1, trivial, z, ?_⟩
    simp only [SH.set, if_true]
    rw [Ar.write, PA.set_eq x z _ _ _ h3]
    rfl
def addQ : Smry Try.prog XP where
  g := addX.g
  run := fun args m K => match args with
    | [.c (.ptr n 0), .agg [.int _ .u64 h _, .int _ .i64 i _], .c (.int _ .u64 y _)] => match m.hp.get n with
      | some (.ext (.obj [] x)) => PA.Has x h i ∧ (0 ≤ y ∧ y < 18446744073709551616) ∧ K (.tup [nat64 (PA.rd x h i), okE]) ⟨m.hp.set n (parO (PA.addQ x h i y)), m.nx⟩
      | _ => Stuck 924
    | _ => Stuck 925
  ok := fun args m K hr => by
    split at hr <;> try exact hr.elim
    rename_i n l1 h b1 l2 i b2 l3 y b3
    split at hr <;> try exact hr.elim
    rename_i x hx
    refine par_gives (S := addX) hx rfl (by intro a ha; simp only [List.mem_cons, List.not_mem_nil, or_false] at ha; rcases ha with rfl | rfl <;> rfl) (fun z => ?_) hr.2.2
    obtain ⟨h1, h2, h3⟩ := PA.Has.ok hr.1 z
    simp only [addX, SH.get, if_true]
    refine ⟨h1, hr.2.1, by rw [h2], z, ?_⟩
    simp only [SH.set, if_true]
    rw [Ar.add, h2, PA.set_eq x z _ _ _ h3]
    rfl
def swapQ : Smry Try.prog XP where
  g := swapX.g
  run := fun args m K => match args with
    | [.c (.ptr n 0), .agg [.int _ .u64 h _, .int _ .i64 i _], .c (.int _ .u64 o _), .c (.int _ .u64 y _)] => match m.hp.get n with
      | some (.ext (.obj [] x)) => PA.Has x h i ∧ (0 ≤ y ∧ y < 18446744073709551616) ∧ 0 ≤ o ∧ K (.tup [(false, [.boo false (decide ((PA.rd x h i : Int) = o))]), okE]) ⟨m.hp.set n (parO (PA.swapQ x h i o y)), m.nx⟩
      | _ => Stuck 926
    | _ => Stuck 927
  ok := fun args m K hr => by
    split at hr <;> try exact hr.elim
    rename_i n l1 h b1 l2 i b2 l4 o b4 l3 y b3
    split at hr <;> try exact hr.elim
    rename_i x hx
    refine par_gives (S := swapX) hx rfl (by intro a ha; simp only [List.mem_cons, List.not_mem_nil, or_false] at ha; rcases ha with rfl | rfl | rfl <;> rfl) (fun z => ?_) hr.2.2.2
    obtain ⟨h1, h2, h3⟩ := PA.Has.ok hr.1 z
    simp only [swapX, SH.get, if_true]
    refine ⟨h1, hr.2.1, hr.2.2.1, by rw [h2], z, ?_⟩
    simp only [SH.set, if_true]
    rw [PA.swapQ_eq hr.1 z]
def newQ : Smry Try.prog XP where
  g := newX.g
  run := fun args m K => match args with
    | [.c (.int _ .i64 c _)] => (0 ≤ c ∧ c ≤ 60000) ∧ bif newOk m (parO (PA.new c.toNat)) then K (.tup [(false, [.ptr m.nx 0]), okE]) (withNew m (parO (PA.new c.toNat))) else Stuck 928
    | _ => Stuck 929
  ok := fun args m K hr => by
    split at hr <;> try exact hr.elim
    rename_i l c bc
    obtain ⟨⟨h0, h1⟩, hr⟩ := hr
    cases hb : newOk m (parO (PA.new c.toNat)) <;> rw [hb] at hr
    · exact hr.elim
    simp only [cond_true] at hr
    intro ν w R w0 H HK
    obtain ⟨c, rfl⟩ : ∃ z : Nat, c = z := ⟨c.toNat, by omega⟩
    refine (arenaNew c w H (by omega)).mono fun e w' ⟨p, he, hs, hk'⟩ => ⟨_, _, upd ν m.nx p, hr, Agree.upd (Nat.le_refl _) _, Nat.le_succ _, ?_, ?_, HK.trans hk'⟩
    · rw [he]
      simp [SV.den, SC.den, SC.denL, partDen, okE, upd_same]
    · rw [PA.new_eq c fun _ => undef] at hs
      exact par_new hb hs
/-- Lay, of words that are told by a function: a row of them. -/
def layQ : Smry Try.prog XP where
  g := 71
  run := fun args m K => match args with
    | [.c (.ptr n 0), .c (.sli s 1 _ 0 _ k cap)] => match m.hp.get n with
      | some (.ext (.obj [] x)) => match (m.hp.del n).get s with
        | some (.ints T .u64 k' cap' f) => if T = 25 then k' = k ∧ cap' = cap ∧ (1 ≤ k ∧ k ≤ 2048) ∧ PA.used x + k ≤ PA.cap x ∧ PA.bk x = [] ∧ PA.births x < 268435455 ∧ (∀ i, i < k → 0 ≤ f i ∧ f i < 18446744073709551616) ∧
            K (.tup [nat64 (PA.hdl x), okE]) ⟨m.hp.set n (parO (PA.lay x (natsOf k f))), m.nx⟩ else Stuck 930
        | _ => Stuck 931
      | _ => Stuck 932
    | _ => Stuck 933
  ok := fun args m K hr => by
    split at hr <;> try exact hr.elim
    rename_i n s lo ll k cap
    split at hr <;> try exact hr.elim
    rename_i x hx
    split at hr <;> try exact hr.elim
    rename_i T k' cap' f hS
    split at hr <;> try exact hr.elim
    rename_i hT
    subst hT
    obtain ⟨rfl, rfl, ⟨k1, k2⟩, hc, hbk, hbi, hw, hk⟩ := hr
    intro ν w R w0 H HK
    rw [SH.den_get ν hx, SH.den_get ν hS, Assn.mul_assoc, Assn.mul_assoc] at H
    obtain ⟨z, H⟩ := par_open H
    let μ : Nat → Nat := fun i => if i = 0 then ν n else ν s
    have H1 : Sat w ((⟨[(0, arO (x.ar z)), (1, .ints 25 .u64 k' cap' f)], 2⟩ : MX).hp.den μ * (((m.hp.del n).del s).den ν * R)) := H.cast (by
      show _ = SH.den μ [(0, arO (x.ar z)), (1, .ints 25 .u64 k' cap' f)] * _
      rw [den_two, show μ 0 = ν n from rfl, show μ 1 = ν s from rfl, Assn.mul_assoc]
      rfl)
    have hargs : (List.map (SV.den ν) [.c (.ptr n 0), .c (.sli s 1 lo 0 ll k' cap')]) = List.map (SV.den μ) [.c (.ptr 0 0), .c (.sli 1 1 lo 0 ll k' cap')] := by
      simp only [List.map_cons, List.map_nil, SV.den, SC.den, show μ 0 = ν n from rfl, show μ 1 = ν s from rfl]
    rw [hargs]
    have run : (layX false).run [.c (.ptr 0 0), .c (.sli 1 1 lo 0 ll k' cap')] ⟨[(0, arO (x.ar z)), (1, .ints 25 .u64 k' cap' f)], 2⟩ (fun v m' => v = .tup [nat64 (PA.hdl x), okE] ∧ ∃ z', m'.hp = [(0, arO ((PA.lay x (natsOf k' f)).ar z')), (1, .ints 25 .u64 k' cap' f)]) := by
      simp only [layX, SH.get, SH.del, if_true]
      refine ⟨trivial, trivial, ⟨k1, k2⟩, hc, hbk, hbi, hw, fun v => ⟨rfl, ?_⟩⟩
      obtain ⟨z', hz⟩ := PA.lay_eq x z (natsOf k' f) v
      exact ⟨z', by rw [hz]; rfl⟩
    refine ((layX false).ok _ _ _ run μ w _ w0 H1 HK).mono ?_
    rintro e' w' ⟨v, m', ξ, ⟨rfl, z', hm⟩, ag, hn, he, hs, hk'⟩
    have h0 : ξ 0 = ν n := ag 0 (by simp)
    have h1 : ξ 1 = ν s := ag 1 (by simp)
    rw [hm] at hs
    refine ⟨_, _, ν, hk, Agree.refl _ _, Nat.le_refl _, he, ?_, hk'⟩
    rw [SH.den_set ν hx, SH.den_get ν hS, Assn.mul_assoc, Assn.mul_assoc]
    refine par_shut (z := z') (hs.cast ?_)
    rw [den_two, h0, h1, Assn.mul_assoc]
    rfl
def faultsQ : Smry Try.prog XP where
  g := faultsX.g
  run := fun args m K => match args with
    | [.c (.ptr n 0)] => match m.hp.get n with
      | some (.ext (.obj [] x)) => K (.c (.int false .i64 (wr64 (PA.faults x)))) ⟨m.hp.set n (parO x), m.nx⟩
      | _ => Stuck 934
    | _ => Stuck 935
  ok := fun args m K hr => by
    split at hr <;> try exact hr.elim
    rename_i n
    split at hr <;> try exact hr.elim
    rename_i x hx
    refine par_gives (S := faultsX) hx rfl (by intro a ha; cases ha) (fun z => ?_) hr
    simp only [faultsX, SH.get, if_true]
    exact ⟨rfl, z, rfl⟩
end Go.Proofs.Ytnfpkadepomjjaa

/- The arena's calls that fail (layer 3): by the executor. -/
namespace Go.Proofs.Ytnfpkadepomjjaa
open Go Go.RowKit
set_option maxRecDepth 1000000
set_option maxHeartbeats 0
def Ar.wordI (A : Ar) (h i : Int) : Option Nat := if 0 ≤ i then A.word h.toNat i.toNat else none
def Ar.errI (A : Ar) (h : Int) : Int := if h ≠ 0 ∧ A.find h.toNat = none then 23 else 24
theorem at_err (p : Nat) (h i : Int) (A : Ar) (w : World) {R : Assn} (H : Sat w (arAt p A * R)) (hh : 0 ≤ h ∧ h < 18446744073709551616) (hn : A.wordI h i = none) :
    Calls Try.prog 122 #[.pointer (some ⟨p, 0, none⟩), .agg #[.int .u64 h, .int .i64 i]] w fun e w' => e = .returned (.tuple #[.slice none 0 0, .int .i64 (A.errI h)]) ∧ Sat w' (arAt p A.fault * R) ∧ Kept w w' := by
  obtain ⟨h, rfl⟩ : ∃ k : Nat, h = k := ⟨h.toNat, by omega⟩
  have hT : h < TW := by unfold TW; omega
  unfold Ar.wordI Ar.word at hn
  unfold Ar.errI
  rw [Int.toNat_natCast] at *
  by_cases h0 : h = 0
  · subst h0
    rw [if_neg (fun e => e.1 rfl)]
    refine at_range_fixed p i A w H ?_
    by_cases hi : 0 ≤ i
    · rw [if_pos hi, if_pos rfl] at hn
      split at hn
      · cases hn
      · omega
    · omega
  · have h0' : (h : Int) ≠ 0 := by omega
    cases hf : A.find h with
    | none =>
      rw [if_pos ⟨h0', rfl⟩]
      exact at_gone p h i A w H hT h0 hf
    | some b =>
      rw [if_neg (fun e => by cases e.2)]
      obtain ⟨ps, pb, l1, l2, g, c, cur, _, hl, hv, _⟩ := ar_block H (Ar.find_mem hf).1
      refine at_range_block p h g _ c i A b w H hT h0 hf hv ?_
      by_cases hi : 0 ≤ i
      · rw [if_pos hi, if_neg h0, hf] at hn
        simp only [Option.bind_some, List.getElem?_eq_none_iff] at hn
        omega
      · omega
def atF : Smry Try.prog XE where
  g := 122
  run := fun args m K => match args with
    | [.c (.ptr n 0), .agg [.int _ .u64 h _, .int _ .i64 i _]] => match m.hp.get n with
      | some (.ext (.ar A)) => (0 ≤ h ∧ h < 18446744073709551616) ∧ A.wordI h i = none ∧ K (.tup [(false, [.nls]), (false, [.int false .i64 (A.errI h)])]) ⟨m.hp.set n (arO A.fault), m.nx⟩
      | _ => Stuck 936
    | _ => Stuck 937
  ok := fun args m K hr => by
    split at hr <;> try exact hr.elim
    rename_i n _ h _ _ i _
    split at hr <;> try exact hr.elim
    rename_i A hA
    exact gives_ext hA hr.2.2 fun ν w R H => at_err (ν n) h i A w H hr.1 hr.2.1
def noS (g : FuncId) : Smry Try.prog XE := ⟨g, fun _ _ _ => False, fun _ _ _ h => h.elim⟩
def layE (used cap births len : Nat) : Int := if len = 0 ∨ 2048 < len then 2 else if cap < used + len then 20 else if 268435455 ≤ births then 26 else 0
def arC (x0 x1 x4 : Nat) (v : Nat → Value) : SO XE := .cells [.int false .i64 x0, .int false .i64 x1, .raw (v 2), .raw (v 3), .int false .u64 x4, .raw (v 5), .raw (v 6), .raw (v 7), .raw (v 8), .raw (v 9), .raw (v 10), .raw (v 11), .raw (v 12), .raw (v 13), .raw (v 14), .raw (v 15), .raw (v 16), .raw (v 17), .raw (v 18), .raw (v 19), .raw (v 20), .raw (v 21)] 173
/-- What the executor leaves to be shown of (*roundelay/arena.Arena).Read, written out. -/
theorem readE_vc (A : Ar) (h i : Int) : (callN Try.prog ([atF] : List (Smry Try.prog XE)) (fun _ _ => false) 100 20 72 [.c (.ptr 0 0), .agg [.int false .u64 h, .int false .i64 i]] ⟨[(0, arO A)], 100⟩ (.t .nil) (fun v m _ => outM (.tup [(false, [.int true .u64 0]), (false, [.int false .i64 (A.errI h)])]) [(0, arO A.fault)] v m)) = (
    ((0 : Int) ≤ h ∧ h < (18446744073709551616 : Int)) ∧ A.wordI h i = none ∧ (A.errI h != (0 : Int)) = true ∧ A.errI h = A.errI h ∧ A.fault = A.fault ∧ True) := by
  kernel_rfl
theorem readE_run (A : Ar) (h i : Int) (hc : (0 ≤ h ∧ h < 18446744073709551616) ∧ A.wordI h i = none) : Run (callN Try.prog ([atF] : List (Smry Try.prog XE)) (fun _ _ => false) 100 20 72 [.c (.ptr 0 0), .agg [.int false .u64 h, .int false .i64 i]] ⟨[(0, arO A)], 100⟩ (.t .nil) (fun v m _ => outM (.tup [(false, [.int true .u64 0]), (false, [.int false .i64 (A.errI h)])]) [(0, arO A.fault)] v m)) := by
  constructor
  rw [readE_vc]
  obtain ⟨⟨hc1, hc2⟩, hc3⟩ := hc
  have h1 : (A.errI h != 0) = true := by
    unfold Ar.errI
    split <;> rfl
  have h2 : (A.errI h == 0) = false := by
    unfold Ar.errI
    split <;> rfl

  repeat' (with_reducible first | assumption | apply And.intro | exact trivial | exact Eq.refl _)
/-- What the executor leaves to be shown of (*roundelay/arena.Arena).Write, written out. -/
theorem writeE_vc (A : Ar) (h i y : Int) : (callN Try.prog ([atF] : List (Smry Try.prog XE)) (fun _ _ => false) 100 20 45 [.c (.ptr 0 0), .agg [.int false .u64 h, .int false .i64 i], .c (.int false .u64 y)] ⟨[(0, arO A)], 100⟩ (.t .nil) (fun v m _ => outM (.c (.int false .i64 (A.errI h))) [(0, arO A.fault)] v m)) = (
    ((0 : Int) ≤ h ∧ h < (18446744073709551616 : Int)) ∧ A.wordI h i = none ∧ (A.errI h != (0 : Int)) = true ∧ A.errI h = A.errI h ∧ A.fault = A.fault ∧ True) := by
  kernel_rfl
theorem writeE_run (A : Ar) (h i y : Int) (hc : (0 ≤ h ∧ h < 18446744073709551616) ∧ A.wordI h i = none) : Run (callN Try.prog ([atF] : List (Smry Try.prog XE)) (fun _ _ => false) 100 20 45 [.c (.ptr 0 0), .agg [.int false .u64 h, .int false .i64 i], .c (.int false .u64 y)] ⟨[(0, arO A)], 100⟩ (.t .nil) (fun v m _ => outM (.c (.int false .i64 (A.errI h))) [(0, arO A.fault)] v m)) := by
  constructor
  rw [writeE_vc]
  obtain ⟨⟨hc1, hc2⟩, hc3⟩ := hc
  have h1 : (A.errI h != 0) = true := by
    unfold Ar.errI
    split <;> rfl
  have h2 : (A.errI h == 0) = false := by
    unfold Ar.errI
    split <;> rfl

  repeat' (with_reducible first | assumption | apply And.intro | exact trivial | exact Eq.refl _)
/-- What the executor leaves to be shown of (*roundelay/arena.Arena).Swap, written out. -/
theorem swapE_vc (A : Ar) (h i o y : Int) : (callN Try.prog ([atF] : List (Smry Try.prog XE)) (fun _ _ => false) 100 20 73 [.c (.ptr 0 0), .agg [.int false .u64 h, .int false .i64 i], .c (.int false .u64 o), .c (.int false .u64 y)] ⟨[(0, arO A)], 100⟩ (.t .nil) (fun v m _ => outM (.tup [(false, [.boo true false]), (false, [.int false .i64 (A.errI h)])]) [(0, arO A.fault)] v m)) = (
    ((0 : Int) ≤ h ∧ h < (18446744073709551616 : Int)) ∧ A.wordI h i = none ∧ (A.errI h != (0 : Int)) = true ∧ A.errI h = A.errI h ∧ A.fault = A.fault ∧ True) := by
  kernel_rfl
theorem swapE_run (A : Ar) (h i o y : Int) (hc : (0 ≤ h ∧ h < 18446744073709551616) ∧ A.wordI h i = none) : Run (callN Try.prog ([atF] : List (Smry Try.prog XE)) (fun _ _ => false) 100 20 73 [.c (.ptr 0 0), .agg [.int false .u64 h, .int false .i64 i], .c (.int false .u64 o), .c (.int false .u64 y)] ⟨[(0, arO A)], 100⟩ (.t .nil) (fun v m _ => outM (.tup [(false, [.boo true false]), (false, [.int false .i64 (A.errI h)])]) [(0, arO A.fault)] v m)) := by
  constructor
  rw [swapE_vc]
  obtain ⟨⟨hc1, hc2⟩, hc3⟩ := hc
  have h1 : (A.errI h != 0) = true := by
    unfold Ar.errI
    split <;> rfl
  have h2 : (A.errI h == 0) = false := by
    unfold Ar.errI
    split <;> rfl

  repeat' (with_reducible first | assumption | apply And.intro | exact trivial | exact Eq.refl _)
/-- What the executor leaves to be shown of (*roundelay/arena.Arena).Add, written out. -/
theorem addE_vc (A : Ar) (h i y : Int) : (callN Try.prog ([atF] : List (Smry Try.prog XE)) (fun _ _ => false) 100 20 74 [.c (.ptr 0 0), .agg [.int false .u64 h, .int false .i64 i], .c (.int false .u64 y)] ⟨[(0, arO A)], 100⟩ (.t .nil) (fun v m _ => outM (.tup [(false, [.int true .u64 0]), (false, [.int false .i64 (A.errI h)])]) [(0, arO A.fault)] v m)) = (
    ((0 : Int) ≤ h ∧ h < (18446744073709551616 : Int)) ∧ A.wordI h i = none ∧ (A.errI h != (0 : Int)) = true ∧ A.errI h = A.errI h ∧ A.fault = A.fault ∧ True) := by
  kernel_rfl
theorem addE_run (A : Ar) (h i y : Int) (hc : (0 ≤ h ∧ h < 18446744073709551616) ∧ A.wordI h i = none) : Run (callN Try.prog ([atF] : List (Smry Try.prog XE)) (fun _ _ => false) 100 20 74 [.c (.ptr 0 0), .agg [.int false .u64 h, .int false .i64 i], .c (.int false .u64 y)] ⟨[(0, arO A)], 100⟩ (.t .nil) (fun v m _ => outM (.tup [(false, [.int true .u64 0]), (false, [.int false .i64 (A.errI h)])]) [(0, arO A.fault)] v m)) := by
  constructor
  rw [addE_vc]
  obtain ⟨⟨hc1, hc2⟩, hc3⟩ := hc
  have h1 : (A.errI h != 0) = true := by
    unfold Ar.errI
    split <;> rfl
  have h2 : (A.errI h == 0) = false := by
    unfold Ar.errI
    split <;> rfl

  repeat' (with_reducible first | assumption | apply And.intro | exact trivial | exact Eq.refl _)
/-- What the executor leaves to be shown of (*roundelay/arena.Arena).Lay, written out. -/
theorem layE1_vc (x0 x1 x4 len c : Nat) (a : Option Addr) (v : Nat → Value) : (callN Try.prog ([noS 147] : List (Smry Try.prog XE)) (fun _ _ => false) 100 20 71 [.c (.ptr 0 0), .c (.sliv a false len c)] ⟨[(0, arC x0 x1 x4 v)], 100⟩ (bN 5) (fun v' m _ => outM (.tup [(false, [.int true .u64 0]), (false, [.int false .i64 (layE x1 x0 x4 len)])]) [(0, arC x0 x1 x4 v)] v' m)) = (
    (((↑len : Int) == (0 : Int)) = true → layE x1 x0 x4 len = (2 : Int) ∧ ((↑x0 : Int) = (↑x0 : Int) ∧ (↑x1 : Int) = (↑x1 : Int) ∧ v (2 : Nat) = v (2 : Nat) ∧ v (3 : Nat) = v (3 : Nat)
    ∧ (↑x4 : Int) = (↑x4 : Int) ∧ v (5 : Nat) = v (5 : Nat) ∧ v (6 : Nat) = v (6 : Nat) ∧ v (7 : Nat) = v (7 : Nat) ∧ v (8 : Nat) = v (8 : Nat) ∧ v (9 : Nat) = v (9 : Nat) ∧ v (10 :
    Nat) = v (10 : Nat) ∧ v (11 : Nat) = v (11 : Nat) ∧ v (12 : Nat) = v (12 : Nat) ∧ v (13 : Nat) = v (13 : Nat) ∧ v (14 : Nat) = v (14 : Nat) ∧ v (15 : Nat) = v (15 : Nat) ∧ v (16 :
    Nat) = v (16 : Nat) ∧ v (17 : Nat) = v (17 : Nat) ∧ v (18 : Nat) = v (18 : Nat) ∧ v (19 : Nat) = v (19 : Nat) ∧ v (20 : Nat) = v (20 : Nat) ∧ v (21 : Nat) = v (21 : Nat) ∧ True) ∧
    True) ∧ (((↑len : Int) == (0 : Int)) = false → (decide ((↑len : Int) > (2048 : Int)) = true → layE x1 x0 x4 len = (2 : Int) ∧ ((↑x0 : Int) = (↑x0 : Int) ∧ (↑x1 : Int) = (↑x1 : Int)
    ∧ v (2 : Nat) = v (2 : Nat) ∧ v (3 : Nat) = v (3 : Nat) ∧ (↑x4 : Int) = (↑x4 : Int) ∧ v (5 : Nat) = v (5 : Nat) ∧ v (6 : Nat) = v (6 : Nat) ∧ v (7 : Nat) = v (7 : Nat) ∧ v (8 : Nat)
    = v (8 : Nat) ∧ v (9 : Nat) = v (9 : Nat) ∧ v (10 : Nat) = v (10 : Nat) ∧ v (11 : Nat) = v (11 : Nat) ∧ v (12 : Nat) = v (12 : Nat) ∧ v (13 : Nat) = v (13 : Nat) ∧ v (14 : Nat) = v
    (14 : Nat) ∧ v (15 : Nat) = v (15 : Nat) ∧ v (16 : Nat) = v (16 : Nat) ∧ v (17 : Nat) = v (17 : Nat) ∧ v (18 : Nat) = v (18 : Nat) ∧ v (19 : Nat) = v (19 : Nat) ∧ v (20 : Nat) = v
    (20 : Nat) ∧ v (21 : Nat) = v (21 : Nat) ∧ True) ∧ True) ∧ (decide ((↑len : Int) > (2048 : Int)) = false → ((-9223372036854775808 : Int) ≤ (↑x1 : Int) + (↑len : Int) ∧ (↑x1 : Int) +
    (↑len : Int) ≤ (9223372036854775807 : Int)) ∧ (decide ((↑x1 : Int) + (↑len : Int) > (↑x0 : Int)) = true → layE x1 x0 x4 len = (20 : Int) ∧ ((↑x0 : Int) = (↑x0 : Int) ∧ (↑x1 : Int) =
    (↑x1 : Int) ∧ v (2 : Nat) = v (2 : Nat) ∧ v (3 : Nat) = v (3 : Nat) ∧ (↑x4 : Int) = (↑x4 : Int) ∧ v (5 : Nat) = v (5 : Nat) ∧ v (6 : Nat) = v (6 : Nat) ∧ v (7 : Nat) = v (7 : Nat) ∧
    v (8 : Nat) = v (8 : Nat) ∧ v (9 : Nat) = v (9 : Nat) ∧ v (10 : Nat) = v (10 : Nat) ∧ v (11 : Nat) = v (11 : Nat) ∧ v (12 : Nat) = v (12 : Nat) ∧ v (13 : Nat) = v (13 : Nat) ∧ v (14
    : Nat) = v (14 : Nat) ∧ v (15 : Nat) = v (15 : Nat) ∧ v (16 : Nat) = v (16 : Nat) ∧ v (17 : Nat) = v (17 : Nat) ∧ v (18 : Nat) = v (18 : Nat) ∧ v (19 : Nat) = v (19 : Nat) ∧ v (20 :
    Nat) = v (20 : Nat) ∧ v (21 : Nat) = v (21 : Nat) ∧ True) ∧ True) ∧ (decide ((↑x1 : Int) + (↑len : Int) > (↑x0 : Int)) = false → (decide ((↑x4 : Int) ≥ (268435455 : Int)) = true →
    layE x1 x0 x4 len = (26 : Int) ∧ ((↑x0 : Int) = (↑x0 : Int) ∧ (↑x1 : Int) = (↑x1 : Int) ∧ v (2 : Nat) = v (2 : Nat) ∧ v (3 : Nat) = v (3 : Nat) ∧ (↑x4 : Int) = (↑x4 : Int) ∧ v (5 :
    Nat) = v (5 : Nat) ∧ v (6 : Nat) = v (6 : Nat) ∧ v (7 : Nat) = v (7 : Nat) ∧ v (8 : Nat) = v (8 : Nat) ∧ v (9 : Nat) = v (9 : Nat) ∧ v (10 : Nat) = v (10 : Nat) ∧ v (11 : Nat) = v
    (11 : Nat) ∧ v (12 : Nat) = v (12 : Nat) ∧ v (13 : Nat) = v (13 : Nat) ∧ v (14 : Nat) = v (14 : Nat) ∧ v (15 : Nat) = v (15 : Nat) ∧ v (16 : Nat) = v (16 : Nat) ∧ v (17 : Nat) = v
    (17 : Nat) ∧ v (18 : Nat) = v (18 : Nat) ∧ v (19 : Nat) = v (19 : Nat) ∧ v (20 : Nat) = v (20 : Nat) ∧ v (21 : Nat) = v (21 : Nat) ∧ True) ∧ True) ∧ (decide ((↑x4 : Int) ≥
    (268435455 : Int)) = false → False))))) := by
  kernel_rfl
theorem layE1_run (x0 x1 x4 len c : Nat) (a : Option Addr) (v : Nat → Value) (hc : layE x1 x0 x4 len ≠ 0 ∧ x1 ≤ 60000 ∧ len ≤ 9223372036854775807) : Run (callN Try.prog ([noS 147] : List (Smry Try.prog XE)) (fun _ _ => false) 100 20 71 [.c (.ptr 0 0), .c (.sliv a false len c)] ⟨[(0, arC x0 x1 x4 v)], 100⟩ (bN 5) (fun v' m _ => outM (.tup [(false, [.int true .u64 0]), (false, [.int false .i64 (layE x1 x0 x4 len)])]) [(0, arC x0 x1 x4 v)] v' m)) := by
  constructor
  rw [layE1_vc]
  obtain ⟨hc, h1, h2⟩ := hc
  unfold layE at *
  repeat' (with_reducible first | assumption | apply And.intro | exact trivial | exact Eq.refl _ | intro _)
  all_goals simp only [beq_iff_eq, beq_eq_false_iff_ne, decide_eq_true_eq, decide_eq_false_iff_not, ne_eq] at *
  all_goals first
    | omega
    | (rw [if_pos (by omega)])
    | (rw [if_neg (by omega), if_pos (by omega)])
    | (rw [if_neg (by omega), if_neg (by omega), if_pos (by omega)])
    | (exfalso; refine hc ?_; rw [if_neg (by omega), if_neg (by omega), if_neg (by omega)])
end Go.Proofs.Ytnfpkadepomjjaa
