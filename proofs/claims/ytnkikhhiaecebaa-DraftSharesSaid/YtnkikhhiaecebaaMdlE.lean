/- A model in memory; what memory may hold where there are models alone. -/
import Derived.Test.YtnkikhhiaecebaaHidB
import Derived.Test.YtnkikhhiaecebaaBaseC
import Derived.Test.YtnkikhhiaecebaaMdlA
import Derived.Test.YtnkikhhiaecebaaLays
set_option linter.all false
namespace Go.Proofs.Ytnkikhhiaecebaa
open Go Go.RowKit Go.Maps Go.Shelf

/-- No abstract objects. -/
def XN : EXT where
  X := Empty
  den := fun _ _ x => nomatch x
  names := fun x => nomatch x
  ren := fun _ x => x
  law := fun _ _ _ x => nomatch x
  rlaw := fun _ _ _ x => nomatch x
def qF (q : List Int) (i : Nat) : Int := q.getD i 0
def mdHeap (x : Md) (cap : Nat) : SH XN := match x.nilq with
  | true => [(0, .cells [.nls, .map 10, .map 11] 242), (10, .mp false x.ps), (11, .mp false x.ss)]
  | false => [(0, .cells [.sli 12 1 true 0 false x.q.length cap, .map 10, .map 11] 242), (10, .mp false x.ps), (11, .mp false x.ss), (12, .ints 3 .i64 x.q.length cap (qF x.q))]
def mdH : Hid XN := ⟨Md, Nat, mdHeap⟩
abbrev XM6 : EXT := XN.hid mdH
/-- A queue that is nil has nothing. -/
def MdWf (m : Md) : Prop := m.nilq = true → m.q = []

section
variable {E : EXT}
theorem read_two {g : FuncId} {a0 a1 : SV} {o0 o1 : SO E} {res : SV} {T : List (Smry Try.prog E)} {wr : FuncId → Nat → Bool} {LF k : Nat} {s : Scr E}
    (run : Run (callN Try.prog T wr LF k g [a0, a1] ⟨[(0, o0), (1, o1)], 100⟩ s fun v m _ => outM res [(0, o0), (1, o1)] v m)) (h0 : o0.names = []) (h1 : o1.names = []) (hr : res.names = [])
    {ν : Nat → Nat} {b0 b1 : Nat} {args : Array Value} (ha : args = ([a0, a1].map (SV.den (fun n => if n = 0 then b0 else b1))).toArray) {w w0 : World} {R : Assn} (H : Sat w (o0.den ν b0 * (o1.den ν b1 * R))) (HK : Kept w0 w) :
    Calls Try.prog g args w fun e w' => e = .returned (res.den ν) ∧ Sat w' (o0.den ν b0 * (o1.den ν b1 * R)) ∧ Kept w0 w' := by
  have law : ∀ (o : SO E), o.names = [] → ∀ (ν μ : Nat → Nat) b, o.den ν b = o.den μ b := fun o ho ν μ b => SO.den_eq o (by rw [ho]; intro n hn; cases hn)
  have H1 : Sat w ((⟨[(0, o0), (1, o1)], 100⟩ : Mem E).hp.den (fun n => if n = 0 then b0 else b1) * R) := by
    simp only [SH.den]
    rw [law o0 h0 _ ν, law o1 h1 _ ν]
    refine H.cast ?_
    simp only [if_true, show ¬ (1 = 0) by decide, if_false]
    rw [Assn.mul_comm _ (1 : Assn), Assn.one_mul, Assn.mul_assoc]
  subst ha
  refine (callN_ok namesOk mixed T wr LF k g _ ⟨[(0, o0), (1, o1)], 100⟩ s _ run.out _ w R w0 H1 HK).mono ?_
  rintro e w' ⟨v, m', s', ξ, hv, ag, _, he, hs, hk⟩
  obtain ⟨κ, ag2, hv2, hs⟩ := outM_sound hv hs
  have k0 : κ 0 = b0 := by rw [ag2 0 (by decide), ag 0 (show 0 < 100 by decide)]; rfl
  have k1 : κ 1 = b1 := by rw [ag2 1 (by decide), ag 1 (show 1 < 100 by decide)]; rfl
  refine ⟨by rw [he, hv2, den_any hr κ ν], ?_, hk⟩
  simp only [SH.den] at hs
  rw [law o0 h0 κ ν, law o1 h1 κ ν, k0, k1, Assn.mul_comm _ (1 : Assn), Assn.one_mul, Assn.mul_assoc] at hs
  exact hs
theorem read_one {g : FuncId} {ars : List SV} {o0 : SO E} {res : SV} {T : List (Smry Try.prog E)} {wr : FuncId → Nat → Bool} {LF k : Nat} {s : Scr E}
    (run : Run (callN Try.prog T wr LF k g ars ⟨[(0, o0)], 100⟩ s fun v m _ => outM res [(0, o0)] v m)) (h0 : o0.names = []) (hr : res.names = [])
    {ν : Nat → Nat} {b0 : Nat} {args : Array Value} (ha : args = (ars.map (SV.den (fun _ => b0))).toArray) {w w0 : World} {R : Assn} (H : Sat w (o0.den ν b0 * R)) (HK : Kept w0 w) :
    Calls Try.prog g args w fun e w' => e = .returned (res.den ν) ∧ Sat w' (o0.den ν b0 * R) ∧ Kept w0 w' := by
  have law : ∀ (o : SO E), o.names = [] → ∀ (ν μ : Nat → Nat) b, o.den ν b = o.den μ b := fun o ho ν μ b => SO.den_eq o (by rw [ho]; intro n hn; cases hn)
  have H1 : Sat w ((⟨[(0, o0)], 100⟩ : Mem E).hp.den (fun _ => b0) * R) := by
    simp only [SH.den]
    rw [law o0 h0 _ ν]
    refine H.cast ?_
    rw [Assn.mul_comm _ (1 : Assn), Assn.one_mul]
  subst ha
  refine (callN_ok namesOk mixed T wr LF k g _ ⟨[(0, o0)], 100⟩ s _ run.out _ w R w0 H1 HK).mono ?_
  rintro e w' ⟨v, m', s', ξ, hv, ag, _, he, hs, hk⟩
  obtain ⟨κ, ag2, hv2, hs⟩ := outM_sound hv hs
  have k0 : κ 0 = b0 := by rw [ag2 0 (by decide), ag 0 (show 0 < 100 by decide)]
  refine ⟨by rw [he, hv2, den_any hr κ ν], ?_, hk⟩
  simp only [SH.den] at hs
  rw [law o0 h0 κ ν, k0, Assn.mul_comm _ (1 : Assn), Assn.one_mul] at hs
  exact hs
end
/-- A range that is left: the map is a map again. -/
def rngAt {E : EXT} : SH E → Option Nat
  | [] => none
  | (r, .rng _ _ _ _) :: _ => some r
  | _ :: h => rngAt h
def unrngRun {E : EXT} (_ : SF) (m : Mem E) (K : Mem E → Prop) : Prop :=
  match rngAt m.hp with
  | some r => match m.hp.get r with
    | some (.rng b l _ _) => K ⟨(m.hp.del r).put b (.mp false l), m.nx⟩
    | _ => Stuck 863
  | none => Stuck 864
theorem unrng_ok {E : EXT} (f : SF) (m : Mem E) (K : Mem E → Prop) (h : unrngRun f m K) (ν : Nat → Nat) (w : World) (R : Assn) (hs : Sat w (m.hp.den ν * R)) :
    ∃ m' μ, K m' ∧ Agree m.nx ν μ ∧ m.nx ≤ m'.nx ∧ Sat w (m'.hp.den μ * R) := by
  unfold unrngRun at h
  split at h <;> try exact h.elim
  rename_i r _
  split at h <;> try exact h.elim
  rename_i b l done cur hr
  refine ⟨_, ν, h, Agree.refl _ _, Nat.le_refl _, ?_⟩
  rw [SH.den_get ν hr, Assn.mul_assoc] at hs
  have H1 : Sat w (rangingAt (ν r) (ν b) l (doneOf done cur) * ((m.hp.del r).den ν * R)) := by
    cases cur with
    | none => exact hs
    | some x => exact ranging1At_weak hs
  rw [SH.den_put, Assn.mul_assoc]
  exact rangingAt_map H1
def unrngG {E : EXT} : Ghost E := ⟨unrngRun, unrng_ok⟩
theorem maps_clone6 (b : Nat) (l : List (Int × Value)) (w : World) {R : Assn} (H : Sat w (mapAt b l * R)) : Calls Try.prog 136 #[.map (some b)] w fun e w' => ∃ c, e = .returned (.map (some c)) ∧ Sat w' (mapAt c l * (mapAt b l * R)) ∧ Below w.heap.size w w' := by
  obtain ⟨es, clock, hl, h⟩ := mapAt_open H
  refine (AnyW.maps_Clone mapsClone b es clock w h.block).mono ?_
  rintro e w' ⟨rfl, rfl⟩
  exact ⟨_, rfl, mapAt_shut hl ((H.alloc (.map es clock))), (Below.refl _ w).alloc (Nat.le_refl _) _⟩
/-- A map's copy. -/
def mcloneS : Smry Try.prog XN where
  g := 136
  run := fun args m K => match args with
    | [.c (.map n)] => match m.hp.get n with
      | some (.mp false l) => bif newOk m (.mp false l) then K (.c (.map m.nx)) (withNew m (.mp false l)) else Stuck 811
      | _ => Stuck 812
    | _ => Stuck 813
  ok := fun args m K hr => by
    split at hr <;> try exact hr.elim
    rename_i n
    split at hr <;> try exact hr.elim
    rename_i l hl
    cases hn : newOk m (SO.mp false l : SO XN) <;> rw [hn] at hr
    · exact hr.elim
    simp only [cond_true] at hr
    intro ν w R w0 Hs HK
    have H1 := Hs
    rw [SH.den_get ν hl, Assn.mul_assoc] at H1
    refine (maps_clone6 (ν n) l w H1).mono ?_
    rintro e w' ⟨c, rfl, hs, hb⟩
    have hs2 : Sat w' ((SO.mp false l : SO XN).den ν c * (m.hp.den ν * R)) := by
      rw [SH.den_get ν hl, Assn.mul_assoc]
      exact hs
    refine ⟨_, _, upd ν m.nx c, hr, Agree.upd (Nat.le_refl _) _, by unfold withNew; exact Nat.le_succ _, ?_, withNew_sat hn hs2, HK.below hb⟩
    simp only [List.map_cons, List.map_nil, SV.den, SC.den, upd_same]
end Go.Proofs.Ytnkikhhiaecebaa
