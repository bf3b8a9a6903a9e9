/- What is left of a count; an arena's tally. -/
import Derived.Test.YtnfpkadepomjjaaBaseS
import Derived.Test.YtnfpkadepomjjaaBaseC
set_option linter.all false
namespace Go.Proofs.Ytnfpkadepomjjaa
open Go Go.RowKit

def cntSC (g p : Value) (sg s t : Int) (a : Option Addr) (n cap : Nat) (f l by' : Int) : List SC := [.raw g, .raw p, .int false .u64 sg, .int false .i64 s, .int false .i64 t, .sliv a false n cap, .int false .i64 f, .int false .i64 l, .int false .u64 by']
set_option maxRecDepth 1000000 in
theorem left_run (K : SV → MX → Scr XE → Prop) (g p : Value) (sg s t : Int) (a : Option Addr) (n cap : Nat) (f l by' : Int) : callN Try.prog ([] : List (Smry Try.prog XE)) (fun _ _ => false) 100 20 135 [.c (.ptr 0 0)] ⟨[(0, .cells (cntSC g p sg s t a n cap f l by') 175)], 1⟩ (.f .nil) K =
    (((n : Int) == (0 : Int)) = false ∧ K (.tup [(false, [.int false .i64 f]), (false, [.int false .i64 l])]) ⟨[(0, .cells (cntSC g p sg s t a n cap f l by') 175)], 23⟩ .nil) := by
  kernel_rfl
set_option maxRecDepth 100000 in
theorem count_left (c p : Nat) (st : Cnt) (w : World) {R : Assn} (H : Sat w (cntAt c p st * R)) :
    Calls Try.prog 135 #[.pointer (some ⟨c, 0, none⟩)] w fun e w' => e = .returned (.tuple #[.int .i64 st.first, .int .i64 st.last]) ∧ Sat w' (cntAt c p st * R) ∧ Kept w w' := by
  obtain ⟨pv, H1⟩ := H.ex_mul
  have H2 := H1.cast (Assn.mul_assoc _ _ _)
  have H3 : Sat w (rowAt 3 pv (ints (pathOf st.s)) * (own c (.cells (cntCells (cntGear c st) p st pv) 175 (0, 0)) * R)) := H2.cast (by ac_rfl)
  obtain ⟨g, cap, n, hn, rfl⟩ : ∃ g cap n, 0 < n ∧ pv = .slice (some ⟨g, 0, none⟩) n cap := by
    rcases rowAt_open H3 with ⟨_, h, _⟩ | ⟨g, cap, cur, h, _⟩
    · simp [ints, pathOf, pathF] at h
    · exact ⟨g, cap, _, by simp [ints, pathOf, pathF], h⟩
  have ec : cntCells (cntGear c st) p st (.slice (some ⟨g, 0, none⟩) n cap) = (SC.denL (fun _ => c) (cntSC (cntGear c st) (.pointer (some ⟨p, 0, none⟩)) st.sg st.s (segG st.s) (some ⟨g, 0, none⟩) n cap st.first st.last st.by')).toArray := rfl
  rw [ec] at H2
  have H4 : Sat w (SH.den (fun _ => c) (⟨[(0, .cells (cntSC (cntGear c st) (.pointer (some ⟨p, 0, none⟩)) st.sg st.s (segG st.s) (some ⟨g, 0, none⟩) n cap st.first st.last st.by') 175)], 1⟩ : MX).hp * (rowAt 3 (.slice (some ⟨g, 0, none⟩) n cap) (ints (pathOf st.s)) * R)) := by
    simp only [SH.den, SO.den]
    exact H2.cast (by rw [Assn.mul_assoc, Assn.one_mul])
  have hrun := left_run (fun v m _ => v = .tup [(false, [.int false .i64 (st.first : Nat)]), (false, [.int false .i64 (st.last : Nat)])] ∧ m.hp = [(0, .cells (cntSC (cntGear c st) (.pointer (some ⟨p, 0, none⟩)) st.sg st.s (segG st.s) (some ⟨g, 0, none⟩) n cap st.first st.last st.by') 175)]) (cntGear c st) (.pointer (some ⟨p, 0, none⟩)) st.sg st.s (segG st.s) (some ⟨g, 0, none⟩) n cap st.first st.last st.by'
  have h5 := hrun.mpr ⟨by rw [beq_eq_false_iff_ne]; omega, rfl, rfl⟩
  refine (callN_ok namesOk mixed _ _ _ _ _ _ _ _ _ h5 (fun _ => c) w _ w H4 (Kept.refl w)).mono ?_
  rintro e w' ⟨v, m', s', μ, ⟨rfl, hm⟩, ag, _, he, hs, hk⟩
  rw [hm] at hs
  have h0 : μ 0 = c := ag 0 (by simp)
  simp only [SH.den, SO.den, h0] at hs
  refine ⟨by rw [he]; rfl, ?_, hk⟩
  refine Sat.mk_ex_mul (.slice (some ⟨g, 0, none⟩) n cap) ?_
  rw [ec]
  exact hs.cast (by rw [Assn.mul_comm _ (1 : Assn), Assn.one_mul]; ac_rfl)
/-- An arena's cells, of which the last six are told. -/
def arSC (z : Nat → Int) (c : Nat → Value) : List SC := [.raw (c 0), .raw (c 1), .raw (c 2), .raw (c 3), .raw (c 4), .raw (c 5), .raw (c 6), .raw (c 7), .raw (c 8), .raw (c 9), .raw (c 10), .raw (c 11), .raw (c 12), .raw (c 13), .raw (c 14), .raw (c 15),
  .int false .i64 (z 0), .int false .i64 (z 1), .int false .i64 (z 2), .int false .i64 (z 3), .int false .i64 (z 4), .int false .i64 (z 5)]
def tlySC (z : Nat → Int) : List SC := [.int false .i64 (z 0), .int false .i64 (z 1), .int false .i64 (z 2), .int false .i64 (z 3), .int false .i64 (z 4), .int false .i64 (z 5)]
set_option maxRecDepth 1000000 in
theorem tally_run (K : SV → MX → Scr XE → Prop) (z : Nat → Int) (c : Nat → Value) : callN Try.prog ([] : List (Smry Try.prog XE)) (fun _ _ => false) 100 20 15 [.c (.ptr 0 0)] ⟨[(0, .cells (arSC z c) 173)], 1⟩ .nil K =
    K (.agg (tlySC z)) ⟨[(0, .cells (arSC z c) 173), (1, .cells (tlySC z) 29)], 9⟩ .nil := by
  kernel_rfl
def tlyZ (t : Tly) (i : Nat) : Int := [wr64 t.lays, wr64 t.frees, wr64 t.reads, wr64 t.writes, wr64 t.swaps, wr64 t.adds].getD i 0
set_option maxRecDepth 100000 in
theorem ar_tally (p : Nat) (A : Ar) (w : World) {R : Assn} (H : Sat w (arAt p A * R)) :
    Calls Try.prog 15 #[.pointer (some ⟨p, 0, none⟩)] w fun e w' => e = .returned (.agg (tlyCells A.t).toArray) ∧ Sat w' (arAt p A * R) ∧ Kept w w' := by
  obtain ⟨ps, pb, hi, H1⟩ := arAt_open H
  have ec : arCells A ps pb = (SC.denL (fun _ => p) (arSC (tlyZ A.t) fun i => (arCells A ps pb).getD i undef)).toArray := rfl
  rw [ec] at H1
  have H2 : Sat w (SH.den (fun _ => p) (⟨[(0, .cells (arSC (tlyZ A.t) fun i => (arCells A ps pb).getD i undef) 173)], 1⟩ : MX).hp * (stkAt ps A.s * (mapAt pb (A.bs.map ent) * (rowsAt A.bs * R)))) := by
    simp only [SH.den, SO.den]
    exact H1.cast (by rw [Assn.mul_assoc, Assn.one_mul])
  refine (callN_ok namesOk mixed _ _ _ _ _ _ _ _ (fun v m _ => v = .agg (tlySC (tlyZ A.t)) ∧ m.hp = [(0, .cells (arSC (tlyZ A.t) fun i => (arCells A ps pb).getD i undef) 173), (1, .cells (tlySC (tlyZ A.t)) 29)]) (by rw [tally_run]; exact ⟨rfl, rfl⟩) (fun _ => p) w _ w H2 (Kept.refl w)).mono ?_
  rintro e w' ⟨v, m', s', μ, ⟨rfl, hm⟩, ag, _, he, hs, hk⟩
  rw [hm] at hs
  have h0 : μ 0 = p := ag 0 (by simp)
  simp only [SH.den, SO.den, h0] at hs
  refine ⟨by rw [he]; rfl, ?_, hk⟩
  refine arAt_shut (ps := ps) (pb := pb) hi ?_
  have hs1 : Sat w' (own (μ 1) (.cells (SC.denL μ (tlySC (tlyZ A.t))).toArray 29 (0, 0)) * (own p (.cells (SC.denL μ (arSC (tlyZ A.t) fun i => (arCells A ps pb).getD i undef)).toArray 173 (0, 0)) * (stkAt ps A.s * (mapAt pb (A.bs.map ent) * (rowsAt A.bs * R))))) := hs.cast (by rw [Assn.mul_comm _ (1 : Assn), Assn.one_mul]; ac_rfl)
  exact hs1.right
def tallyX : Smry Try.prog XE where
  g := 15
  run := fun args m K => match args with
    | [.c (.ptr n 0)] => match m.hp.get n with
      | some (.ext (.ar A)) => K (.agg (tlySC (tlyZ A.t))) ⟨m.hp.set n (arO A), m.nx⟩
      | _ => Stuck 762
    | _ => Stuck 763
  ok := fun args m K hr => by
    split at hr <;> try exact hr.elim
    split at hr <;> try exact hr.elim
    rename_i A hA
    exact gives_ext hA hr fun ν w R H => ar_tally _ A w H
def leftX : Smry Try.prog XE where
  g := 135
  run := fun args m K => match args with
    | [.c (.ptr c 0)] => match m.hp.get c with
      | some (.ext (.cnt p st)) => K (.tup [(false, [.int false .i64 (st.first : Nat)]), (false, [.int false .i64 (st.last : Nat)])]) ⟨m.hp.set c (cntO p st), m.nx⟩
      | _ => Stuck 764
    | _ => Stuck 765
  ok := fun args m K hr => by
    split at hr <;> try exact hr.elim
    rename_i c
    split at hr <;> try exact hr.elim
    rename_i p st hc
    exact gives_ext hc hr fun ν w R H => count_left (ν c) (ν p) st w H
end Go.Proofs.Ytnfpkadepomjjaa

/- The arena as data that is known through and through, for closed runs: each call reckons what it leaves. -/
namespace Go.Proofs.Ytnfpkadepomjjaa
open Go Go.RowKit
set_option maxRecDepth 100000

structure PA where
  cap : Nat
  used : Nat
  peak : Nat
  faults : Nat
  births : Nat
  fx : List Nat
  high : Nat
  us : List Nat
  bk : List Nat
  bs : List (Nat × Nat × List Nat)
  t : Tly
def blksOf (z : Nat → Value) : Nat → List (Nat × Nat × List Nat) → List Blk
  | _, [] => []
  | i, (n, h, ws) :: l => ⟨n, h, ws, z i⟩ :: blksOf z (i + 1) l
def PA.ar (x : PA) (z : Nat → Value) : Ar where
  cap := x.cap
  used := x.used
  peak := x.peak
  faults := x.faults
  births := x.births
  fixed := fun i => x.fx.getD i 0
  s := ⟨x.high, x.us, x.bk⟩
  bs := blksOf z 0 x.bs
  t := x.t
def parH : Hid XE := ⟨PA, Nat → Value, fun x z => [(0, arO (x.ar z))]⟩
abbrev XP : EXT := XE.hid parH
abbrev MP := Mem XP
abbrev parO (x : PA) : SO XP := .ext (HO.obj [] x)
theorem par_open {ν : Nat → Nat} {b : Nat} {x : PA} {w : World} {R : Assn} (H : Sat w ((parO x).den ν b * R)) : ∃ z, Sat w (arAt b (x.ar z) * R) := by
  obtain ⟨μ, H⟩ := H.ex_mul
  obtain ⟨z, H⟩ := H.ex_mul
  rw [Assn.mul_assoc] at H
  obtain ⟨hn, H⟩ := H.pure_mul
  refine ⟨z, H.cast ?_⟩
  simp only [parH, SH.den, SO.den, XE, XO.den, hn.1]
  rw [Assn.mul_comm _ (1 : Assn), Assn.one_mul]
theorem par_shut {ν : Nat → Nat} {b : Nat} {x : PA} {w : World} {R : Assn} {z : Nat → Value} (H : Sat w (arAt b (x.ar z) * R)) : Sat w ((parO x).den ν b * R) := by
  refine Sat.mk_ex_mul (fun _ => b) (Sat.mk_ex_mul z ?_)
  rw [Assn.mul_assoc]
  refine Sat.mk_pure_mul ⟨rfl, fun i n h => by simp at h⟩ (H.cast ?_)
  simp only [parH, SH.den, SO.den, XE, XO.den]
  rw [Assn.mul_comm _ (1 : Assn), Assn.one_mul]

def forceNs {α : Type} (K : List Nat → α) : List Nat → α
  | [] => K []
  | x :: l => forceN x fun x => forceNs (fun l => K (x :: l)) l
theorem forceNs_eq {α : Type} : ∀ (l : List Nat) (K : List Nat → α), forceNs K l = K l
  | [], _ => rfl
  | x :: l, K => by simp only [forceNs, forceN_eq, forceNs_eq l]
def forceBs {α : Type} (K : List (Nat × Nat × List Nat) → α) : List (Nat × Nat × List Nat) → α
  | [] => K []
  | (n, h, ws) :: l => forceN n fun n => forceN h fun h => forceNs (fun ws => forceBs (fun l => K ((n, h, ws) :: l)) l) ws
theorem forceBs_eq {α : Type} : ∀ (l : List (Nat × Nat × List Nat)) (K : List (Nat × Nat × List Nat) → α), forceBs K l = K l
  | [], _ => rfl
  | (n, h, ws) :: l, K => by simp only [forceBs, forceN_eq, forceNs_eq, forceBs_eq l]
def forceTly {α : Type} (K : Tly → α) : Tly → α
  | ⟨a, b, c, d, e, f⟩ => forceN a fun a => forceN b fun b => forceN c fun c => forceN d fun d => forceN e fun e => forceN f fun f => K ⟨a, b, c, d, e, f⟩
theorem forceTly_eq {α : Type} (t : Tly) (K : Tly → α) : forceTly K t = K t := by cases t; simp only [forceTly, forceN_eq]
def forcePA {α : Type} (K : PA → α) : PA → α
  | ⟨cap, used, peak, faults, births, fx, high, us, bk, bs, t⟩ => forceN cap fun cap => forceN used fun used => forceN peak fun peak => forceN faults fun faults => forceN births fun births =>
      forceNs (fun fx => forceN high fun high => forceNs (fun us => forceNs (fun bk => forceBs (fun bs => forceTly (fun t => K ⟨cap, used, peak, faults, births, fx, high, us, bk, bs, t⟩) t) bs) bk) us) fx
theorem forcePA_eq {α : Type} (x : PA) (K : PA → α) : forcePA K x = K x := by cases x; simp only [forcePA, forceN_eq, forceNs_eq, forceBs_eq, forceTly_eq]

theorem beq_dec (a b : Nat) : Nat.beq a b = decide (a = b) := by
  by_cases e : a = b
  · subst e; simp
  · rw [decide_eq_false e]
    cases hb : Nat.beq a b
    · rfl
    · exact absurd (Nat.eq_of_beq_eq_true hb) e
def findP (h : Nat) : List (Nat × Nat × List Nat) → Option (List Nat)
  | [] => none
  | (_, h', ws) :: l => bif Nat.beq h' h then some ws else findP h l
theorem findP_eq (z : Nat → Value) (h : Nat) : ∀ (l : List (Nat × Nat × List Nat)) (i : Nat), ((blksOf z i l).find? fun b => b.h == h).map (·.ws) = findP h l
  | [], _ => rfl
  | (n, h', ws) :: l, i => by
    simp only [blksOf, List.find?_cons, findP]
    rw [beq_dec]
    by_cases e : h' = h
    · subst e; simp
    · rw [beq_eq_false_iff_ne.2 e, decide_eq_false e]
      exact findP_eq z h l (i + 1)
def PA.word (x : PA) (h i : Nat) : Option Nat := bif Nat.beq h 0 then (bif Nat.blt i 9 then some (x.fx.getD i 0) else none) else match findP h x.bs with
  | some ws => ws[i]?
  | none => none
theorem PA.word_eq (x : PA) (z : Nat → Value) (h i : Nat) : (x.ar z).word h i = x.word h i := by
  unfold Ar.word PA.word
  rw [beq_dec]
  by_cases e : h = 0
  · rw [if_pos e, decide_eq_true e, cond_true]
    by_cases e' : i < 9
    · rw [if_pos e', show Nat.blt i 9 = true by rw [Nat.blt_eq]; exact e']; rfl
    · rw [if_neg e']
      cases hb : Nat.blt i 9
      · rfl
      · rw [Nat.blt_eq] at hb; exact absurd hb e'
  · rw [if_neg e, decide_eq_false e, cond_false]
    have := findP_eq z h x.bs 0
    unfold Ar.find
    rw [← this]
    show Option.bind (List.find? (fun b => b.h == h) (blksOf z 0 x.bs)) _ = _
    cases List.find? (fun b => b.h == h) (blksOf z 0 x.bs) <;> rfl
def setPA (h i y : Nat) : List (Nat × Nat × List Nat) → List (Nat × Nat × List Nat)
  | [] => []
  | (n, h', ws) :: l => (bif Nat.beq h' h then (n, h', ws.set i y) else (n, h', ws)) :: setPA h i y l
theorem setPA_eq (z : Nat → Value) (h i y : Nat) : ∀ (l : List (Nat × Nat × List Nat)) (k : Nat), blksOf z k (setPA h i y l) = (blksOf z k l).map (setBlk h i y)
  | [], _ => rfl
  | (n, h', ws) :: l, k => by
    simp only [setPA, blksOf, List.map_cons, setBlk]
    rw [beq_dec]
    by_cases e : h' = h
    · rw [decide_eq_true e, cond_true, if_pos e]
      simp only [blksOf]
      rw [setPA_eq z h i y l]
    · rw [decide_eq_false e, cond_false, if_neg e]
      simp only [blksOf]
      rw [setPA_eq z h i y l]
def PA.set (x : PA) (h i y : Nat) : PA := bif Nat.beq h 0 then { x with fx := x.fx.set i y } else { x with bs := setPA h i y x.bs }
theorem PA.set_eq (x : PA) (z : Nat → Value) (h i y : Nat) (hi : h = 0 → i < x.fx.length) : (x.ar z).set h i y = (x.set h i y).ar z := by
  unfold Ar.set PA.set
  rw [beq_dec]
  by_cases e : h = 0
  · rw [if_pos e, decide_eq_true e, cond_true]
    simp only [PA.ar]
    congr 1
    funext j
    have := hi e
    by_cases ej : j = i
    · subst ej
      rw [if_pos rfl, List.getD_eq_getElem?_getD, List.getElem?_set_self this]; rfl
    · rw [if_neg ej, List.getD_eq_getElem?_getD, List.getD_eq_getElem?_getD, List.getElem?_set_ne (Ne.symm ej)]
  · rw [if_neg e, decide_eq_false e, cond_false]
    simp only [PA.ar]
    congr 1
    exact (setPA_eq z h i y x.bs 0).symm
def PA.tick (x : PA) (f : Tly → Tly) : PA := { x with t := f x.t }
theorem PA.tick_eq (x : PA) (z : Nat → Value) (f : Tly → Tly) : (x.ar z).tick f = (x.tick f).ar z := rfl

/-- A call that turns the arena alone, told where it is known: its arguments are numbers. -/
theorem par_gives {S : Smry Try.prog XE} {n : Nat} {xs : List SV} {m : MP} {K : SV → MP → Prop} {x y : PA} {v : SV} (hx : m.hp.get n = some (parO x)) (hv : v.names = []) (has : ∀ a ∈ xs, a.names = [])
    (run : ∀ z, S.run (.c (.ptr 0 0) :: xs) ⟨[(0, arO (x.ar z))], 1⟩ fun u m' => u = v ∧ ∃ z', m'.hp = [(0, arO (y.ar z'))])
    (hk : K v ⟨m.hp.set n (parO y), m.nx⟩) : Gives Try.prog S.g (.c (.ptr n 0) :: xs) m K := fun ν w R w0 H HK => by
  rw [SH.den_get ν hx, Assn.mul_assoc] at H
  obtain ⟨z, H⟩ := par_open H
  have H1 : Sat w ((⟨[(0, arO (x.ar z))], 1⟩ : MX).hp.den (fun _ => ν n) * ((m.hp.del n).den ν * R)) := H.cast (by
    simp only [SH.den, SO.den, XE, XO.den]
    rw [Assn.mul_comm (arAt _ _) (1 : Assn), Assn.one_mul])
  have eargs : (SV.c (.ptr n 0) :: xs).map (SV.den ν) = (SV.c (.ptr 0 0) :: xs).map (SV.den fun _ => ν n) := by
    simp only [List.map_cons]
    congr 1
    apply List.map_congr_left
    intro u hu
    exact SV.den_eq u (by rw [has u hu]; intro k hk; cases hk)
  rw [eargs]
  refine (S.ok _ _ _ (run z) (fun _ => ν n) w _ w0 H1 HK).mono ?_
  rintro e w' ⟨u, m', μ, ⟨rfl, z', hm⟩, ag, hn, he, hs, hk'⟩
  have h0 : μ 0 = ν n := ag 0 (Nat.lt_succ_self 0)
  rw [hm] at hs
  refine ⟨_, _, ν, hk, Agree.refl _ _, Nat.le_refl _, ?_, ?_, hk'⟩
  · rw [he]
    congr 1
    exact SV.den_eq u (by rw [hv]; intro k hk; cases hk)
  · rw [SH.den_set ν hx, Assn.mul_assoc]
    refine par_shut (z := z') (hs.cast ?_)
    simp only [SH.den, SO.den, XE, XO.den, h0]
    rw [Assn.mul_comm (arAt _ _) (1 : Assn), Assn.one_mul]
/-- The numbers of a call's arguments. -/
def hasP (x : PA) (h i : Int) : Bool := (leI 0 h && leI h 18446744073709551615) && (leI 0 i && ((x.word h.toNat i.toNat).isSome && Nat.blt 8 x.fx.length))
theorem hasP_ok {x : PA} {h i : Int} (e : hasP x h i = true) (z : Nat → Value) : (x.ar z).Has h i ∧ (x.ar z).rd h i = (x.word h.toNat i.toNat).getD 0 ∧ (h.toNat = 0 → i.toNat < x.fx.length) := by
  unfold hasP at e
  simp only [Bool.and_eq_true] at e
  have h1 := leI_le e.1.1
  have h2 := leI_le e.1.2
  have h3 := leI_le e.2.1
  have h5 := e.2.2.2
  rw [Nat.blt_eq] at h5
  refine ⟨⟨h1, by omega, h3, by rw [PA.word_eq]; exact e.2.2.1⟩, by unfold Ar.rd; rw [PA.word_eq], fun h0 => ?_⟩
  have h4 := e.2.2.1
  unfold PA.word at h4
  rw [h0] at h4
  simp only [Nat.beq, cond_true] at h4
  cases hb : Nat.blt i.toNat 9 <;> rw [hb] at h4
  · cases h4
  · rw [Nat.blt_eq] at hb
    omega
def PA.read (x : PA) : PA := x.tick fun t => { t with reads := t.reads + 1 }
def PA.write (x : PA) (h i y : Nat) : PA := (x.set h i y).tick fun t => { t with writes := t.writes + 1 }
def PA.add (x : PA) (h i y : Nat) : PA := (x.set h i (addW ((x.word h i).getD 0) y)).tick fun t => { t with adds := t.adds + 1 }
def PA.swap (x : PA) (h i o y : Nat) : PA := (bif Nat.beq ((x.word h i).getD 0) o then x.set h i y else x).tick fun t => { t with swaps := t.swaps + 1 }
def u64B (y : Int) : Bool := leI 0 y && leI y 18446744073709551615
theorem u64B_ok {y : Int} (h : u64B y = true) : 0 ≤ y ∧ y < 18446744073709551616 := by
  unfold u64B at h
  simp only [Bool.and_eq_true] at h
  have h1 := leI_le h.1
  have h2 := leI_le h.2
  omega
/-- What it goes on with: all reckoned. -/
def goP (m : MP) (n : Nat) (v : SV) (y : PA) (K : SV → MP → Prop) : Prop := knV (fun u => forcePA (fun y => K u ⟨m.hp.set n (parO y), m.nx⟩) y) v
theorem goP_of {m : MP} {n : Nat} {v : SV} {y : PA} {K : SV → MP → Prop} (h : goP m n v y K) : ∃ u, K u ⟨m.hp.set n (parO y), m.nx⟩ ∧ ∀ ν, u.den ν = v.den ν := by
  obtain ⟨u, hu, e⟩ := knV_of h
  rw [forcePA_eq] at hu
  exact ⟨u, hu, e⟩
theorem gives_den {g : FuncId} {args : List SV} {m m' : MP} {K : SV → MP → Prop} {u v : SV} (e : ∀ ν, u.den ν = v.den ν) (hu : K u m') (h : Gives Try.prog g args m fun v' m'' => v' = v ∧ m'' = m') : Gives Try.prog g args m K := fun ν w R w0 H HK => (h ν w R w0 H HK).mono fun e' w' ⟨v', m'', μ, ⟨hv, hm⟩, ag, hn, he, hs, hk⟩ => by
  subst hv hm
  exact ⟨u, _, μ, hu, ag, hn, by rw [he, e], hs, hk⟩
def readP : Smry Try.prog XP where
  g := readX.g
  run := fun args m K => match args with
    | [.c (.ptr n 0), .agg [.int _ .u64 h _, .int _ .i64 i _]] => match m.hp.get n with
      | some (.ext (.obj [] x)) => bif hasP x h i then goP m n (.tup [nat64 ((x.word h.toNat i.toNat).getD 0), okE]) (PA.read x) K else Stuck 870
      | _ => Stuck 871
    | _ => Stuck 872
  ok := fun args m K hr => by
    split at hr <;> try exact hr.elim
    rename_i n l1 h b1 l2 i b2
    split at hr <;> try exact hr.elim
    rename_i x hx
    cases hb : hasP x h i <;> rw [hb] at hr
    · exact hr.elim
    obtain ⟨u, hu, e⟩ := goP_of hr
    refine gives_den e hu (par_gives (S := readX) hx rfl (by intro a ha; simp only [List.mem_singleton] at ha; subst ha; rfl) (fun z => ?_) ⟨rfl, rfl⟩)
    obtain ⟨h1, h2, _⟩ := hasP_ok hb z
    simp only [readX, SH.get, if_true]
    exact ⟨h1, by rw [h2], z, rfl⟩
def writeP : Smry Try.prog XP where
  g := writeX.g
  run := fun args m K => match args with
    | [.c (.ptr n 0), .agg [.int _ .u64 h _, .int _ .i64 i _], .c (.int _ .u64 y _)] => match m.hp.get n with
      | some (.ext (.obj [] x)) => bif hasP x h i && u64B y then goP m n (.c (.int true .i64 0)) (PA.write x h.toNat i.toNat y.toNat) K else Stuck 873
      | _ => Stuck 874
    | _ => Stuck 875
  ok := fun args m K hr => by
    split at hr <;> try exact hr.elim
    rename_i n l1 h b1 l2 i b2 l3 y b3
    split at hr <;> try exact hr.elim
    rename_i x hx
    cases hb : hasP x h i && u64B y <;> rw [hb] at hr
    · exact hr.elim
    simp only [Bool.and_eq_true] at hb
    obtain ⟨u, hu, e⟩ := goP_of hr
    refine gives_den e hu (par_gives (S := writeX) hx rfl (by intro a ha; simp only [List.mem_cons, List.not_mem_nil, or_false] at ha; rcases ha with rfl | rfl <;> rfl) (fun z => ?_) ⟨rfl, rfl⟩)
    obtain ⟨h1, h2, h3⟩ := hasP_ok hb.1 z
    simp only [writeX, SH.get, if_true]
    refine ⟨h1, u64B_ok hb.2, trivial, z, ?_⟩
    simp only [SH.set, if_true]
    rw [Ar.write, PA.set_eq x z _ _ _ h3]
    rfl
def addP : Smry Try.prog XP where
  g := addX.g
  run := fun args m K => match args with
    | [.c (.ptr n 0), .agg [.int _ .u64 h _, .int _ .i64 i _], .c (.int _ .u64 y _)] => match m.hp.get n with
      | some (.ext (.obj [] x)) => bif hasP x h i && u64B y then goP m n (.tup [nat64 ((x.word h.toNat i.toNat).getD 0), okE]) (PA.add x h.toNat i.toNat y.toNat) K else Stuck 876
      | _ => Stuck 877
    | _ => Stuck 878
  ok := fun args m K hr => by
    split at hr <;> try exact hr.elim
    rename_i n l1 h b1 l2 i b2 l3 y b3
    split at hr <;> try exact hr.elim
    rename_i x hx
    cases hb : hasP x h i && u64B y <;> rw [hb] at hr
    · exact hr.elim
    simp only [Bool.and_eq_true] at hb
    obtain ⟨u, hu, e⟩ := goP_of hr
    refine gives_den e hu (par_gives (S := addX) hx rfl (by intro a ha; simp only [List.mem_cons, List.not_mem_nil, or_false] at ha; rcases ha with rfl | rfl <;> rfl) (fun z => ?_) ⟨rfl, rfl⟩)
    obtain ⟨h1, h2, h3⟩ := hasP_ok hb.1 z
    simp only [addX, SH.get, if_true]
    refine ⟨h1, u64B_ok hb.2, by rw [h2], z, ?_⟩
    simp only [SH.set, if_true]
    rw [Ar.add, h2, PA.set_eq x z _ _ _ h3]
    rfl
def swapP : Smry Try.prog XP where
  g := swapX.g
  run := fun args m K => match args with
    | [.c (.ptr n 0), .agg [.int _ .u64 h _, .int _ .i64 i _], .c (.int _ .u64 o _), .c (.int _ .u64 y _)] => match m.hp.get n with
      | some (.ext (.obj [] x)) => bif hasP x h i && (u64B y && u64B o) then goP m n (.tup [(false, [.boo true (Nat.beq ((x.word h.toNat i.toNat).getD 0) o.toNat)]), okE]) (PA.swap x h.toNat i.toNat o.toNat y.toNat) K else Stuck 879
      | _ => Stuck 880
    | _ => Stuck 881
  ok := fun args m K hr => by
    split at hr <;> try exact hr.elim
    rename_i n l1 h b1 l2 i b2 l4 o b4 l3 y b3
    split at hr <;> try exact hr.elim
    rename_i x hx
    cases hb : hasP x h i && (u64B y && u64B o) <;> rw [hb] at hr
    · exact hr.elim
    simp only [Bool.and_eq_true] at hb
    obtain ⟨u, hu, e⟩ := goP_of hr
    have ho := u64B_ok hb.2.2
    have hbo : ∀ r : Nat, decide ((r : Int) = o) = Nat.beq r o.toNat := fun r => by
      rw [beq_dec]
      apply decide_eq_decide.2
      omega
    refine gives_den e hu (gives_den (u := .tup [(false, [.boo true (Nat.beq ((x.word h.toNat i.toNat).getD 0) o.toNat)]), okE]) (v := .tup [(false, [.boo false (Nat.beq ((x.word h.toNat i.toNat).getD 0) o.toNat)]), okE]) (fun _ => rfl) ⟨rfl, rfl⟩ (par_gives (S := swapX) hx rfl (by intro a ha; simp only [List.mem_cons, List.not_mem_nil, or_false] at ha; rcases ha with rfl | rfl | rfl <;> rfl) (fun z => ?_) ⟨rfl, rfl⟩))
    obtain ⟨h1, h2, h3⟩ := hasP_ok hb.1 z
    simp only [swapX, SH.get, if_true]
    refine ⟨h1, u64B_ok hb.2.1, ho.1, by rw [h2, hbo], z, ?_⟩
    simp only [SH.set, if_true]
    rw [Ar.swap, h2, PA.set_eq x z _ _ _ h3]
    unfold PA.swap
    rw [← hbo]
    by_cases ho' : ((((x.word h.toNat i.toNat).getD 0 : Nat)) : Int) = o
    · rw [if_pos ho', decide_eq_true ho']; rfl
    · rw [if_neg ho', decide_eq_false ho']; rfl
def PA.new (cap : Nat) : PA := ⟨cap, 0, 0, 0, 0, [0, 0, 0, 0, 0, 0, 0, 0, 0], 0, [], [], [], ⟨0, 0, 0, 0, 0, 0⟩⟩
theorem PA.new_eq (cap : Nat) (z : Nat → Value) : Ar.new cap = (PA.new cap).ar z := by
  simp only [Ar.new, PA.new, PA.ar, blksOf]
  congr 1
  funext i
  match i with
  | 0 | 1 | 2 | 3 | 4 | 5 | 6 | 7 | 8 => rfl
  | n + 9 => rfl
/-- A new object of another kind, put beside. -/
theorem par_new {m : MP} {x : PA} (h : newOk m (parO x) = true) {ν : Nat → Nat} {w : World} {R : Assn} {b : Nat} {z : Nat → Value} (H : Sat w (arAt b (x.ar z) * (m.hp.den ν * R))) : Sat w ((withNew m (parO x)).hp.den (upd ν m.nx b) * R) :=
  withNew_sat h (par_shut H)
def newP : Smry Try.prog XP where
  g := newX.g
  run := fun args m K => match args with
    | [.c (.int _ .i64 c _)] => bif (leI 0 c && leI c 60000) && newOk m (parO (PA.new c.toNat)) then forcePA (fun x => K (.tup [(false, [.ptr m.nx 0]), okE]) (withNew m (parO x))) (PA.new c.toNat) else Stuck 882
    | _ => Stuck 883
  ok := fun args m K hr => by
    split at hr <;> try exact hr.elim
    rename_i l c bc
    cases hb : (leI 0 c && leI c 60000) && newOk m (parO (PA.new c.toNat)) <;> rw [hb] at hr
    · exact hr.elim
    simp only [cond_true, forcePA_eq] at hr
    simp only [Bool.and_eq_true] at hb
    have h0 := leI_le hb.1.1
    have h1 := leI_le hb.1.2
    intro ν w R w0 H HK
    obtain ⟨c, rfl⟩ : ∃ z : Nat, c = z := ⟨c.toNat, by omega⟩
    refine (arenaNew c w H (by omega)).mono fun e w' ⟨p, he, hs, hk'⟩ => ⟨_, _, upd ν m.nx p, hr, Agree.upd (Nat.le_refl _) _, Nat.le_succ _, ?_, ?_, HK.trans hk'⟩
    · rw [he]
      simp [SV.den, SC.den, SC.denL, partDen, okE, upd_same]
    · rw [PA.new_eq c fun _ => undef] at hs
      exact par_new hb.2 hs
/-- Lay. -/
def appB (n h : Nat) (ws : List Nat) : List (Nat × Nat × List Nat) → List (Nat × Nat × List Nat)
  | [] => [(n, h, ws)]
  | x :: l => x :: appB n h ws l
theorem appB_eq {z : Nat → Value} {v : Value} {n h : Nat} {ws : List Nat} : ∀ (l : List (Nat × Nat × List Nat)) (k : Nat), ∃ z' : Nat → Value, blksOf z' k (appB n h ws l) = blksOf z k l ++ [⟨n, h, ws, v⟩]
  | l, k => by
    refine ⟨fun i => if i = k + l.length then v else z i, ?_⟩
    induction l generalizing k with
    | nil => simp [appB, blksOf]
    | cons x l ih =>
      obtain ⟨n', h', ws'⟩ := x
      simp only [appB, blksOf, List.length_cons, List.cons_append]
      rw [if_neg (by omega)]
      congr 1
      have := ih (k + 1)
      rw [show k + 1 + l.length = k + (l.length + 1) by omega] at this
      exact this
def PA.hdl (x : PA) : Nat := (x.births + 1) * 65536 + (x.high + 1)
def PA.lay (x : PA) (ws : List Nat) : PA := { x with used := x.used + ws.length, peak := max x.peak (x.used + ws.length), births := x.births + 1, high := x.high + 1, us := x.us ++ [x.high + 1], bs := appB (x.high + 1) x.hdl ws x.bs, t := { x.t with lays := x.t.lays + 1 } }
theorem PA.lay_eq (x : PA) (z : Nat → Value) (ws : List Nat) (v : Value) : ∃ z', (x.ar z).lay ws v = (x.lay ws).ar z' := by
  obtain ⟨z', h⟩ := appB_eq (z := z) (v := v) (n := x.high + 1) (h := x.hdl) (ws := ws) x.bs 0
  refine ⟨z', ?_⟩
  simp only [Ar.lay, PA.lay, PA.ar, Stk.take]
  rw [h]
  rfl
def layB (x : PA) (ws : List Nat) (k : Nat) : Bool := (Nat.ble 1 k && Nat.ble k 2048) && (Nat.ble (x.used + k) x.cap && (Nat.blt x.births 268435455 && (match x.bk with | [] => true | _ => false)))
theorem layB_ok {x : PA} {ws : List Nat} {k : Nat} (h : layB x ws k = true) (z : Nat → Value) : (1 ≤ k ∧ k ≤ 2048) ∧ (x.ar z).used + k ≤ (x.ar z).cap ∧ (x.ar z).births < 268435455 ∧ (x.ar z).s.back = [] := by
  unfold layB at h
  simp only [Bool.and_eq_true, Nat.ble_eq, Nat.blt_eq] at h
  refine ⟨h.1, h.2.1, h.2.2.1, ?_⟩
  have h4 := h.2.2.2
  split at h4
  · assumption
  · cases h4
/-- The words of a slice's block, where all are known. -/
def wordsK : SO XP → Option (SO XE × Nat)
  | .cells l t => some (.cells l t, l.length)
  | .ints t k n cap f => some (.ints t k n cap f, n)
  | .row t k n cap l => some (.row t k n cap l, n)
  | _ => none
theorem wordsK_back {o : SO XP} {p : SO XE} {n : Nat} (h : wordsK o = some (p, n)) : o = SO.back p := by
  unfold wordsK at h
  split at h <;> first | (cases h; rfl) | cases h
def natW (k : Nat) : SO XE → List Nat
  | .cells l _ => natsC l
  | .row _ _ _ _ l => natsC l
  | .ints _ _ _ _ f => natsOf k f
  | _ => []
def allB (f : Nat → Int) : Nat → Bool
  | 0 => true
  | n + 1 => u64B (f n) && allB f n
theorem allB_ok {f : Nat → Int} : ∀ {n : Nat}, allB f n = true → ∀ i, i < n → 0 ≤ f i ∧ f i < 18446744073709551616
  | 0, _, i, hi => absurd hi (Nat.not_lt_zero i)
  | n + 1, h, i, hi => by
    simp only [allB, Bool.and_eq_true] at h
    by_cases e : i = n
    · subst e; exact u64B_ok h.1
    · exact allB_ok h.2 i (by omega)
def wordsB : List SC → Bool
  | [] => true
  | .int _ .u64 x _ :: l => u64B x && wordsB l
  | _ => false
theorem wordsB_ok : ∀ {l : List SC}, wordsB l = true → wordsC l
  | [], _ => trivial
  | x :: l, h => by
    unfold wordsB at h
    split at h <;> try cases h
    · rename_i he; cases he
    · rename_i lit n bd l' he
      simp only [List.cons.injEq] at he
      obtain ⟨rfl, rfl⟩ := he
      simp only [Bool.and_eq_true] at h
      have h1 := u64B_ok h.1
      have hb : u64B n = true := h.1
      cases lit
      · exact ⟨⟨h1.1, by omega⟩, wordsB_ok h.2⟩
      · show bif (leI 0 n && leI n 18446744073709551615) then wordsC l else Stuck 745
        have : (leI 0 n && leI n 18446744073709551615) = true := hb
        rw [this]
        exact wordsB_ok h.2
def okW (k cap : Nat) : SO XE → Bool
  | .cells l t => decide (t = 25) && (Nat.beq l.length k && (Nat.beq l.length cap && wordsB l))
  | .row t 1 k' cap' l => decide (t = 25) && (Nat.beq k' k && (Nat.beq l.length k && (Nat.beq cap' cap && wordsB l)))
  | .ints t .u64 k' cap' f => decide (t = 25) && (Nat.beq k' k && (Nat.beq cap' cap && allB f k))
  | _ => false
theorem back_names {o : SO XE} {k cap : Nat} (h : okW k cap o = true) (ν μ : Nat → Nat) (b : Nat) : (SO.back (H := parH) o).den ν b = o.den μ b := by
  rw [SO.back_den]
  have key : ∀ l : List SC, wordsB l = true → SC.denL ν l = SC.denL μ l := fun l hl => by
    rw [(wordsC_den ν (wordsB_ok hl)).1, (wordsC_den μ (wordsB_ok hl)).1]
  unfold okW at h
  split at h <;> try simp only [Bool.and_eq_true] at h
  · simp only [SO.den]; rw [key _ h.2.2.2]
  · simp only [SO.den]; rw [key _ h.2.2.2.2]
  · rfl
  · cases h
theorem den_two (μ : Nat → Nat) (A : Ar) (p : SO XE) : SH.den μ [(0, arO A), (1, p)] = arAt (μ 0) A * p.den μ (μ 1) := by
  show arAt (μ 0) A * (p.den μ (μ 1) * 1) = _
  rw [Assn.mul_comm (p.den μ (μ 1)) (1 : Assn), Assn.one_mul]
def layP : Smry Try.prog XP where
  g := 71
  run := fun args m K => match args with
    | [.c (.ptr n 0), .c (.sli s 1 lo 0 ll k cap)] => match m.hp.get n with
      | some (.ext (.obj [] x)) => match (m.hp.del n).get s with
        | some o => match wordsK o with
          | some (p, _) => bif okW k cap p && layB x [] k then goP m n (.tup [nat64 (PA.hdl x), okE]) (PA.lay x (natW k p)) K else Stuck 884
          | none => Stuck 885
        | none => Stuck 886
      | _ => Stuck 887
    | _ => Stuck 888
  ok := fun args m K hr => by
    split at hr <;> try exact hr.elim
    rename_i n s lo ll k cap
    split at hr <;> try exact hr.elim
    rename_i x hx
    split at hr <;> try exact hr.elim
    rename_i o ho
    split at hr <;> try exact hr.elim
    rename_i p q hp
    cases hb : okW k cap p && layB x [] k <;> rw [hb] at hr
    · exact hr.elim
    simp only [Bool.and_eq_true] at hb
    obtain ⟨hb1, hb2⟩ := hb
    obtain ⟨u, hu, e⟩ := goP_of hr
    refine gives_den e hu fun ν w R w0 H HK => ?_
    have hopn : o = SO.back p := wordsK_back hp
    subst hopn
    rw [SH.den_get ν hx, SH.den_get ν ho, Assn.mul_assoc, Assn.mul_assoc] at H
    obtain ⟨z, H⟩ := par_open H
    obtain ⟨⟨k1, k2⟩, hc, hbi, hbk⟩ := layB_ok hb2 z
    let μ : Nat → Nat := fun i => if i = 0 then ν n else ν s
    have ep := back_names hb1 ν μ (ν s)
    have H1 : Sat w ((⟨[(0, arO (x.ar z)), (1, p)], 2⟩ : MX).hp.den μ * (((m.hp.del n).del s).den ν * R)) := H.cast (by
      show _ = SH.den μ [(0, arO (x.ar z)), (1, p)] * _
      rw [den_two, show μ 0 = ν n from rfl, show μ 1 = ν s from rfl, ep, Assn.mul_assoc])
    have hargs : (List.map (SV.den ν) [.c (.ptr n 0), .c (.sli s 1 lo 0 ll k cap)]) = List.map (SV.den μ) [.c (.ptr 0 0), .c (.sli 1 1 lo 0 ll k cap)] := by
      simp only [List.map_cons, List.map_nil, SV.den, SC.den, show μ 0 = ν n from rfl, show μ 1 = ν s from rfl]
    rw [hargs]
    have run : (layX false).run [.c (.ptr 0 0), .c (.sli 1 1 lo 0 ll k cap)] ⟨[(0, arO (x.ar z)), (1, p)], 2⟩ (fun v m' => v = .tup [nat64 (PA.hdl x), okE] ∧ ∃ z', m'.hp = [(0, arO ((PA.lay x (natW k p)).ar z')), (1, p)]) := by
      have fin : ∀ (v : Value) (ws : List Nat), natW k p = ws → ∃ z', SH.set [(0, arO (x.ar z)), (1, p)] 0 (arO ((x.ar z).lay ws v)) = [(0, arO ((PA.lay x (natW k p)).ar z')), (1, p)] := fun v ws hw => by
        subst hw
        obtain ⟨z', hz⟩ := PA.lay_eq x z (natW k p) v
        exact ⟨z', by rw [hz]; rfl⟩
      unfold okW at hb1
      split at hb1
      · rename_i l t
        simp only [Bool.and_eq_true, decide_eq_true_eq] at hb1
        obtain ⟨rfl, h1, h2, h3⟩ := hb1
        have h1 := Nat.eq_of_beq_eq_true h1
        have h2 := Nat.eq_of_beq_eq_true h2
        simp only [layX, SH.get, SH.del, if_true]
        exact ⟨h1, h2, ⟨k1, k2⟩, hc, hbk, hbi, wordsB_ok h3, fun v => ⟨rfl, fin v _ rfl⟩⟩
      · rename_i t k' cap' l
        simp only [Bool.and_eq_true, decide_eq_true_eq] at hb1
        obtain ⟨rfl, h1, h2, h3, h4⟩ := hb1
        have h1 := Nat.eq_of_beq_eq_true h1
        have h2 := Nat.eq_of_beq_eq_true h2
        have h3 := Nat.eq_of_beq_eq_true h3
        simp only [layX, SH.get, SH.del, if_true]
        exact ⟨h1, h2, h3, ⟨k1, k2⟩, hc, hbk, hbi, wordsB_ok h4, fun v => ⟨rfl, fin v _ rfl⟩⟩
      · rename_i t k' cap' f
        simp only [Bool.and_eq_true, decide_eq_true_eq] at hb1
        obtain ⟨rfl, h1, h2, h3⟩ := hb1
        have h1 := Nat.eq_of_beq_eq_true h1
        have h2 := Nat.eq_of_beq_eq_true h2
        simp only [layX, SH.get, SH.del, if_true]
        exact ⟨h1, h2, ⟨k1, k2⟩, hc, hbk, hbi, allB_ok h3, fun v => ⟨rfl, fin v _ rfl⟩⟩
      · cases hb1
    refine ((layX false).ok _ _ _ run μ w _ w0 H1 HK).mono ?_
    rintro e' w' ⟨v, m', ξ, ⟨rfl, z', hm⟩, ag, hn, he, hs, hk'⟩
    have h0 : ξ 0 = ν n := ag 0 (by simp)
    have h1 : ξ 1 = ν s := ag 1 (by simp)
    rw [hm] at hs
    refine ⟨_, _, ν, ⟨rfl, rfl⟩, Agree.refl _ _, Nat.le_refl _, he, ?_, hk'⟩
    rw [SH.den_set ν hx, SH.den_get ν ho, Assn.mul_assoc, Assn.mul_assoc]
    refine par_shut (z := z') (hs.cast ?_)
    rw [den_two, h0, h1, ← back_names hb1 ν ξ (ν s), Assn.mul_assoc]
/-- The tally. -/
def numB (n : Nat) : Bool := Nat.ble n 9223372036854775807
def tlyL (t : Tly) : List SC := [.int true .i64 (t.lays : Nat), .int true .i64 (t.frees : Nat), .int true .i64 (t.reads : Nat), .int true .i64 (t.writes : Nat), .int true .i64 (t.swaps : Nat), .int true .i64 (t.adds : Nat)]
def tallyP : Smry Try.prog XP where
  g := tallyX.g
  run := fun args m K => match args with
    | [.c (.ptr n 0)] => match m.hp.get n with
      | some (.ext (.obj [] x)) => bif (numB x.t.lays && numB x.t.frees) && ((numB x.t.reads && numB x.t.writes) && (numB x.t.swaps && numB x.t.adds)) then goP m n (.agg (tlyL x.t)) x K else Stuck 892
      | _ => Stuck 893
    | _ => Stuck 894
  ok := fun args m K hr => by
    split at hr <;> try exact hr.elim
    rename_i n
    split at hr <;> try exact hr.elim
    rename_i x hx
    cases hb : (numB x.t.lays && numB x.t.frees) && ((numB x.t.reads && numB x.t.writes) && (numB x.t.swaps && numB x.t.adds)) <;> rw [hb] at hr
    · exact hr.elim
    simp only [Bool.and_eq_true, numB, Nat.ble_eq] at hb
    obtain ⟨⟨h1, h2⟩, ⟨h3, h4⟩, h5, h6⟩ := hb
    obtain ⟨u, hu, e⟩ := goP_of hr
    refine gives_den e hu (gives_den (u := .agg (tlyL x.t)) (v := .agg (tlySC (tlyZ x.t))) (fun ν => ?_) ⟨rfl, rfl⟩ (par_gives (S := tallyX) hx rfl (by intro a ha; cases ha) (fun z => ?_) ⟨rfl, rfl⟩))
    · simp only [SV.den, tlyL, tlySC, SC.denL, SC.den, tlyZ, List.getD_cons_zero, List.getD_cons_succ, wr64_small h1, wr64_small h2, wr64_small h3, wr64_small h4, wr64_small h5, wr64_small h6]
    · simp only [tallyX, SH.get, if_true]
      exact ⟨rfl, z, rfl⟩
def faultsP : Smry Try.prog XP where
  g := faultsX.g
  run := fun args m K => match args with
    | [.c (.ptr n 0)] => match m.hp.get n with
      | some (.ext (.obj [] x)) => bif numB x.faults then goP m n (.c (.int true .i64 (x.faults : Nat))) x K else Stuck 895
      | _ => Stuck 896
    | _ => Stuck 897
  ok := fun args m K hr => by
    split at hr <;> try exact hr.elim
    rename_i n
    split at hr <;> try exact hr.elim
    rename_i x hx
    cases hb : numB x.faults <;> rw [hb] at hr
    · exact hr.elim
    simp only [numB, Nat.ble_eq] at hb
    obtain ⟨u, hu, e⟩ := goP_of hr
    refine gives_den e hu (gives_den (u := .c (.int true .i64 (x.faults : Nat))) (v := .c (.int false .i64 (wr64 x.faults))) (fun ν => by simp only [SV.den, SC.den, wr64_small hb]) ⟨rfl, rfl⟩ (par_gives (S := faultsX) hx rfl (by intro a ha; cases ha) (fun z => ?_) ⟨rfl, rfl⟩))
    simp only [faultsX, SH.get, if_true]
    exact ⟨rfl, z, rfl⟩
end Go.Proofs.Ytnfpkadepomjjaa
