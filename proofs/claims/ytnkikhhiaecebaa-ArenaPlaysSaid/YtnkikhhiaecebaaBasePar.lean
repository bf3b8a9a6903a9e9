/- What is left of a count; an arena's tally. -/
import Derived.Test.YtnkikhhiaecebaaBaseS
import Derived.Test.YtnkikhhiaecebaaBaseC
set_option linter.all false
namespace Go.Proofs.Ytnkikhhiaecebaa
open Go Go.RowKit

def arSC (z : Nat → Int) (c : Nat → Value) : List SC := [.raw (c 0), .raw (c 1), .raw (c 2), .raw (c 3), .raw (c 4), .raw (c 5), .raw (c 6), .raw (c 7), .raw (c 8), .raw (c 9), .raw (c 10), .raw (c 11), .raw (c 12), .raw (c 13), .raw (c 14), .raw (c 15),
  .int false .i64 (z 0), .int false .i64 (z 1), .int false .i64 (z 2), .int false .i64 (z 3), .int false .i64 (z 4), .int false .i64 (z 5)]
def tlySC (z : Nat → Int) : List SC := [.int false .i64 (z 0), .int false .i64 (z 1), .int false .i64 (z 2), .int false .i64 (z 3), .int false .i64 (z 4), .int false .i64 (z 5)]
set_option maxRecDepth 1000000 in
theorem tally_run (K : SV → MX → Scr XE → Prop) (z : Nat → Int) (c : Nat → Value) : callN Try.prog ([] : List (Smry Try.prog XE)) (fun _ _ => false) 100 20 28 [.c (.ptr 0 0)] ⟨[(0, .cells (arSC z c) 172)], 1⟩ .nil K =
    K (.agg (tlySC z)) ⟨[(0, .cells (arSC z c) 172), (1, .cells (tlySC z) 47)], 9⟩ .nil := by
  kernel_rfl
def tlyZ (t : Tly) (i : Nat) : Int := [wr64 t.lays, wr64 t.frees, wr64 t.reads, wr64 t.writes, wr64 t.swaps, wr64 t.adds].getD i 0
set_option maxRecDepth 100000 in
theorem ar_tally (p : Nat) (A : Ar) (w : World) {R : Assn} (H : Sat w (arAt p A * R)) :
    Calls Try.prog 28 #[.pointer (some ⟨p, 0, none⟩)] w fun e w' => e = .returned (.agg (tlyCells A.t).toArray) ∧ Sat w' (arAt p A * R) ∧ Kept w w' := by
  obtain ⟨ps, pb, hi, H1⟩ := arAt_open H
  have ec : arCells A ps pb = (SC.denL (fun _ => p) (arSC (tlyZ A.t) fun i => (arCells A ps pb).getD i undef)).toArray := rfl
  rw [ec] at H1
  have H2 : Sat w (SH.den (fun _ => p) (⟨[(0, .cells (arSC (tlyZ A.t) fun i => (arCells A ps pb).getD i undef) 172)], 1⟩ : MX).hp * (stkAt ps A.s * (mapAt pb (A.bs.map ent) * (rowsAt A.bs * R)))) := by
    simp only [SH.den, SO.den]
    exact H1.cast (by rw [Assn.mul_assoc, Assn.one_mul])
  refine (callN_ok namesOk mixed _ _ _ _ _ _ _ _ (fun v m _ => v = .agg (tlySC (tlyZ A.t)) ∧ m.hp = [(0, .cells (arSC (tlyZ A.t) fun i => (arCells A ps pb).getD i undef) 172), (1, .cells (tlySC (tlyZ A.t)) 47)]) (by rw [tally_run]; exact ⟨rfl, rfl⟩) (fun _ => p) w _ w H2 (Kept.refl w)).mono ?_
  rintro e w' ⟨v, m', s', μ, ⟨rfl, hm⟩, ag, _, he, hs, hk⟩
  rw [hm] at hs
  have h0 : μ 0 = p := ag 0 (by simp)
  simp only [SH.den, SO.den, h0] at hs
  refine ⟨by rw [he]; rfl, ?_, hk⟩
  refine arAt_shut (ps := ps) (pb := pb) hi ?_
  have hs1 : Sat w' (own (μ 1) (.cells (SC.denL μ (tlySC (tlyZ A.t))).toArray 47 (0, 0)) * (own p (.cells (SC.denL μ (arSC (tlyZ A.t) fun i => (arCells A ps pb).getD i undef)).toArray 172 (0, 0)) * (stkAt ps A.s * (mapAt pb (A.bs.map ent) * (rowsAt A.bs * R))))) := hs.cast (by rw [Assn.mul_comm _ (1 : Assn), Assn.one_mul]; ac_rfl)
  exact hs1.right
def tallyX : Smry Try.prog XE where
  g := 28
  run := fun args m K => match args with
    | [.c (.ptr n 0)] => match m.hp.get n with
      | some (.ext (.ar A)) => K (.agg (tlySC (tlyZ A.t))) ⟨m.hp.set n (arO A), m.nx⟩
      | _ => Stuck 762
    | _ => Stuck 763
  ok := fun args m K hr => by
    split at hr <;> try exact hr.elim
    split at hr <;> try exact hr.elim
    rename_i A hA
    exact gives_ext hA hr fun ν w R H => ar_tally _ A w H
end Go.Proofs.Ytnkikhhiaecebaa
/- The arena as data that is known through and through, for closed runs: each call reckons what it leaves. -/
namespace Go.Proofs.Ytnkikhhiaecebaa
open Go Go.RowKit
set_option maxRecDepth 100000

structure PA where
  cap : Nat
  used : Nat
  peak : Nat
  faults : Nat
  births : Nat
  fx : List Nat
  high : Nat
  us : List Nat
  bk : List Nat
  bs : List (Nat × Nat × List Nat)
  t : Tly
def blksOf (z : Nat → Value) : Nat → List (Nat × Nat × List Nat) → List Blk
  | _, [] => []
  | i, (n, h, ws) :: l => ⟨n, h, ws, z i⟩ :: blksOf z (i + 1) l
def PA.ar (x : PA) (z : Nat → Value) : Ar where
  cap := x.cap
  used := x.used
  peak := x.peak
  faults := x.faults
  births := x.births
  fixed := fun i => x.fx.getD i 0
  s := ⟨x.high, x.us, x.bk⟩
  bs := blksOf z 0 x.bs
  t := x.t
def parH : Hid XE := ⟨PA, Nat → Value, fun x z => [(0, arO (x.ar z))]⟩
abbrev XP : EXT := XE.hid parH
abbrev MP := Mem XP
abbrev parO (x : PA) : SO XP := .ext (HO.obj [] x)
theorem par_open {ν : Nat → Nat} {b : Nat} {x : PA} {w : World} {R : Assn} (H : Sat w ((parO x).den ν b * R)) : ∃ z, Sat w (arAt b (x.ar z) * R) := by
  obtain ⟨μ, H⟩ := H.ex_mul
  obtain ⟨z, H⟩ := H.ex_mul
  rw [Assn.mul_assoc] at H
  obtain ⟨hn, H⟩ := H.pure_mul
  refine ⟨z, H.cast ?_⟩
  simp only [parH, SH.den, SO.den, XE, XO.den, hn.1]
  rw [Assn.mul_comm _ (1 : Assn), Assn.one_mul]
theorem par_shut {ν : Nat → Nat} {b : Nat} {x : PA} {w : World} {R : Assn} {z : Nat → Value} (H : Sat w (arAt b (x.ar z) * R)) : Sat w ((parO x).den ν b * R) := by
  refine Sat.mk_ex_mul (fun _ => b) (Sat.mk_ex_mul z ?_)
  rw [Assn.mul_assoc]
  refine Sat.mk_pure_mul ⟨rfl, fun i n h => by simp at h⟩ (H.cast ?_)
  simp only [parH, SH.den, SO.den, XE, XO.den]
  rw [Assn.mul_comm _ (1 : Assn), Assn.one_mul]

def forceNs {α : Type} (K : List Nat → α) : List Nat → α
  | [] => K []
  | x :: l => forceN x fun x => forceNs (fun l => K (x :: l)) l
theorem forceNs_eq {α : Type} : ∀ (l : List Nat) (K : List Nat → α), forceNs K l = K l
  | [], _ => rfl
  | x :: l, K => by simp only [forceNs, forceN_eq, forceNs_eq l]
def forceBs {α : Type} (K : List (Nat × Nat × List Nat) → α) : List (Nat × Nat × List Nat) → α
  | [] => K []
  | (n, h, ws) :: l => forceN n fun n => forceN h fun h => forceNs (fun ws => forceBs (fun l => K ((n, h, ws) :: l)) l) ws
theorem forceBs_eq {α : Type} : ∀ (l : List (Nat × Nat × List Nat)) (K : List (Nat × Nat × List Nat) → α), forceBs K l = K l
  | [], _ => rfl
  | (n, h, ws) :: l, K => by simp only [forceBs, forceN_eq, forceNs_eq, forceBs_eq l]
def forceTly {α : Type} (K : Tly → α) : Tly → α
  | ⟨a, b, c, d, e, f⟩ => forceN a fun a => forceN b fun b => forceN c fun c => forceN d fun d => forceN e fun e => forceN f fun f => K ⟨a, b, c, d, e, f⟩
theorem forceTly_eq {α : Type} (t : Tly) (K : Tly → α) : forceTly K t = K t := by cases t; simp only [forceTly, forceN_eq]
def forcePA {α : Type} (K : PA → α) : PA → α
  | ⟨cap, used, peak, faults, births, fx, high, us, bk, bs, t⟩ => forceN cap fun cap => forceN used fun used => forceN peak fun peak => forceN faults fun faults => forceN births fun births =>
      forceNs (fun fx => forceN high fun high => forceNs (fun us => forceNs (fun bk => forceBs (fun bs => forceTly (fun t => K ⟨cap, used, peak, faults, births, fx, high, us, bk, bs, t⟩) t) bs) bk) us) fx
theorem forcePA_eq {α : Type} (x : PA) (K : PA → α) : forcePA K x = K x := by cases x; simp only [forcePA, forceN_eq, forceNs_eq, forceBs_eq, forceTly_eq]

theorem beq_dec (a b : Nat) : Nat.beq a b = decide (a = b) := by
  by_cases e : a = b
  · subst e; simp
  · rw [decide_eq_false e]
    cases hb : Nat.beq a b
    · rfl
    · exact absurd (Nat.eq_of_beq_eq_true hb) e
def findP (h : Nat) : List (Nat × Nat × List Nat) → Option (List Nat)
  | [] => none
  | (_, h', ws) :: l => bif Nat.beq h' h then some ws else findP h l
theorem findP_eq (z : Nat → Value) (h : Nat) : ∀ (l : List (Nat × Nat × List Nat)) (i : Nat), ((blksOf z i l).find? fun b => b.h == h).map (·.ws) = findP h l
  | [], _ => rfl
  | (n, h', ws) :: l, i => by
    simp only [blksOf, List.find?_cons, findP]
    rw [beq_dec]
    by_cases e : h' = h
    · subst e; simp
    · rw [beq_eq_false_iff_ne.2 e, decide_eq_false e]
      exact findP_eq z h l (i + 1)
def PA.word (x : PA) (h i : Nat) : Option Nat := bif Nat.beq h 0 then (bif Nat.blt i 9 then some (x.fx.getD i 0) else none) else match findP h x.bs with
  | some ws => ws[i]?
  | none => none
theorem PA.word_eq (x : PA) (z : Nat → Value) (h i : Nat) : (x.ar z).word h i = x.word h i := by
  unfold Ar.word PA.word
  rw [beq_dec]
  by_cases e : h = 0
  · rw [if_pos e, decide_eq_true e, cond_true]
    by_cases e' : i < 9
    · rw [if_pos e', show Nat.blt i 9 = true by rw [Nat.blt_eq]; exact e']; rfl
    · rw [if_neg e']
      cases hb : Nat.blt i 9
      · rfl
      · rw [Nat.blt_eq] at hb; exact absurd hb e'
  · rw [if_neg e, decide_eq_false e, cond_false]
    have := findP_eq z h x.bs 0
    unfold Ar.find
    rw [← this]
    show Option.bind (List.find? (fun b => b.h == h) (blksOf z 0 x.bs)) _ = _
    cases List.find? (fun b => b.h == h) (blksOf z 0 x.bs) <;> rfl
def setPA (h i y : Nat) : List (Nat × Nat × List Nat) → List (Nat × Nat × List Nat)
  | [] => []
  | (n, h', ws) :: l => (bif Nat.beq h' h then (n, h', ws.set i y) else (n, h', ws)) :: setPA h i y l
theorem setPA_eq (z : Nat → Value) (h i y : Nat) : ∀ (l : List (Nat × Nat × List Nat)) (k : Nat), blksOf z k (setPA h i y l) = (blksOf z k l).map (setBlk h i y)
  | [], _ => rfl
  | (n, h', ws) :: l, k => by
    simp only [setPA, blksOf, List.map_cons, setBlk]
    rw [beq_dec]
    by_cases e : h' = h
    · rw [decide_eq_true e, cond_true, if_pos e]
      simp only [blksOf]
      rw [setPA_eq z h i y l]
    · rw [decide_eq_false e, cond_false, if_neg e]
      simp only [blksOf]
      rw [setPA_eq z h i y l]
def PA.set (x : PA) (h i y : Nat) : PA := bif Nat.beq h 0 then { x with fx := x.fx.set i y } else { x with bs := setPA h i y x.bs }
theorem PA.set_eq (x : PA) (z : Nat → Value) (h i y : Nat) (hi : h = 0 → i < x.fx.length) : (x.ar z).set h i y = (x.set h i y).ar z := by
  unfold Ar.set PA.set
  rw [beq_dec]
  by_cases e : h = 0
  · rw [if_pos e, decide_eq_true e, cond_true]
    simp only [PA.ar]
    congr 1
    funext j
    have := hi e
    by_cases ej : j = i
    · subst ej
      rw [if_pos rfl, List.getD_eq_getElem?_getD, List.getElem?_set_self this]; rfl
    · rw [if_neg ej, List.getD_eq_getElem?_getD, List.getD_eq_getElem?_getD, List.getElem?_set_ne (Ne.symm ej)]
  · rw [if_neg e, decide_eq_false e, cond_false]
    simp only [PA.ar]
    congr 1
    exact (setPA_eq z h i y x.bs 0).symm
def PA.tick (x : PA) (f : Tly → Tly) : PA := { x with t := f x.t }

theorem par_gives {S : Smry Try.prog XE} {n : Nat} {xs : List SV} {m : MP} {K : SV → MP → Prop} {x y : PA} {v : SV} (hx : m.hp.get n = some (parO x)) (hv : v.names = []) (has : ∀ a ∈ xs, a.names = [])
    (run : ∀ z, S.run (.c (.ptr 0 0) :: xs) ⟨[(0, arO (x.ar z))], 1⟩ fun u m' => u = v ∧ ∃ z', m'.hp = [(0, arO (y.ar z'))])
    (hk : K v ⟨m.hp.set n (parO y), m.nx⟩) : Gives Try.prog S.g (.c (.ptr n 0) :: xs) m K := fun ν w R w0 H HK => by
  rw [SH.den_get ν hx, Assn.mul_assoc] at H
  obtain ⟨z, H⟩ := par_open H
  have H1 : Sat w ((⟨[(0, arO (x.ar z))], 1⟩ : MX).hp.den (fun _ => ν n) * ((m.hp.del n).den ν * R)) := H.cast (by
    simp only [SH.den, SO.den, XE, XO.den]
    rw [Assn.mul_comm (arAt _ _) (1 : Assn), Assn.one_mul])
  have eargs : (SV.c (.ptr n 0) :: xs).map (SV.den ν) = (SV.c (.ptr 0 0) :: xs).map (SV.den fun _ => ν n) := by
    simp only [List.map_cons]
    congr 1
    apply List.map_congr_left
    intro u hu
    exact SV.den_eq u (by rw [has u hu]; intro k hk; cases hk)
  rw [eargs]
  refine (S.ok _ _ _ (run z) (fun _ => ν n) w _ w0 H1 HK).mono ?_
  rintro e w' ⟨u, m', μ, ⟨rfl, z', hm⟩, ag, hn, he, hs, hk'⟩
  have h0 : μ 0 = ν n := ag 0 (Nat.lt_succ_self 0)
  rw [hm] at hs
  refine ⟨_, _, ν, hk, Agree.refl _ _, Nat.le_refl _, ?_, ?_, hk'⟩
  · rw [he]
    congr 1
    exact SV.den_eq u (by rw [hv]; intro k hk; cases hk)
  · rw [SH.den_set ν hx, Assn.mul_assoc]
    refine par_shut (z := z') (hs.cast ?_)
    simp only [SH.den, SO.den, XE, XO.den, h0]
    rw [Assn.mul_comm (arAt _ _) (1 : Assn), Assn.one_mul]
def PA.read (x : PA) : PA := x.tick fun t => { t with reads := t.reads + 1 }
def PA.write (x : PA) (h i y : Nat) : PA := (x.set h i y).tick fun t => { t with writes := t.writes + 1 }
def PA.add (x : PA) (h i y : Nat) : PA := (x.set h i (addW ((x.word h i).getD 0) y)).tick fun t => { t with adds := t.adds + 1 }
def PA.swap (x : PA) (h i o y : Nat) : PA := (bif Nat.beq ((x.word h i).getD 0) o then x.set h i y else x).tick fun t => { t with swaps := t.swaps + 1 }
def u64B (y : Int) : Bool := leI 0 y && leI y 18446744073709551615
theorem u64B_ok {y : Int} (h : u64B y = true) : 0 ≤ y ∧ y < 18446744073709551616 := by
  unfold u64B at h
  simp only [Bool.and_eq_true] at h
  have h1 := leI_le h.1
  have h2 := leI_le h.2
  omega
def goP (m : MP) (n : Nat) (v : SV) (y : PA) (K : SV → MP → Prop) : Prop := knV (fun u => forcePA (fun y => K u ⟨m.hp.set n (parO y), m.nx⟩) y) v
theorem goP_of {m : MP} {n : Nat} {v : SV} {y : PA} {K : SV → MP → Prop} (h : goP m n v y K) : ∃ u, K u ⟨m.hp.set n (parO y), m.nx⟩ ∧ ∀ ν, u.den ν = v.den ν := by
  obtain ⟨u, hu, e⟩ := knV_of h
  rw [forcePA_eq] at hu
  exact ⟨u, hu, e⟩
theorem gives_den {g : FuncId} {args : List SV} {m m' : MP} {K : SV → MP → Prop} {u v : SV} (e : ∀ ν, u.den ν = v.den ν) (hu : K u m') (h : Gives Try.prog g args m fun v' m'' => v' = v ∧ m'' = m') : Gives Try.prog g args m K := fun ν w R w0 H HK => (h ν w R w0 H HK).mono fun e' w' ⟨v', m'', μ, ⟨hv, hm⟩, ag, hn, he, hs, hk⟩ => by
  subst hv hm
  exact ⟨u, _, μ, hu, ag, hn, by rw [he, e], hs, hk⟩
def PA.new (cap : Nat) : PA := ⟨cap, 0, 0, 0, 0, [0, 0, 0, 0, 0, 0, 0, 0, 0], 0, [], [], [], ⟨0, 0, 0, 0, 0, 0⟩⟩
theorem PA.new_eq (cap : Nat) (z : Nat → Value) : Ar.new cap = (PA.new cap).ar z := by
  simp only [Ar.new, PA.new, PA.ar, blksOf]
  congr 1
  funext i
  match i with
  | 0 | 1 | 2 | 3 | 4 | 5 | 6 | 7 | 8 => rfl
  | n + 9 => rfl
theorem par_new {m : MP} {x : PA} (h : newOk m (parO x) = true) {ν : Nat → Nat} {w : World} {R : Assn} {b : Nat} {z : Nat → Value} (H : Sat w (arAt b (x.ar z) * (m.hp.den ν * R))) : Sat w ((withNew m (parO x)).hp.den (upd ν m.nx b) * R) :=
  withNew_sat h (par_shut H)
def newP : Smry Try.prog XP where
  g := newX.g
  run := fun args m K => match args with
    | [.c (.int _ .i64 c _)] => bif (leI 0 c && leI c 60000) && newOk m (parO (PA.new c.toNat)) then forcePA (fun x => K (.tup [(false, [.ptr m.nx 0]), okE]) (withNew m (parO x))) (PA.new c.toNat) else Stuck 882
    | _ => Stuck 883
  ok := fun args m K hr => by
    split at hr <;> try exact hr.elim
    rename_i l c bc
    cases hb : (leI 0 c && leI c 60000) && newOk m (parO (PA.new c.toNat)) <;> rw [hb] at hr
    · exact hr.elim
    simp only [cond_true, forcePA_eq] at hr
    simp only [Bool.and_eq_true] at hb
    have h0 := leI_le hb.1.1
    have h1 := leI_le hb.1.2
    intro ν w R w0 H HK
    obtain ⟨c, rfl⟩ : ∃ z : Nat, c = z := ⟨c.toNat, by omega⟩
    refine (arenaNew c w H (by omega)).mono fun e w' ⟨p, he, hs, hk'⟩ => ⟨_, _, upd ν m.nx p, hr, Agree.upd (Nat.le_refl _) _, Nat.le_succ _, ?_, ?_, HK.trans hk'⟩
    · rw [he]
      simp [SV.den, SC.den, SC.denL, partDen, okE, upd_same]
    · rw [PA.new_eq c fun _ => undef] at hs
      exact par_new hb.2 hs
def appB (n h : Nat) (ws : List Nat) : List (Nat × Nat × List Nat) → List (Nat × Nat × List Nat)
  | [] => [(n, h, ws)]
  | x :: l => x :: appB n h ws l
theorem appB_eq {z : Nat → Value} {v : Value} {n h : Nat} {ws : List Nat} : ∀ (l : List (Nat × Nat × List Nat)) (k : Nat), ∃ z' : Nat → Value, blksOf z' k (appB n h ws l) = blksOf z k l ++ [⟨n, h, ws, v⟩]
  | l, k => by
    refine ⟨fun i => if i = k + l.length then v else z i, ?_⟩
    induction l generalizing k with
    | nil => simp [appB, blksOf]
    | cons x l ih =>
      obtain ⟨n', h', ws'⟩ := x
      simp only [appB, blksOf, List.length_cons, List.cons_append]
      rw [if_neg (by omega)]
      congr 1
      have := ih (k + 1)
      rw [show k + 1 + l.length = k + (l.length + 1) by omega] at this
      exact this
def PA.hdl (x : PA) : Nat := (x.births + 1) * 65536 + (x.high + 1)
def PA.lay (x : PA) (ws : List Nat) : PA := { x with used := x.used + ws.length, peak := max x.peak (x.used + ws.length), births := x.births + 1, high := x.high + 1, us := x.us ++ [x.high + 1], bs := appB (x.high + 1) x.hdl ws x.bs, t := { x.t with lays := x.t.lays + 1 } }
def wordsK : SO XP → Option (SO XE × Nat)
  | .cells l t => some (.cells l t, l.length)
  | .ints t k n cap f => some (.ints t k n cap f, n)
  | .row t k n cap l => some (.row t k n cap l, n)
  | _ => none
theorem wordsK_back {o : SO XP} {p : SO XE} {n : Nat} (h : wordsK o = some (p, n)) : o = SO.back p := by
  unfold wordsK at h
  split at h <;> first | (cases h; rfl) | cases h
def natW (k : Nat) : SO XE → List Nat
  | .cells l _ => natsC l
  | .row _ _ _ _ l => natsC l
  | .ints _ _ _ _ f => natsOf k f
  | _ => []
def allB (f : Nat → Int) : Nat → Bool
  | 0 => true
  | n + 1 => u64B (f n) && allB f n
theorem allB_ok {f : Nat → Int} : ∀ {n : Nat}, allB f n = true → ∀ i, i < n → 0 ≤ f i ∧ f i < 18446744073709551616
  | 0, _, i, hi => absurd hi (Nat.not_lt_zero i)
  | n + 1, h, i, hi => by
    simp only [allB, Bool.and_eq_true] at h
    by_cases e : i = n
    · subst e; exact u64B_ok h.1
    · exact allB_ok h.2 i (by omega)
def wordsB : List SC → Bool
  | [] => true
  | .int _ .u64 x _ :: l => u64B x && wordsB l
  | _ => false
theorem wordsB_ok : ∀ {l : List SC}, wordsB l = true → wordsC l
  | [], _ => trivial
  | x :: l, h => by
    unfold wordsB at h
    split at h <;> try cases h
    · rename_i he; cases he
    · rename_i lit n bd l' he
      simp only [List.cons.injEq] at he
      obtain ⟨rfl, rfl⟩ := he
      simp only [Bool.and_eq_true] at h
      have h1 := u64B_ok h.1
      have hb : u64B n = true := h.1
      cases lit
      · exact ⟨⟨h1.1, by omega⟩, wordsB_ok h.2⟩
      · show bif (leI 0 n && leI n 18446744073709551615) then wordsC l else Stuck 745
        have : (leI 0 n && leI n 18446744073709551615) = true := hb
        rw [this]
        exact wordsB_ok h.2
def okW (k cap : Nat) : SO XE → Bool
  | .cells l t => decide (t = 29) && (Nat.beq l.length k && (Nat.beq l.length cap && wordsB l))
  | .row t 1 k' cap' l => decide (t = 29) && (Nat.beq k' k && (Nat.beq l.length k && (Nat.beq cap' cap && wordsB l)))
  | .ints t .u64 k' cap' f => decide (t = 29) && (Nat.beq k' k && (Nat.beq cap' cap && allB f k))
  | _ => false
def numB (n : Nat) : Bool := Nat.ble n 9223372036854775807
def faultsP : Smry Try.prog XP where
  g := faultsX.g
  run := fun args m K => match args with
    | [.c (.ptr n 0)] => match m.hp.get n with
      | some (.ext (.obj [] x)) => bif numB x.faults then goP m n (.c (.int true .i64 (x.faults : Nat))) x K else Stuck 895
      | _ => Stuck 896
    | _ => Stuck 897
  ok := fun args m K hr => by
    split at hr <;> try exact hr.elim
    rename_i n
    split at hr <;> try exact hr.elim
    rename_i x hx
    cases hb : numB x.faults <;> rw [hb] at hr
    · exact hr.elim
    simp only [numB, Nat.ble_eq] at hb
    obtain ⟨u, hu, e⟩ := goP_of hr
    refine gives_den e hu (gives_den (u := .c (.int true .i64 (x.faults : Nat))) (v := .c (.int false .i64 (wr64 x.faults))) (fun ν => by simp only [SV.den, SC.den, wr64_small hb]) ⟨rfl, rfl⟩ (par_gives (S := faultsX) hx rfl (by intro a ha; cases ha) (fun z => ?_) ⟨rfl, rfl⟩))
    simp only [faultsX, SH.get, if_true]
    exact ⟨rfl, z, rfl⟩
end Go.Proofs.Ytnkikhhiaecebaa
