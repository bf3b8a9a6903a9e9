/- Two arenas against one another (layer 3). -/
import Derived.Test.YtnkikhhiaecebaaBaseAP4
import Derived.Test.YtnkikhhiaecebaaBaseParL
import Derived.Test.YtnkikhhiaecebaaBaseAP5
import Derived.Test.YtnkikhhiaecebaaBaseLayI
set_option linter.all false
namespace Go.Proofs.Ytnkikhhiaecebaa
open Go Go.RowKit
set_option maxRecDepth 1000000
set_option maxHeartbeats 0
structure BlksOk (xs : List Blk) : Prop where
  ws : ∀ b ∈ xs, 1 ≤ b.ws.length ∧ b.ws.length ≤ 2048
  nd : (xs.map (·.n)).Nodup
  len : xs.length ≤ 100000
def eqFuncS : Smry Try.prog XB where
  g := 101
  run := fun args m K => match args with
    | [.c (.map a), .c (.map b), .c (.fn (.func g) [] [])] => if g = 99 then (match m.hp.get a with
      | some (.ext xs) => match (m.hp.del a).get b with
        | some (.ext ys) => BlksOk xs ∧ BlksOk ys ∧ K (.c (.boo false (sameBs xs ys))) m
        | _ => Stuck 940
      | _ => Stuck 941) else Stuck 943
    | _ => Stuck 942
  ok := fun args m K hr => by
    split at hr <;> try exact hr.elim
    rename_i a b g
    split at hr <;> try exact hr.elim
    rename_i hg
    subst hg
    split at hr <;> try exact hr.elim
    rename_i xs hx
    split at hr <;> try exact hr.elim
    rename_i ys hy
    obtain ⟨ox, oy, hk⟩ := hr
    intro ν w R w0 H HK
    have e : m.hp.den ν * R = mapAt (ν a) (xs.map ent) * (rowsAt xs * (mapAt (ν b) (ys.map ent) * (rowsAt ys * (((m.hp.del a).del b).den ν * R)))) := by
      rw [SH.den_get ν hx, SH.den_get ν hy]
      simp only [SO.den, XB]
      ac_rfl
    rw [e] at H
    refine (equal_func (ν a) (ν b) xs ys w H ox.ws oy.ws ox.nd oy.nd ox.len oy.len).mono fun e' w' ⟨he, hs, hk'⟩ => ?_
    exact ⟨_, m, ν, hk, Agree.refl _ _, Nat.le_refl _, he, by rw [e]; exact hs, HK.trans hk'⟩
def asame_1 (v : Nat → Value) (f : Nat → Nat) : Prop := v 0 = v 0 ∧ v 1 = v 1 ∧ v 2 = v 2 ∧ v 3 = v 3 ∧ v 4 = v 4 ∧ (↑(f 0) : Int) = (↑(f 0) : Int) ∧ (↑(f 1) : Int) = (↑(f 1) : Int)
 ∧ (↑(f 2) : Int) = (↑(f 2) : Int) ∧ (↑(f 3) : Int) = (↑(f 3) : Int) ∧ (↑(f 4) : Int) = (↑(f 4) : Int) ∧ (↑(f 5) : Int) = (↑(f 5) : Int) ∧ (↑(f 6) : Int) = (↑(f 6) : Int) ∧ (↑(f 7) :
 Int) = (↑(f 7) : Int) ∧ (↑(f 8) : Int) = (↑(f 8) : Int) ∧ v 14 = v 14 ∧ True ∧ v 16 = v 16 ∧ v 17 = v 17 ∧ v 18 = v 18 ∧ v 19 = v 19 ∧ v 20 = v 20 ∧ v 21 = v 21 ∧ True
theorem asame_vc (f g : Nat → Nat) (v u : Nat → Value) (xs ys : List Blk) : (callN Try.prog ([eqFuncS] : List (Smry Try.prog XB)) (fun _ _ => false) 100 20 30 [.c (.ptr 0 0), .c (.ptr 2 0)] ⟨[(0, .cells [.raw (v 0), .raw (v 1), .raw (v 2), .raw (v 3), .raw (v 4), .int false .u64 (f 0 : Nat), .int false .u64 (f 1 : Nat), .int false .u64 (f 2 : Nat), .int false .u64 (f 3 : Nat), .int false .u64 (f 4 : Nat), .int false .u64 (f 5 : Nat), .int false .u64 (f 6 : Nat), .int false .u64 (f 7 : Nat), .int false .u64 (f 8 : Nat), .raw (v 14), .map 1, .raw (v 16), .raw (v 17), .raw (v 18), .raw (v 19), .raw (v 20), .raw (v 21)] 172), (1, .ext xs), (2, .cells [.raw (u 0), .raw (u 1), .raw (u 2), .raw (u 3), .raw (u 4), .int false .u64 (g 0 : Nat), .int false .u64 (g 1 : Nat), .int false .u64 (g 2 : Nat), .int false .u64 (g 3 : Nat), .int false .u64 (g 4 : Nat), .int false .u64 (g 5 : Nat), .int false .u64 (g 6 : Nat), .int false .u64 (g 7 : Nat), .int false .u64 (g 8 : Nat), .raw (u 14), .map 3, .raw (u 16), .raw (u 17), .raw (u 18), .raw (u 19), .raw (u 20), .raw (u 21)] 172), (3, .ext ys)], 100⟩ (.both .nil .nil) (fun v' m _ => outM (.c (.boo false ((List.range 9).all (fun i => f i == g i) && sameBs xs ys))) [(0, .cells [.raw (v 0), .raw (v 1), .raw (v 2), .raw (v 3), .raw (v 4), .int false .u64 (f 0 : Nat), .int false .u64 (f 1 : Nat), .int false .u64 (f 2 : Nat), .int false .u64 (f 3 : Nat), .int false .u64 (f 4 : Nat), .int false .u64 (f 5 : Nat), .int false .u64 (f 6 : Nat), .int false .u64 (f 7 : Nat), .int false .u64 (f 8 : Nat), .raw (v 14), .map 1, .raw (v 16), .raw (v 17), .raw (v 18), .raw (v 19), .raw (v 20), .raw (v 21)] 172), (1, .ext xs), (2, .cells [.raw (u 0), .raw (u 1), .raw (u 2), .raw (u 3), .raw (u 4), .int false .u64 (g 0 : Nat), .int false .u64 (g 1 : Nat), .int false .u64 (g 2 : Nat), .int false .u64 (g 3 : Nat), .int false .u64 (g 4 : Nat), .int false .u64 (g 5 : Nat), .int false .u64 (g 6 : Nat), .int false .u64 (g 7 : Nat), .int false .u64 (g 8 : Nat), .raw (u 14), .map 3, .raw (u 16), .raw (u 17), .raw (u 18), .raw (u 19), .raw (u 20), .raw (u 21)] 172), (3, .ext ys)] v' m)) = (
 ((true == ((↑(f 0) : Int) == (↑(g 0) : Int) && ((↑(f 1) : Int) == (↑(g 1) : Int) && ((↑(f 2) : Int) == (↑(g 2) : Int) && ((↑(f 3) : Int) == (↑(g 3) : Int) && ((↑(f 4) : Int) == (↑(g
 4) : Int) && ((↑(f 5) : Int) == (↑(g 5) : Int) && ((↑(f 6) : Int) == (↑(g 6) : Int) && ((↑(f 7) : Int) == (↑(g 7) : Int) && ((↑(f 8) : Int) == (↑(g 8) : Int) && true)))))))))) =
 true → (BlksOk xs ∧ BlksOk ys ∧ (([0, 1, 2, 3, 4, 5, 6, 7, 8].all fun (i : Nat) => f i == g i) && sameBs xs ys) = sameBs xs ys ∧ (asame_1 v f) ∧ xs = xs ∧ (asame_1 u g) ∧ ys = ys ∧
 True) ∧ True) ∧ ((true == ((↑(f 0) : Int) == (↑(g 0) : Int) && ((↑(f 1) : Int) == (↑(g 1) : Int) && ((↑(f 2) : Int) == (↑(g 2) : Int) && ((↑(f 3) : Int) == (↑(g 3) : Int) && ((↑(f
 4) : Int) == (↑(g 4) : Int) && ((↑(f 5) : Int) == (↑(g 5) : Int) && ((↑(f 6) : Int) == (↑(g 6) : Int) && ((↑(f 7) : Int) == (↑(g 7) : Int) && ((↑(f 8) : Int) == (↑(g 8) : Int) &&
 true)))))))))) = false → (([0, 1, 2, 3, 4, 5, 6, 7, 8].all fun (i : Nat) => f i == g i) && sameBs xs ys) = false ∧ (asame_1 v f) ∧ xs = xs ∧ (asame_1 u g) ∧ ys = ys ∧ True)) := by
  kernel_rfl
theorem asame_run (f g : Nat → Nat) (v u : Nat → Value) (xs ys : List Blk) (hc : BlksOk xs ∧ BlksOk ys) : Run (callN Try.prog ([eqFuncS] : List (Smry Try.prog XB)) (fun _ _ => false) 100 20 30 [.c (.ptr 0 0), .c (.ptr 2 0)] ⟨[(0, .cells [.raw (v 0), .raw (v 1), .raw (v 2), .raw (v 3), .raw (v 4), .int false .u64 (f 0 : Nat), .int false .u64 (f 1 : Nat), .int false .u64 (f 2 : Nat), .int false .u64 (f 3 : Nat), .int false .u64 (f 4 : Nat), .int false .u64 (f 5 : Nat), .int false .u64 (f 6 : Nat), .int false .u64 (f 7 : Nat), .int false .u64 (f 8 : Nat), .raw (v 14), .map 1, .raw (v 16), .raw (v 17), .raw (v 18), .raw (v 19), .raw (v 20), .raw (v 21)] 172), (1, .ext xs), (2, .cells [.raw (u 0), .raw (u 1), .raw (u 2), .raw (u 3), .raw (u 4), .int false .u64 (g 0 : Nat), .int false .u64 (g 1 : Nat), .int false .u64 (g 2 : Nat), .int false .u64 (g 3 : Nat), .int false .u64 (g 4 : Nat), .int false .u64 (g 5 : Nat), .int false .u64 (g 6 : Nat), .int false .u64 (g 7 : Nat), .int false .u64 (g 8 : Nat), .raw (u 14), .map 3, .raw (u 16), .raw (u 17), .raw (u 18), .raw (u 19), .raw (u 20), .raw (u 21)] 172), (3, .ext ys)], 100⟩ (.both .nil .nil) (fun v' m _ => outM (.c (.boo false ((List.range 9).all (fun i => f i == g i) && sameBs xs ys))) [(0, .cells [.raw (v 0), .raw (v 1), .raw (v 2), .raw (v 3), .raw (v 4), .int false .u64 (f 0 : Nat), .int false .u64 (f 1 : Nat), .int false .u64 (f 2 : Nat), .int false .u64 (f 3 : Nat), .int false .u64 (f 4 : Nat), .int false .u64 (f 5 : Nat), .int false .u64 (f 6 : Nat), .int false .u64 (f 7 : Nat), .int false .u64 (f 8 : Nat), .raw (v 14), .map 1, .raw (v 16), .raw (v 17), .raw (v 18), .raw (v 19), .raw (v 20), .raw (v 21)] 172), (1, .ext xs), (2, .cells [.raw (u 0), .raw (u 1), .raw (u 2), .raw (u 3), .raw (u 4), .int false .u64 (g 0 : Nat), .int false .u64 (g 1 : Nat), .int false .u64 (g 2 : Nat), .int false .u64 (g 3 : Nat), .int false .u64 (g 4 : Nat), .int false .u64 (g 5 : Nat), .int false .u64 (g 6 : Nat), .int false .u64 (g 7 : Nat), .int false .u64 (g 8 : Nat), .raw (u 14), .map 3, .raw (u 16), .raw (u 17), .raw (u 18), .raw (u 19), .raw (u 20), .raw (u 21)] 172), (3, .ext ys)] v' m)) := by
  constructor
  rw [asame_vc]
  delta asame_1
  obtain ⟨ox, oy⟩ := hc
  have hcst : ∀ a b : Nat, ((a : Int) == (b : Int)) = (a == b) := fun a b => by rw [Bool.eq_iff_iff, beq_iff_eq, beq_iff_eq]; omega
  simp only [hcst, Bool.true_beq, List.all_cons, List.all_nil]
  generalize (f 0 == g 0 && (f 1 == g 1 && (f 2 == g 2 && (f 3 == g 3 && (f 4 == g 4 && (f 5 == g 5 && (f 6 == g 6 && (f 7 == g 7 && (f 8 == g 8 && true))))))))) = q
  cases q
  all_goals simp only [Bool.true_and, Bool.false_and, Bool.false_eq_true, false_implies, true_implies, and_true, true_and, forall_const]
  all_goals repeat' (with_reducible first | assumption | apply And.intro | exact trivial | exact Eq.refl _ | (refine fun (K : KO XB) => ?_; simp only [and_imp]; intros; repeat' (first | assumption | apply And.intro | exact trivial); done) | intro _)
  all_goals first | exact rfl | contradiction | skip
end Go.Proofs.Ytnkikhhiaecebaa

/- Arenas told by what they hold (module Par): Lay, of whatever words; copies; comparisons; the first blocks. -/
namespace Go.Proofs.Ytnkikhhiaecebaa
open Go Go.RowKit
set_option maxRecDepth 100000

def PA.layV (x : PA) (k : Nat) : Int := bif eqI (x.layE k) 0 then (x.hdlG : Int) else 0
def PA.layX (x : PA) (k : Nat) (ws : List Nat) : PA := bif eqI (x.layE k) 0 then x.layG ws else x
def layR : Smry Try.prog XP where
  g := 14
  run := fun args m K => match args with
    | [.c (.ptr n 0), .c (.sliv a _ len cap)] => match m.hp.get n with
      | some (.ext (.obj [] x)) => match seenOf (m.hp.del n) with
        | some W => (∀ j, j < len → Seen .u64 W (addOpt a j)) ∧ len ≤ 9223372036854775807 ∧ (PA.Inv x →
            K (.tup [(false, [.int false .u64 (PA.layV x len)]), (false, [.int false .i64 (PA.layE x len)])]) ⟨m.hp.set n (parO (PA.layX x len (natsOf len fun j => seenInt .u64 W (addOpt a j)))), m.nx⟩)
        | none => Stuck 960
      | _ => Stuck 961
    | _ => Stuck 962
  ok := fun args m K hr => by
    split at hr <;> try exact hr.elim
    rename_i n a lo len cap
    split at hr <;> try exact hr.elim
    rename_i x hx
    split at hr <;> try exact hr.elim
    rename_i W hS
    obtain ⟨hx2, hlen, hk⟩ := hr
    intro ν w R w0 H HK
    have hargs : (List.map (SV.den ν) [.c (.ptr n 0), .c (.sliv a lo len cap)]).toArray = #[.pointer (some ⟨ν n, 0, none⟩), .slice a len cap] := by simp [SV.den, SC.den]
    rw [hargs]
    rw [SH.den_get ν hx, Assn.mul_assoc] at H
    have hinv := par_inv H
    obtain ⟨z, H⟩ := par_open H
    have hk := hk hinv
    by_cases he : layE x.used x.cap x.births len = 0
    · have e0 : eqI (x.layE len) 0 = true := by rw [eqI_dec]; exact decide_eq_true he
      obtain ⟨⟨k1, k2⟩, hc, hb⟩ := layE_zero he
      obtain ⟨g, rfl⟩ : ∃ g, a = some g := by
        obtain ⟨y, hy0, _⟩ := hx2 0 (by omega)
        cases a with
        | none => cases hy0
        | some g => exact ⟨g, rfl⟩
      have hbd : ∀ i, 0 ≤ seenInt .u64 W (addOpt (some g) i) ∧ seenInt .u64 W (addOpt (some g) i) ≤ 18446744073709551615 := fun i => seenInt_bd .u64 W _
      have hlen2 : (natsOf len fun j => seenInt .u64 W (addOpt (some g) j)).length = len := by simp [natsOf]
      have hcell : ∀ w R, Sat w ((m.hp.del n).den ν * R) → ∀ j, j < len → w.cell? (g.add j) = some (.int .u64 (seenInt .u64 W (addOpt (some g) j))) := fun w R HH j hj => by
        obtain ⟨y, hy0, hv⟩ := hx2 j hj
        have e : y = g.add j := (Option.some.inj hy0).symm
        rw [e] at hv
        exact seenOf_cell hv hS HH
      have hcall := lay_gen (ν n) (x.ar z) (natsOf len fun j => seenInt .u64 W (addOpt (some g) j)) len hlen2 g cap w (Q := (m.hp.del n).den ν) (R := R) H (fun w R HH => ⟨?_, fun j u hj => ?_⟩) (by omega) (by omega) (by rw [hlen2]; exact hc) hb (fun y hym => ?_)
      · refine hcall.mono fun e w' ⟨he', ⟨v', hs⟩, hk'⟩ => ?_
        obtain ⟨z', hz⟩ := PA.layG_eq x z (natsOf len fun j => seenInt .u64 W (addOpt (some g) j)) v'
        refine ⟨_, _, ν, hk, Agree.refl _ _, Nat.le_refl _, ?_, ?_, HK.trans hk'⟩
        · rw [he']
          have e1 : PA.layV x len = (x.hdlG : Int) := by unfold PA.layV; rw [e0]; rfl
          have e2 : PA.layE x len = 0 := he
          have e3 := PA.hdlG_eq x z
          rw [e1, e2, e3]
          rfl
        · rw [SH.den_set ν hx, Assn.mul_assoc]
          have e1 : PA.layX x len (natsOf len fun j => seenInt .u64 W (addOpt (some g) j)) = x.layG (natsOf len fun j => seenInt .u64 W (addOpt (some g) j)) := by unfold PA.layX; rw [e0]; rfl
          rw [e1]
          refine par_shut (z := z') ?_
          rw [← hz]
          exact hs
      · have h0 := hcell w R HH 0 (by omega)
        rcases Nat.lt_or_ge g.block w.heap.size with h' | h'
        · exact h'
        · exfalso
          have : w.cell? (g.add 0) = none := by
            unfold World.cell?
            simp [Addr.add, Array.getElem?_eq_none h']
          rw [this] at h0; cases h0
      · obtain ⟨hjl, rfl⟩ := natsOf_get (fun i _ => (hbd i).1) hj
        exact hcell w R HH j hjl
      · simp only [natsOf, List.mem_map, List.mem_range] at hym
        obtain ⟨i, hi, rfl⟩ := hym
        have := hbd i
        unfold TW
        omega
    · have e0 : eqI (x.layE len) 0 = false := by rw [eqI_dec]; exact decide_eq_false he
      refine (lay_err (ν n) (x.ar z) a len cap w H he hlen).mono fun e w' ⟨he', hs, hk'⟩ => ?_
      refine ⟨_, _, ν, hk, Agree.refl _ _, Nat.le_refl _, ?_, ?_, HK.trans hk'⟩
      · rw [he']
        have e1 : PA.layV x len = 0 := by unfold PA.layV; rw [e0]; rfl
        rw [e1]
        rfl
      · rw [SH.den_set ν hx, Assn.mul_assoc]
        have e1 : ∀ ws, PA.layX x len ws = x := fun ws => by unfold PA.layX; rw [e0]; rfl
        rw [e1]
        exact par_shut hs
theorem words_read {p : SO XE} {k cap : Nat} (h : okW k cap p = true) (ν : Nat → Nat) (b : Nat) : (natW k p).length = k ∧ (∀ y ∈ natW k p, y < TW) ∧ (1 ≤ k → ∀ w R, Sat w (p.den ν b * R) → b < w.heap.size ∧ ∀ j u, (u64s (natW k p))[j]? = some u → w.cell? ⟨b, j, none⟩ = some u) := by
  have key : ∀ {l : List SC}, wordsB l = true → (natsC l).length = l.length ∧ (∀ y ∈ natsC l, y < TW) ∧ SC.denL ν l = u64s (natsC l) := fun {l} hl => by
    have h1 := wordsC_den ν (wordsB_ok hl)
    refine ⟨?_, ?_, h1.1⟩
    · have := congrArg List.length h1.1
      rw [denL_map, List.length_map] at this
      simpa [u64s] using this.symm
    · exact h1.2.2
  have head : ∀ {n cap : Nat} {xs : List Value} {w : World} {R : Assn}, xs.length = n → Sat w (rowHead b 29 1 n cap xs * R) → b < w.heap.size ∧ ∀ j u, xs[j]? = some u → w.cell? ⟨b, j, none⟩ = some u := fun {n cap xs w R} hx H => by
    have h1 := head_rowAt hx H
    rcases rowAt_open h1 with ⟨h0, _, _⟩ | ⟨g', cap', cur, he, h2, h3, h4, h5, h6⟩
    · cases h0
    · simp only [Value.slice.injEq, Option.some.injEq, Addr.mk.injEq] at he
      obtain ⟨⟨rfl, _⟩, _⟩ := he
      exact ⟨h6.lt, row_cell h6 h5⟩
  unfold okW at h
  split at h
  · rename_i l t
    simp only [Bool.and_eq_true, decide_eq_true_eq] at h
    obtain ⟨rfl, h1, h2, h3⟩ := h
    have h1 := Nat.eq_of_beq_eq_true h1
    obtain ⟨k1, k2, k3⟩ := key h3
    refine ⟨by show (natsC l).length = k; rw [k1, h1], k2, fun _ w R H => ?_⟩
    simp only [SO.den] at H
    rw [k3] at H
    refine ⟨H.lt, fun j u hj => (H.cell j).trans ?_⟩
    have hj : (u64s (natsC l))[j]? = some u := hj
    simpa using hj
  · rename_i t k' cap' l
    simp only [Bool.and_eq_true, decide_eq_true_eq] at h
    obtain ⟨rfl, h1, h2, h3, h4⟩ := h
    have h2 := Nat.eq_of_beq_eq_true h2
    have h1 := Nat.eq_of_beq_eq_true h1
    obtain ⟨k1, k2, k3⟩ := key h4
    refine ⟨by show (natsC l).length = k; rw [k1, h2], k2, fun _ w R H => ?_⟩
    simp only [SO.den] at H
    rw [k3] at H
    exact head (by show (u64s (natsC l)).length = k'; rw [show (u64s (natsC l)).length = (natsC l).length from by simp [u64s], k1, h2, h1]) H
  · rename_i t k' cap' f
    simp only [Bool.and_eq_true, decide_eq_true_eq] at h
    obtain ⟨rfl, h1, h2, h3⟩ := h
    have h1 := Nat.eq_of_beq_eq_true h1
    subst h1
    have hb := allB_ok h3
    refine ⟨by simp [natW, natsOf], ?_, fun _ w R H => ?_⟩
    · intro y hy
      simp only [natW, natsOf, List.mem_map, List.mem_range] at hy
      obtain ⟨i, hi, rfl⟩ := hy
      have := hb i hi
      unfold TW
      omega
    · simp only [SO.den] at H
      have e : u64s (natsOf k' f) = intsOf .u64 k' f := natsOf_u64s fun i hi => (hb i hi).1
      show _ ∧ ∀ j u, (u64s (natsOf k' f))[j]? = some u → _
      rw [e]
      exact head (by simp [intsOf]) H
  · cases h
def layK : Smry Try.prog XP where
  g := 14
  run := fun args m K => match args with
    | [.c (.ptr n 0), .c (.sli s 1 _ 0 _ k cap)] => match m.hp.get n with
      | some (.ext (.obj [] x)) => match (m.hp.del n).get s with
        | some o => match wordsK o with
          | some (p, _) => bif okW k cap p && Nat.ble k 100000 then goP m n (.tup [(false, [.int false .u64 (PA.layV x k)]), (false, [.int false .i64 (PA.layE x k)])]) (PA.layX x k (natW k p)) K else Stuck 963
          | none => Stuck 964
        | none => Stuck 965
      | _ => Stuck 966
    | _ => Stuck 967
  ok := fun args m K hr => by
    split at hr <;> try exact hr.elim
    rename_i n s lo ll k cap
    split at hr <;> try exact hr.elim
    rename_i x hx
    split at hr <;> try exact hr.elim
    rename_i o ho
    split at hr <;> try exact hr.elim
    rename_i p q hp
    cases hb : okW k cap p && Nat.ble k 100000 <;> rw [hb] at hr
    · exact hr.elim
    simp only [Bool.and_eq_true, Nat.ble_eq] at hb
    obtain ⟨hb1, hb2⟩ := hb
    obtain ⟨u, hu, e⟩ := goP_of hr
    refine gives_den e hu fun ν w R w0 H HK => ?_
    have hopn : o = SO.back p := wordsK_back hp
    subst hopn
    have hargs : (List.map (SV.den ν) [.c (.ptr n 0), .c (.sli s 1 lo 0 ll k cap)]).toArray = #[.pointer (some ⟨ν n, 0, none⟩), .slice (some ⟨ν s, 0, none⟩) k cap] := by simp [SV.den, SC.den]
    rw [hargs]
    rw [SH.den_get ν hx, SH.den_get ν ho, Assn.mul_assoc, Assn.mul_assoc] at H
    obtain ⟨z, H⟩ := par_open H
    obtain ⟨w1, w2, w3⟩ := words_read hb1 ν (ν s)
    by_cases he : layE x.used x.cap x.births k = 0
    · have e0 : eqI (x.layE k) 0 = true := by rw [eqI_dec]; exact decide_eq_true he
      obtain ⟨⟨k1, k2⟩, hc, hbi⟩ := layE_zero he
      have hcall := lay_gen (ν n) (x.ar z) (natW k p) k w1 ⟨ν s, 0, none⟩ cap w (Q := (SO.back p).den ν (ν s)) (R := ((m.hp.del n).del s).den ν * R) H (fun w R HH => ?_) (by omega) (by omega) (by rw [w1]; exact hc) hbi w2
      · refine hcall.mono fun e w' ⟨he', ⟨v', hs⟩, hk'⟩ => ?_
        obtain ⟨z', hz⟩ := PA.layG_eq x z (natW k p) v'
        refine ⟨_, _, ν, ⟨rfl, rfl⟩, Agree.refl _ _, Nat.le_refl _, ?_, ?_, HK.trans hk'⟩
        · rw [he']
          have e1 : PA.layV x k = (x.hdlG : Int) := by unfold PA.layV; rw [e0]; rfl
          have e2 : PA.layE x k = 0 := he
          have e3 := PA.hdlG_eq x z
          rw [e1, e2, e3]
          rfl
        · rw [SH.den_set ν hx, SH.den_get ν ho, Assn.mul_assoc, Assn.mul_assoc]
          have e1 : PA.layX x k (natW k p) = x.layG (natW k p) := by unfold PA.layX; rw [e0]; rfl
          rw [e1]
          refine par_shut (z := z') ?_
          rw [← hz]
          exact hs
      · rw [SO.back_den] at HH
        obtain ⟨hlt, hc⟩ := w3 k1 w R HH
        refine ⟨hlt, fun j u hj => ?_⟩
        have e : ((⟨ν s, 0, none⟩ : Addr).add j) = ⟨ν s, j, none⟩ := by (by_cases h0 : j = 0) <;> simp [Addr.add, h0]
        rw [e]
        exact hc j u hj
    · have e0 : eqI (x.layE k) 0 = false := by rw [eqI_dec]; exact decide_eq_false he
      refine (lay_err (ν n) (x.ar z) (some ⟨ν s, 0, none⟩) k cap w H he (by omega)).mono fun e w' ⟨he', hs, hk'⟩ => ?_
      refine ⟨_, _, ν, ⟨rfl, rfl⟩, Agree.refl _ _, Nat.le_refl _, ?_, ?_, HK.trans hk'⟩
      · rw [he']
        have e1 : PA.layV x k = 0 := by unfold PA.layV; rw [e0]; rfl
        rw [e1]
        rfl
      · rw [SH.den_set ν hx, SH.den_get ν ho, Assn.mul_assoc, Assn.mul_assoc]
        have e1 : ∀ ws, PA.layX x k ws = x := fun ws => by unfold PA.layX; rw [e0]; rfl
        rw [e1]
        exact par_shut hs
end Go.Proofs.Ytnkikhhiaecebaa
