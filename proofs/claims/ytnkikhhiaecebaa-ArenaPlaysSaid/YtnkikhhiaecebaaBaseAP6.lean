/- The program's arena and the document's, side by side: what the calls of both give and leave. No program in sight. -/
import Derived.Test.YtnkikhhiaecebaaBaseAP3
import Derived.Test.YtnkikhhiaecebaaBaseAP5
import Derived.Test.YtnkikhhiaecebaaBaseSamS
import Derived.Test.YtnkikhhiaecebaaBaseAP4
import Derived.Test.YtnkikhhiaecebaaBaseDoc
set_option linter.all false
namespace Go.Proofs.Ytnkikhhiaecebaa
open Go Go.RowKit
set_option maxRecDepth 100000
abbrev PBs := List (Nat × Nat × List Nat)
abbrev DBs := List (Nat × List Nat)
structure DocOf (bs : PBs) (L : DBs) : Prop where
  perm : L.Perm (bs.map fun b => b.2)
  sort : L.Pairwise fun a b => a.1 % 65536 < b.1 % 65536
theorem DocOf.uniq {bs bs' : PBs} {L L' : DBs} (h : DocOf bs L) (h' : DocOf bs' L') (hp : bs.Perm bs') : L = L' := by
  have hpp : L.Perm L' := h.perm.trans ((hp.map _).trans h'.perm.symm)
  exact List.Perm.eq_of_pairwise (le := fun a b : Nat × List Nat => a.1 % 65536 < b.1 % 65536) (fun a b _ _ h1 h2 => absurd h1 (by omega)) h.sort h'.sort hpp
theorem DocOf.of_perm {bs bs' : PBs} {L : DBs} (h : DocOf bs L) (hp : bs.Perm bs') : DocOf bs' L := ⟨h.perm.trans (hp.map _), h.sort⟩
theorem DocOf.len {bs : PBs} {L : DBs} (h : DocOf bs L) : L.length = bs.length := by rw [h.perm.length_eq, List.length_map]
theorem DocOf.find {bs : PBs} {L : DBs} (hd : DocOf bs L) (hn : (bs.map fun b => b.2.1).Nodup) (h : Nat) :
    (∃ (k : Nat) (ws : List Nat), findP h bs = some ws ∧ pl3 L h = (k : Int) ∧ k < L.length ∧ blk3 L k = (h, ws)) ∨ (findP h bs = none ∧ pl3 L h = -1) := by
  rcases at3F_find L.length 0 L h (by omega) with ⟨b, hb, j, hj, hl, hk⟩ | ⟨hb, hj⟩
  · left
    rw [List.drop_zero] at hb
    have hm := List.mem_of_find?_eq_some hb
    have he : b.1 = h := by simpa using List.find?_some hb
    rw [hd.perm.mem_iff] at hm
    obtain ⟨⟨n, c⟩, hc, e⟩ := List.mem_map.1 hm
    have e : c = b := e
    subst e
    obtain ⟨c1, ws⟩ := c
    have he : c1 = h := he
    subst he
    exact ⟨j, ws, findP_of_mem hn hc, hj, hl, hk⟩
  · right
    refine ⟨?_, hj⟩
    rw [List.drop_zero, List.find?_eq_none] at hb
    cases hf : findP h bs with
    | none => rfl
    | some ws =>
      obtain ⟨n, hm⟩ := findP_mem hf
      have : (h, ws) ∈ L := by
        rw [hd.perm.mem_iff]
        exact List.mem_map.2 ⟨_, hm, rfl⟩
      exact absurd (hb _ this) (by simp)
theorem DocOf.tot {bs : PBs} {L : DBs} (h : DocOf bs L) : tot3 L = (bs.map fun b => b.2.2.length).sum := by
  have e1 : ∀ l : DBs, tot3 l = (l.map fun b => b.2.length).sum := fun l => by
    induction l with
    | nil => rfl
    | cons b l ih => simp only [tot3, List.map_cons, List.sum_cons, ih]
  have e2 := (h.perm.map fun b : Nat × List Nat => b.2.length).sum_nat
  rw [e1, e2, List.map_map]
  rfl
structure DR (y : PA) (x : D3) (L : DBs) : Prop where
  doc : DocOf y.bs L
  heap : HeapL y.bk
  cap : x.cap = y.cap
  births : x.births = y.births
  peak : x.peak = y.peak
  faults : x.faults = y.faults
  fx9 : y.fx.length = 9
  fx : x.fxL = y.fx.map fun n : Nat => (n : Int)
  t0 : x.t0 = y.t.lays
  t1 : x.t1 = y.t.frees
  t2 : x.t2 = y.t.reads
  t3 : x.t3 = y.t.writes
  t4 : x.t4 = y.t.swaps
  t5 : x.t5 = y.t.adds
section
variable {y : PA} {x : D3} {L : DBs}
theorem DR.find (d : DR y x L) (hi : y.Inv) {h : Int} (h0 : 0 ≤ h) :
    (∃ (k : Nat) (ws : List Nat), findP h.toNat y.bs = some ws ∧ pl3 L h = (k : Int) ∧ k < L.length ∧ blk3 L k = (h.toNat, ws)) ∨ (findP h.toNat y.bs = none ∧ pl3 L h = -1) := by
  have := d.doc.find hi.nd h.toNat
  rw [Int.toNat_of_nonneg h0] at this
  exact this
theorem DR.used (d : DR y x L) (hi : y.Inv) : tot3 L = y.used := by rw [d.doc.tot, hi.sum]
theorem DR.word (d : DR y x L) (hi : y.Inv) {h i : Int} (h0 : 0 ≤ h) : word3 x L h i = (y.wordI h i).map fun n : Nat => (n : Int) := by
  unfold word3 PA.wordI PA.word
  rw [leI_dec, beq_dec]
  by_cases e : h = 0
  · subst e
    rw [if_pos rfl, show decide ((0 : Int).toNat = 0) = true from rfl]
    simp only [cond_true]
    by_cases h1 : 0 ≤ i
    · rw [decide_eq_true h1, cond_true]
      by_cases h2 : i < 9
      · rw [if_pos ⟨h1, h2⟩, show Nat.blt i.toNat 9 = true by rw [Nat.blt_eq]; omega, cond_true, d.fx]
        simp only [Option.map_some]
        congr 1
        have : i.toNat < y.fx.length := by rw [d.fx9]; omega
        simp [List.getD_eq_getElem?_getD, this]
      · rw [if_neg (fun hh => h2 hh.2), show Nat.blt i.toNat 9 = false by rw [Bool.eq_false_iff, Ne, Nat.blt_eq]; omega, cond_false]
        rfl
    · rw [if_neg (fun hh => h1 hh.1), decide_eq_false h1, cond_false]
      rfl
  · rw [if_neg e, decide_eq_false (show ¬ h.toNat = 0 by omega), cond_false]
    rcases d.find hi h0 with ⟨k, ws, hf, hp, hk, hb⟩ | ⟨hf, hp⟩
    · rw [hp, if_neg (by omega), hf, Int.toNat_natCast, hb]
      by_cases h1 : 0 ≤ i
      · rw [decide_eq_true h1, cond_true]
        by_cases h2 : i < (ws.length : Int)
        · have hl : i.toNat < ws.length := by omega
          rw [if_pos ⟨h1, h2⟩]
          simp [List.getD_eq_getElem?_getD, hl]
        · rw [if_neg (fun hh => h2 hh.2)]
          show none = Option.map (fun n : Nat => (n : Int)) (ws[i.toNat]?)
          rw [List.getElem?_eq_none (by omega)]
          rfl
      · rw [if_neg (fun hh => h1 hh.1), decide_eq_false h1, cond_false]
        rfl
    · rw [hp, if_pos (by omega), hf]
      cases decide (0 ≤ i) <;> rfl
theorem DR.err (d : DR y x L) (hi : y.Inv) {h : Int} (h0 : 0 ≤ h) : err3 L h = y.errI h := by
  unfold err3 PA.errI
  rw [eqI_dec]
  by_cases e : h = 0
  · rw [if_pos e, decide_eq_true e, cond_true]
  · rw [if_neg e, decide_eq_false e, cond_false]
    rcases d.find hi h0 with ⟨k, ws, hf, hp, hk, hb⟩ | ⟨hf, hp⟩
    · rw [hp, if_neg (by omega), hf]
    · rw [hp, if_pos (by omega), hf]
theorem DR.getW (d : DR y x L) (hi : y.Inv) {h i : Int} (h0 : 0 ≤ h) : get3W x L h i = y.rdV h i := by
  unfold get3W PA.rdV
  rw [d.word hi h0]
  cases y.wordI h i <;> rfl
theorem DR.getE (d : DR y x L) (hi : y.Inv) {h i : Int} (h0 : 0 ≤ h) : get3E x L h i = y.atE h i := by
  unfold get3E PA.atE
  rw [d.word hi h0]
  cases y.wordI h i with
  | none => exact d.err hi h0
  | some r => rfl
theorem DR.fault (d : DR y x L) : DR y.fault x.fault L := ⟨d.doc, d.heap, d.cap, d.births, d.peak, by show x.faults + 1 = ((y.faults + 1 : Nat) : Int); rw [d.faults]; rfl, d.fx9, d.fx, d.t0, d.t1, d.t2, d.t3, d.t4, d.t5⟩
theorem DR.read (d : DR y x L) (hi : y.Inv) {h i : Int} (h0 : 0 ≤ h) : DR (y.rdX h i) (read3Y x L h i) L := by
  unfold PA.rdX read3Y
  rw [d.word hi h0]
  cases y.wordI h i with
  | none => exact d.fault
  | some r => exact ⟨d.doc, d.heap, d.cap, d.births, d.peak, d.faults, d.fx9, d.fx, d.t0, d.t1, by show x.t2 + 1 = ((y.t.reads + 1 : Nat) : Int); rw [d.t2]; rfl, d.t3, d.t4, d.t5⟩
end
theorem setPA_map (h i w : Nat) : ∀ l : PBs, (setPA h i w l).map (fun b => b.2) = (l.map fun b => b.2).map fun b => if b.1 = h then (b.1, b.2.set i w) else b
  | [] => rfl
  | (n, h', ws) :: l => by
    simp only [setPA, List.map_cons, setPA_map h i w l]
    rw [beq_dec]
    by_cases e : h' = h
    · rw [decide_eq_true e, cond_true, if_pos e]
    · rw [decide_eq_false e, cond_false, if_neg e]
theorem DocOf.nd {bs : PBs} {L : DBs} (hd : DocOf bs L) (hn : (bs.map fun b => b.2.1).Nodup) : (L.map fun b => b.1).Nodup := by
  have := hd.perm.map fun b : Nat × List Nat => b.1
  rw [List.map_map] at this
  exact this.nodup_iff.2 hn
theorem set_map3 {L : DBs} {h i w k : Nat} {ws : List Nat} (hn : (L.map fun b => b.1).Nodup) (hk : k < L.length) (hb : blk3 L k = (h, ws)) : set3L L k i w = L.map fun b => if b.1 = h then (b.1, b.2.set i w) else b := by
  have hk2 : L[k] = (h, ws) := by
    have := blk3_some hk
    rw [hb, List.getElem?_eq_getElem hk] at this
    exact Option.some.inj this
  refine List.ext_getElem (by rw [set3L_len, List.length_map]) fun j h1 h2 => ?_
  rw [List.length_map] at h2
  have e0 : set3L L k i w = L.set k (h, ws.set i w) := by unfold set3L; rw [hb]
  simp only [e0]
  rw [List.getElem_set, List.getElem_map]
  by_cases e : k = j
  · subst e
    rw [if_pos rfl, hk2, if_pos rfl]
  · rw [if_neg e, if_neg]
    intro e2
    have h3 : (L.map fun b => b.1)[k]'(by simpa using hk) = (L.map fun b => b.1)[j]'(by simpa using h2) := by
      rw [List.getElem_map, List.getElem_map, hk2, e2]
    exact e ((List.getElem_inj hn).1 h3)
theorem fxL_setF (x : D3) (i : Nat) (w : Int) : (x.setF i w).fxL = x.fxL.set i w := by
  unfold D3.setF D3.fxL
  rcases i with _ | _ | _ | _ | _ | _ | _ | _ | _ | i <;> simp
section
variable {y : PA} {x : D3} {L : DBs}
theorem DR.set (d : DR y x L) (hi : y.Inv) {h i w : Int} {r : Nat} (h0 : 0 ≤ h) (hw : y.wordI h i = some r) (w0 : 0 ≤ w) : DR (y.set h.toNat i.toNat w.toNat) (set3X x h i w) (set3B L h i w) := by
  have h1 : 0 ≤ i := by
    unfold PA.wordI at hw
    rw [leI_dec] at hw
    rcases Int.lt_or_le i 0 with h' | h'
    · rw [decide_eq_false (by omega)] at hw; cases hw
    · exact h'
  unfold PA.set set3X set3B
  rw [beq_dec]
  by_cases e : h = 0
  · subst e
    rw [show decide ((0 : Int).toNat = 0) = true from rfl, cond_true, if_pos rfl, if_pos rfl]
    refine ⟨d.doc, d.heap, d.cap, d.births, d.peak, d.faults, by simpa using d.fx9, ?_, d.t0, d.t1, d.t2, d.t3, d.t4, d.t5⟩
    rw [fxL_setF, d.fx, List.map_set, Int.toNat_of_nonneg w0]
  · rw [decide_eq_false (show ¬ h.toNat = 0 by omega), cond_false, if_neg e, if_neg e]
    rcases d.find hi h0 with ⟨k, ws, hf, hp, hk, hb⟩ | ⟨hf, hp⟩
    · rw [hp, Int.toNat_natCast]
      refine ⟨⟨?_, ?_⟩, d.heap, d.cap, d.births, d.peak, d.faults, d.fx9, d.fx, d.t0, d.t1, d.t2, d.t3, d.t4, d.t5⟩
      · show (set3L L k i.toNat w.toNat).Perm ((setPA h.toNat i.toNat w.toNat y.bs).map fun b => b.2)
        rw [setPA_map, set_map3 (d.doc.nd hi.nd) hk hb]
        exact d.doc.perm.map _
      · rw [set_map3 (d.doc.nd hi.nd) hk hb, List.pairwise_map]
        refine d.doc.sort.imp fun {a b} hab => ?_
        split <;> split <;> exact hab
    · unfold PA.wordI PA.word at hw
      rw [leI_dec, decide_eq_true h1, cond_true, beq_dec, decide_eq_false (show ¬ h.toNat = 0 by omega), cond_false, hf] at hw
      cases hw
theorem DR.tick (d : DR y x L) {f : Tly → Tly} {x' : D3} (h1 : x'.cap = x.cap ∧ x'.births = x.births ∧ x'.peak = x.peak ∧ x'.faults = x.faults ∧ x'.fxL = x.fxL) (h2 : x'.t0 = (f y.t).lays ∧ x'.t1 = (f y.t).frees ∧ x'.t2 = (f y.t).reads ∧ x'.t3 = (f y.t).writes ∧ x'.t4 = (f y.t).swaps ∧ x'.t5 = (f y.t).adds) : DR (y.tick f) x' L :=
  ⟨d.doc, d.heap, h1.1.trans d.cap, h1.2.1.trans d.births, h1.2.2.1.trans d.peak, h1.2.2.2.1.trans d.faults, d.fx9, h1.2.2.2.2.trans d.fx, h2.1, h2.2.1, h2.2.2.1, h2.2.2.2.1, h2.2.2.2.2.1, h2.2.2.2.2.2⟩
theorem set3X_eq (x : D3) (h i w : Int) : (set3X x h i w).cap = x.cap ∧ (set3X x h i w).births = x.births ∧ (set3X x h i w).peak = x.peak ∧ (set3X x h i w).faults = x.faults ∧ (set3X x h i w).t0 = x.t0 ∧ (set3X x h i w).t1 = x.t1 ∧ (set3X x h i w).t2 = x.t2 ∧ (set3X x h i w).t3 = x.t3 ∧ (set3X x h i w).t4 = x.t4 ∧ (set3X x h i w).t5 = x.t5 := by
  unfold set3X
  split
  · exact ⟨rfl, rfl, rfl, rfl, rfl, rfl, rfl, rfl, rfl, rfl⟩
  · exact ⟨rfl, rfl, rfl, rfl, rfl, rfl, rfl, rfl, rfl, rfl⟩
theorem set3X_fx (x x' : D3) (h i w : Int) (e : x'.fxL = x.fxL) : (set3X x' h i w).fxL = (set3X x h i w).fxL := by
  unfold set3X
  split
  · rw [fxL_setF, fxL_setF, e]
  · exact e
theorem set_t (y : PA) (h i w : Nat) : (y.set h i w).t = y.t := by unfold PA.set; cases Nat.beq h 0 <;> rfl
theorem DR.write (d : DR y x L) (hi : y.Inv) {h i w : Int} (h0 : 0 ≤ h) (w0 : 0 ≤ w) : DR (y.wrX h i w) (write3Y x L h i w) (write3B x L h i w) := by
  unfold PA.wrX write3Y write3B
  rw [d.word hi h0]
  cases hw : y.wordI h i with
  | none => exact d.fault
  | some r =>
    obtain ⟨e1, e2, e3, e4, e5, e6, e7, e8, e9, e10⟩ := set3X_eq { x with t3 := x.t3 + 1 } h i w
    obtain ⟨f1, f2, f3, f4, f5, f6, f7, f8, f9, f10⟩ := set3X_eq x h i w
    have et := set_t y h.toNat i.toNat w.toNat
    refine (d.set hi h0 hw w0).tick (x' := set3X { x with t3 := x.t3 + 1 } h i w) ⟨e1.trans f1.symm, e2.trans f2.symm, e3.trans f3.symm, e4.trans f4.symm, set3X_fx _ _ _ _ _ rfl⟩ ?_
    rw [et]
    refine ⟨e5.trans d.t0, e6.trans d.t1, e7.trans d.t2, ?_, e9.trans d.t4, e10.trans d.t5⟩
    rw [e8]
    show x.t3 + 1 = ((y.t.writes + 1 : Nat) : Int)
    rw [d.t3]; rfl
theorem DR.add (d : DR y x L) (hi : y.Inv) {h i w : Int} (h0 : 0 ≤ h) (w0 : 0 ≤ w) : DR (y.adX h i w) (add3Y x L h i w) (add3B x L h i w) := by
  unfold PA.adX add3Y add3B
  rw [d.word hi h0]
  cases hw : y.wordI h i with
  | none => exact d.fault
  | some r =>
    simp only [Option.map_some]
    have ew : add3W (r : Int) w = (addW ((y.word h.toNat i.toNat).getD 0) w.toNat : Nat) := by
      have h2 : y.word h.toNat i.toNat = some r := by
        unfold PA.wordI at hw
        cases hl : leI 0 i <;> rw [hl] at hw
        · cases hw
        · exact hw
      rw [h2]
      unfold add3W addW
      simp only [Option.getD_some]
      have : ((r + w.toNat : Nat) : Int) = r + w := by omega
      unfold TW
      omega
    have w1 : 0 ≤ add3W (r : Int) w := by unfold add3W; omega
    obtain ⟨e1, e2, e3, e4, e5, e6, e7, e8, e9, e10⟩ := set3X_eq { x with t5 := x.t5 + 1 } h i (add3W r w)
    obtain ⟨f1, f2, f3, f4, f5, f6, f7, f8, f9, f10⟩ := set3X_eq x h i (add3W r w)
    have e0 : (add3W (r : Int) w).toNat = addW ((y.word h.toNat i.toNat).getD 0) w.toNat := by rw [ew]; exact Int.toNat_natCast _
    have et := set_t y h.toNat i.toNat (add3W (r : Int) w).toNat
    have hs := d.set hi h0 hw w1
    have hgoal := hs.tick (f := fun t => { t with adds := t.adds + 1 }) (x' := set3X { x with t5 := x.t5 + 1 } h i (add3W r w)) ⟨e1.trans f1.symm, e2.trans f2.symm, e3.trans f3.symm, e4.trans f4.symm, set3X_fx _ _ _ _ _ rfl⟩ (by
      rw [et]
      refine ⟨e5.trans d.t0, e6.trans d.t1, e7.trans d.t2, e8.trans d.t3, e9.trans d.t4, ?_⟩
      rw [e10]
      show x.t5 + 1 = ((y.t.adds + 1 : Nat) : Int)
      rw [d.t5]; rfl)
    rw [e0] at hgoal
    exact hgoal
theorem DR.swapR (d : DR y x L) (hi : y.Inv) {h i o : Int} (h0 : 0 ≤ h) : swap3R x L h i o = y.swB h i o := by
  unfold swap3R PA.swB
  rw [d.word hi h0]
  cases y.wordI h i with
  | none => rfl
  | some r =>
    show decide ((r : Int) = o) = eqI r o
    rw [eqI_dec]
theorem DR.swap (d : DR y x L) (hi : y.Inv) {h i o w : Int} (h0 : 0 ≤ h) (w0 : 0 ≤ w) : DR (y.swX h i o w) (swap3Y x L h i o w) (swap3B x L h i o w) := by
  unfold PA.swX swap3Y swap3B
  rw [d.word hi h0]
  cases hw : y.wordI h i with
  | none => exact d.fault
  | some r =>
    simp only [Option.map_some]
    rw [eqI_dec]
    by_cases e : (r : Int) = o
    · rw [decide_eq_true e, cond_true, if_pos e, if_pos e]
      obtain ⟨e1, e2, e3, e4, e5, e6, e7, e8, e9, e10⟩ := set3X_eq { x with t4 := x.t4 + 1 } h i w
      obtain ⟨f1, f2, f3, f4, f5, f6, f7, f8, f9, f10⟩ := set3X_eq x h i w
      have et := set_t y h.toNat i.toNat w.toNat
      refine (d.set hi h0 hw w0).tick (x' := set3X { x with t4 := x.t4 + 1 } h i w) ⟨e1.trans f1.symm, e2.trans f2.symm, e3.trans f3.symm, e4.trans f4.symm, set3X_fx _ _ _ _ _ rfl⟩ ?_
      rw [et]
      refine ⟨e5.trans d.t0, e6.trans d.t1, e7.trans d.t2, e8.trans d.t3, ?_, e10.trans d.t5⟩
      rw [e9]
      show x.t4 + 1 = ((y.t.swaps + 1 : Nat) : Int)
      rw [d.t4]; rfl
    · rw [decide_eq_false e, cond_false, if_neg e, if_neg e]
      exact d.tick ⟨rfl, rfl, rfl, rfl, rfl⟩ ⟨d.t0, d.t1, d.t2, d.t3, by show x.t4 + 1 = ((y.t.swaps + 1 : Nat) : Int); rw [d.t4]; rfl, d.t5⟩
end
theorem freeB_perm {h : Nat} {ws : List Nat} : ∀ {l : PBs}, findP h l = some ws → ∃ n, l.Perm ((n, h, ws) :: freeB h l)
  | [], e => by cases e
  | (n, h', ws') :: l, e => by
    simp only [findP] at e
    simp only [freeB]
    rw [beq_dec] at e ⊢
    by_cases e1 : h' = h
    · subst e1
      rw [decide_eq_true rfl, cond_true] at e ⊢
      cases e
      exact ⟨n, List.Perm.refl _⟩
    · rw [decide_eq_false e1, cond_false] at e ⊢
      obtain ⟨m, hm⟩ := freeB_perm e
      exact ⟨m, (List.Perm.cons _ hm).trans (List.Perm.swap _ _ _)⟩
theorem split_at {L : DBs} {k : Nat} (hk : k < L.length) : L = L.take k ++ blk3 L k :: L.drop (k + 1) := by
  have h1 : L.drop k = blk3 L k :: L.drop (k + 1) := by
    rw [List.drop_eq_getElem_cons hk]
    congr 1
    have := blk3_some hk
    rw [List.getElem?_eq_getElem hk] at this
    exact Option.some.inj this
  conv => lhs; rw [← List.take_append_drop k L]
  rw [h1]
section
variable {y : PA} {x : D3} {L : DBs}
theorem DR.freeE (d : DR y x L) (hi : y.Inv) {h : Int} (h0 : 0 ≤ h) : free3E L h = y.frE h := by
  unfold free3E PA.frE
  rcases d.find hi h0 with ⟨k, ws, hf, hp, hk, hb⟩ | ⟨hf, hp⟩
  · rw [hp, if_neg (by omega), hf]
  · rw [hp, if_pos (by omega), hf]
theorem DR.free (d : DR y x L) (hi : y.Inv) {h : Int} (h0 : 0 ≤ h) : DR (y.frX h) (free3Y x L h) (free3B L h) := by
  unfold PA.frX free3Y free3B
  rcases d.find hi h0 with ⟨k, ws, hf, hp, hk, hb⟩ | ⟨hf, hp⟩
  · rw [hp, if_neg (by omega), if_neg (by omega), hf, Int.toNat_natCast]
    refine ⟨⟨?_, ?_⟩, d.heap.push _, d.cap, d.births, d.peak, d.faults, d.fx9, d.fx, d.t0, by show x.t1 + 1 = ((y.t.frees + 1 : Nat) : Int); rw [d.t1]; rfl, d.t2, d.t3, d.t4, d.t5⟩
    · obtain ⟨n, hperm⟩ := freeB_perm hf
      have h1 : L.Perm ((h.toNat, ws) :: ((freeB h.toNat y.bs).map fun b => b.2)) := d.doc.perm.trans (hperm.map fun b => b.2)
      have h2 : L.Perm ((h.toNat, ws) :: (L.take k ++ L.drop (k + 1))) := by
        conv => lhs; rw [split_at hk, hb]
        exact List.perm_middle
      exact (h2.symm.trans h1).cons_inv
    · have h1 := d.doc.sort
      rw [split_at hk] at h1
      exact h1.sublist (List.Sublist.append (List.Sublist.refl _) (List.sublist_cons_self _ _))
  · rw [hp, if_pos (by omega), if_pos (by omega), hf]
    exact d.fault
end
theorem appB_eq2 (n h : Nat) (ws : List Nat) : ∀ l : PBs, appB n h ws l = l ++ [(n, h, ws)]
  | [] => rfl
  | x :: l => by simp only [appB, appB_eq2 n h ws l, List.cons_append]
theorem gap_row : ∀ (L : DBs) (k : Nat), L.Pairwise (fun a b => a.1 % 65536 < b.1 % 65536) → (∀ b ∈ L, k + 1 ≤ b.1 % 65536) →
    ∃ g, gapG L k = k + g ∧ g ≤ L.length ∧ (∀ j, j < g → (blk3 L j).1 % 65536 = k + j + 1) ∧ (∀ b ∈ L.drop g, k + g + 1 < b.1 % 65536)
  | [], k, _, _ => ⟨0, rfl, Nat.le_refl _, fun j hj => absurd hj (Nat.not_lt_zero j), fun b hb => (by cases hb)⟩
  | b :: l, k, hs, hk => by
    have hs2 := List.pairwise_cons.1 hs
    have hb := hk b List.mem_cons_self
    simp only [gapG]
    by_cases e : b.1 % 65536 = k + 1
    · rw [if_pos e]
      obtain ⟨g, h1, h2, h3, h4⟩ := gap_row l (k + 1) hs2.2 (fun c hc => by have := hs2.1 c hc; omega)
      refine ⟨g + 1, by omega, by simpa using h2, fun j hj => ?_, fun c hc => ?_⟩
      · cases j with
        | zero => simpa [blk3] using e
        | succ j =>
          have := h3 j (by omega)
          simp only [blk3, List.getD_cons_succ] at this ⊢
          omega
      · have := h4 c (by simpa using hc)
        omega
    · rw [if_neg e]
      refine ⟨0, rfl, Nat.zero_le _, fun j hj => absurd hj (Nat.not_lt_zero j), fun c hc => ?_⟩
      rw [List.drop_zero] at hc
      rcases List.mem_cons.1 hc with rfl | hc
      · omega
      · have := hs2.1 c hc; omega
section
variable {y : PA} {x : D3} {L : DBs}
theorem PA.Inv.numbers {y : PA} (h : y.Inv) : (∀ b ∈ y.bs, 1 ≤ b.1 ∧ b.1 ≤ y.high ∧ b.2.1 % 65536 = b.1) ∧ (y.bs.map fun b => b.1).Nodup ∧ (∀ n ∈ y.bk, 1 ≤ n ∧ n ≤ y.high ∧ n ∉ y.bs.map fun b => b.1) ∧ y.high = y.bs.length + y.bk.length ∧ y.bk.Nodup ∧ y.high ≤ 60000 := by
  obtain ⟨z, hi⟩ := h
  have e := blksOf_key z y.bs 0
  have en : (blksOf z 0 y.bs).map (·.n) = y.bs.map fun b => b.1 := by
    conv => rhs; rw [← e, List.map_map]
    rfl
  refine ⟨fun b hb => ?_, ?_, fun n hn => ?_, ?_, hi.bnd, hi.hmax⟩
  · rw [← e] at hb
    obtain ⟨c, hc, rfl⟩ := List.mem_map.1 hb
    obtain ⟨h1, h2, h3, _⟩ := hi.range c hc
    exact ⟨h1, h2, h3⟩
  · rw [← en]; exact hi.apart
  · obtain ⟨h1, h2, h3⟩ := hi.backs n hn
    refine ⟨h1, h2, fun h4 => h3 ?_⟩
    rw [hi.nums.mem_iff]
    show n ∈ (blksOf z 0 y.bs).map (·.n)
    rw [en]; exact h4
  · have h1 : y.high = (blksOf z 0 y.bs).length + y.bk.length := hi.high
    rw [h1]
    congr 1
    have := congrArg List.length en
    simpa using this
theorem nodup_le : ∀ (n : Nat) (l : List Nat), l.Nodup → (∀ a ∈ l, 1 ≤ a ∧ a ≤ n) → l.length ≤ n
  | 0, l, _, h => by
    cases l with
    | nil => exact Nat.le_refl _
    | cons a l => have := h a List.mem_cons_self; omega
  | n + 1, l, hn, h => by
    have h1 := nodup_le n (l.erase (n + 1)) (hn.erase _) fun a ha => by
      have h2 := (hn.mem_erase_iff).1 ha
      have := h a h2.2
      omega
    have h2 := List.length_erase (a := n + 1) (l := l)
    split at h2 <;> omega
theorem all_there {n : Nat} {l : List Nat} (hn : l.Nodup) (h : ∀ a ∈ l, 1 ≤ a ∧ a ≤ n) (hl : l.length = n) {k : Nat} (h1 : 1 ≤ k) (h2 : k ≤ n) : k ∈ l := by
  apply Classical.byContradiction
  intro hk
  have h3 := nodup_le n (k :: l) (List.nodup_cons.2 ⟨hk, hn⟩) fun a ha => by
    rcases List.mem_cons.1 ha with rfl | ha
    · exact ⟨h1, h2⟩
    · exact h a ha
  simp only [List.length_cons] at h3
  omega
theorem DR.next (d : DR y x L) (hi : y.Inv) : ∃ g, gapG L 0 = g ∧ y.nextN = g + 1 ∧ g ≤ L.length ∧ (∀ b ∈ L.take g, b.1 % 65536 < g + 1) ∧ (∀ b ∈ L.drop g, g + 1 < b.1 % 65536) := by
  obtain ⟨n1, n2, n3, n4, n5, n6⟩ := hi.numbers
  have hmem : ∀ b, b ∈ L ↔ ∃ n, (n, b) ∈ y.bs := fun b => by
    rw [d.doc.perm.mem_iff, List.mem_map]
    exact ⟨fun ⟨⟨n, c⟩, hc, e⟩ => ⟨n, by have e : c = b := e; rw [← e]; exact hc⟩, fun ⟨n, hc⟩ => ⟨_, hc, rfl⟩⟩
  obtain ⟨g, h1, h2, h3, h4⟩ := gap_row L 0 d.doc.sort fun b hb => by
    obtain ⟨n, hn⟩ := (hmem b).1 hb
    have := n1 _ hn
    dsimp only at this
    omega
  have used : ∀ m, m ∈ (y.bs.map fun b => b.1) ↔ ∃ b ∈ L, b.1 % 65536 = m := fun m => by
    rw [List.mem_map]
    constructor
    · rintro ⟨⟨n, b⟩, hb, rfl⟩
      exact ⟨b, (hmem b).2 ⟨n, hb⟩, (n1 _ hb).2.2⟩
    · rintro ⟨b, hb, rfl⟩
      obtain ⟨n, hn⟩ := (hmem b).1 hb
      exact ⟨_, hn, (n1 _ hn).2.2.symm⟩
  have low : ∀ j, 1 ≤ j → j ≤ g → j ∈ (y.bs.map fun b => b.1) := fun j j1 j2 => by
    rw [used]
    refine ⟨blk3 L (j - 1), ?_, by rw [h3 (j - 1) (by omega)]; omega⟩
    exact List.mem_of_getElem? (blk3_some (by omega))
  have hgap : g + 1 ∉ (y.bs.map fun b => b.1) := fun h5 => by
    rw [used] at h5
    obtain ⟨b, hb, hbe⟩ := h5
    rw [← List.take_append_drop g L, List.mem_append] at hb
    rcases hb with hb | hb
    · obtain ⟨j, hj, e⟩ := List.getElem_of_mem hb
      have hjg : j < g := by rw [List.length_take] at hj; omega
      have h6 := h3 j hjg
      have h7 : blk3 L j = b := by
        have h8 := blk3_some (bs := L) (i := j) (by omega)
        rw [List.getElem_take] at e
        rw [List.getElem?_eq_getElem (by omega), e] at h8
        exact (Option.some.inj h8).symm
      rw [h7] at h6
      omega
    · have := h4 b hb; omega
  refine ⟨g, by omega, ?_, h2, fun b hb => ?_, fun b hb => by have := h4 b hb; omega⟩
  · have all : ((y.bs.map fun b => b.1) ++ y.bk).Nodup := by
      rw [List.nodup_append]
      exact ⟨n2, n5, fun a ha b hb e => (n3 b hb).2.2 (e ▸ ha)⟩
    have alln : ((y.bs.map fun b => b.1) ++ y.bk).length = y.high := by rw [List.length_append, List.length_map]; exact n4.symm
    have allr : ∀ a ∈ (y.bs.map fun b => b.1) ++ y.bk, 1 ≤ a ∧ a ≤ y.high := fun a ha => by
      rcases List.mem_append.1 ha with ha | ha
      · obtain ⟨b, hb, rfl⟩ := List.mem_map.1 ha
        exact ⟨(n1 b hb).1, (n1 b hb).2.1⟩
      · exact ⟨(n3 a ha).1, (n3 a ha).2.1⟩
    unfold PA.nextN
    cases hbk : y.bk with
    | nil =>
      show y.high + 1 = g + 1
      rcases Nat.lt_trichotomy y.high g with h5 | h5 | h5
      · have := low g (by omega) (Nat.le_refl _)
        have := allr g (List.mem_append_left _ this)
        omega
      · omega
      · have := all_there all allr alln (k := g + 1) (by omega) (by omega)
        rw [hbk, List.append_nil] at this
        exact absurd this hgap
    | cons k l =>
      show k = g + 1
      have hk := n3 k (by rw [hbk]; exact List.mem_cons_self)
      rcases Nat.lt_trichotomy k (g + 1) with h5 | h5 | h5
      · exact absurd (low k hk.1 (by omega)) hk.2.2
      · exact h5
      · have := all_there all allr alln (k := g + 1) (by omega) (by omega)
        rcases List.mem_append.1 this with h6 | h6
        · exact absurd h6 hgap
        · have hh := d.heap
          rw [hbk] at hh h6
          have := hh.least _ h6
          omega
  · obtain ⟨j, hj, e⟩ := List.getElem_of_mem hb
    have hjg : j < g := by rw [List.length_take] at hj; omega
    have h6 := h3 j hjg
    have h7 : blk3 L j = b := by
      have h8 := blk3_some (bs := L) (i := j) (by omega)
      rw [List.getElem_take] at e
      rw [List.getElem?_eq_getElem (by omega), e] at h8
      exact (Option.some.inj h8).symm
    rw [h7] at h6
    omega
theorem DR.lay (d : DR y x L) (hi : y.Inv) (ws : List Nat) (hb : y.births < 268435455) : y.layE ws.length = (if ws.length = 0 ∨ 2048 < ws.length then 2 else if x.cap < (tot3 L + ws.length : Nat) then 20 else 0) ∧
    (y.layE ws.length = 0 → (y.layV ws.length : Int) = ((handleF (x.births.toNat + 1) (gapG L 0 + 1)).1 : Nat) ∧
      DR (y.layX ws.length ws) { x with births := x.births + 1, t0 := x.t0 + 1, peak := if x.peak < (tot3 L + ws.length : Nat) then ((tot3 L + ws.length : Nat) : Int) else x.peak } (lay3 L ((handleF (x.births.toNat + 1) (gapG L 0 + 1)).1, ws))) := by
  have hu := d.used hi
  have hcap := d.cap
  refine ⟨?_, fun he => ?_⟩
  · unfold PA.layE layE
    by_cases h1 : ws.length = 0 ∨ 2048 < ws.length
    · rw [if_pos h1, if_pos h1]
    · rw [if_neg h1, if_neg h1]
      by_cases h2 : y.cap < y.used + ws.length
      · rw [if_pos h2, if_pos (by omega)]
      · rw [if_neg h2, if_neg (by omega), if_neg (by omega)]
  · obtain ⟨g, h1, h2, h3, h4, h5⟩ := d.next hi
    have hn := hi.next
    have e0 : eqI (y.layE ws.length) 0 = true := by rw [eqI_dec]; exact decide_eq_true he
    have eb : x.births.toNat = y.births := by rw [d.births]; exact Int.toNat_natCast _
    have eh : (handleF (x.births.toNat + 1) (gapG L 0 + 1)).1 = y.hdlG := by
      unfold handleF PA.hdlG
      rw [if_pos (by omega), h1, eb, h2]
    have em : y.hdlG % 65536 = g + 1 := by unfold PA.hdlG; omega
    refine ⟨by unfold PA.layV; rw [e0, eh]; rfl, ?_⟩
    unfold PA.layX
    rw [e0, cond_true, eh]
    refine ⟨⟨?_, ?_⟩, ?_, d.cap, by show x.births + 1 = ((y.births + 1 : Nat) : Int); rw [d.births]; rfl, ?_, d.faults, d.fx9, d.fx, by show x.t0 + 1 = ((y.t.lays + 1 : Nat) : Int); rw [d.t0]; rfl, d.t1, d.t2, d.t3, d.t4, d.t5⟩
    · show (lay3 L (y.hdlG, ws)).Perm ((appB y.nextN y.hdlG ws y.bs).map fun b => b.2)
      rw [appB_eq2, List.map_append]
      unfold lay3
      refine List.perm_middle.trans ?_
      rw [List.take_append_drop]
      exact (List.Perm.cons _ d.doc.perm).trans (List.perm_append_comm (l₁ := [(y.hdlG, ws)]))
    · unfold lay3
      rw [h1]
      have hs := d.doc.sort
      rw [← List.take_append_drop g L, List.pairwise_append] at hs
      rw [List.pairwise_append]
      refine ⟨hs.1, List.pairwise_cons.2 ⟨fun b hb => ?_, hs.2.1⟩, fun a ha b hb => ?_⟩
      · rw [em]; exact h5 b hb
      · rcases List.mem_cons.1 hb with rfl | hb
        · rw [em]; exact h4 a ha
        · exact hs.2.2 a ha b hb
    · show HeapL (match y.bk with | [] => [] | k :: l => popH (k :: l))
      have hh := d.heap
      cases hbk : y.bk with
      | nil => exact HeapL.nil
      | cons k l => rw [hbk] at hh; exact hh.pop
    · show (if x.peak < ((tot3 L + ws.length : Nat) : Int) then ((tot3 L + ws.length : Nat) : Int) else x.peak) = ((max y.peak (y.used + ws.length) : Nat) : Int)
      rw [hu, d.peak]
      split <;> omega
theorem DR.new (c : Nat) : DR (PA.new c) ⟨c, 0, 0, 0, 0, 0, 0, 0, 0, 0, 0, 0, 0, 0, 0, 0, 0, 0, 0⟩ [] := ⟨⟨List.Perm.refl _, List.Pairwise.nil⟩, HeapL.nil, rfl, rfl, rfl, rfl, rfl, rfl, rfl, rfl, rfl, rfl, rfl, rfl⟩
theorem DR.clone (d : DR y x L) {l : PBs} (hp : l.Perm y.bs) : DR { y with bs := l } x L := ⟨d.doc.of_perm hp.symm, d.heap, d.cap, d.births, d.peak, d.faults, d.fx9, d.fx, d.t0, d.t1, d.t2, d.t3, d.t4, d.t5⟩
end
end Go.Proofs.Ytnkikhhiaecebaa

/- Arenas and the document's, as the law ArenaPlays has them: what its loops keep. No program in sight. -/
namespace Go.Proofs.Ytnkikhhiaecebaa
open Go Go.RowKit
set_option maxRecDepth 100000
def d3V (y : D3) (A : Option Addr) (L C : Nat) : List Value := [.int .i64 y.cap, .int .i64 y.births, .int .i64 y.peak, .int .i64 y.faults, .int .u64 y.x0, .int .u64 y.x1, .int .u64 y.x2, .int .u64 y.x3, .int .u64 y.x4, .int .u64 y.x5, .int .u64 y.x6, .int .u64 y.x7, .int .u64 y.x8, .slice A L C, .int .i64 y.t0, .int .i64 y.t1, .int .i64 y.t2, .int .i64 y.t3, .int .i64 y.t4, .int .i64 y.t5]
structure PAB (i : Nat) (x : PA) : Prop where
  cap : x.cap ≤ 60000
  births : x.births ≤ i
  faults : x.faults ≤ i
  t0 : x.t.lays ≤ i
  t1 : x.t.frees ≤ i
  t2 : x.t.reads ≤ i
  t3 : x.t.writes ≤ i
  t4 : x.t.swaps ≤ i
  t5 : x.t.adds ≤ i
structure Doc1 where
  x : PA
  y : D3
  A : Option Addr
  L : Nat
  C : Nat
  bs : DBs
structure AR (W : World) (i : Nat) (d : Doc1) : Prop where
  at' : DocAt W d.A d.L d.C d.bs
  dr : DR d.x d.y d.bs
  b : PAB i d.x
  few : d.bs.length ≤ i
  tot : tot3 d.bs ≤ 2048 * i
structure APS (W0 : World) (i : Nat) where
  W : World
  g : Grow W0 W
  N : Nat
  h1 : 1 ≤ N
  h4 : N ≤ 4
  c1 : Nat
  c2 : Nat
  d : Nat → Doc1
  ok : ∀ j, j < N → AR W i (d j)
structure OpW (W : World) where
  v : OpN
  k0 : -9223372036854775808 ≤ v.k ∧ v.k ≤ 9223372036854775807
  ok : opOk v
  n0 : 0 ≤ v.n ∧ v.n < 18446744073709551616
  m0 : 0 ≤ v.m ∧ v.m < 18446744073709551616
  ws : ∀ j, j < v.wl → Seen .u64 W (addOpt v.wa j)
  wsm : 0 < v.wl → v.wa.isSome = true
  wlen : v.wl ≤ 9223372036854775807
structure LZ (W0 : World) (i c : Nat) where
  W : World
  g : Grow W0 W
  c1 : Nat
  c2 : Nat
  d : Nat → Doc1
  ok : ∀ j, j < c → AR W i (d j)

theorem AR.ok3 {W : World} {i : Nat} {d : Doc1} (h : AR W i d) (hi : i ≤ 100) : D3Ok d.y := by
  obtain ⟨_, r, b, _, _⟩ := h
  obtain ⟨b1, b2, b3, b4, b5, b6, b7, b8, b9⟩ := b
  refine ⟨?_, ?_, ?_, ?_, ?_, ?_, ?_, ?_, ?_⟩
  · rw [r.cap]; omega
  · rw [r.births]; omega
  · rw [r.faults]; omega
  · rw [r.t0]; omega
  · rw [r.t1]; omega
  · rw [r.t2]; omega
  · rw [r.t3]; omega
  · rw [r.t4]; omega
  · rw [r.t5]; omega
theorem PAB.le {i i' : Nat} {x : PA} (h : PAB i x) (hi : i ≤ i') : PAB i' x := ⟨h.cap, Nat.le_trans h.births hi, Nat.le_trans h.faults hi, Nat.le_trans h.t0 hi, Nat.le_trans h.t1 hi, Nat.le_trans h.t2 hi, Nat.le_trans h.t3 hi, Nat.le_trans h.t4 hi, Nat.le_trans h.t5 hi⟩
theorem AR.grow {W W' : World} {i i' : Nat} {d : Doc1} (h : AR W i d) (g : Grow W W') (hi : i ≤ i') : AR W' i' d := ⟨h.at'.grow g, h.dr, h.b.le hi, Nat.le_trans h.few hi, Nat.le_trans h.tot (Nat.mul_le_mul_left 2048 hi)⟩
structure PAfew3 (x : PA) : Prop where
  faults : x.faults ≤ 1000000000
  t0 : x.t.lays ≤ 1000000000
  t1 : x.t.frees ≤ 1000000000
  t2 : x.t.reads ≤ 1000000000
  t3 : x.t.writes ≤ 1000000000
  t4 : x.t.swaps ≤ 1000000000
  t5 : x.t.adds ≤ 1000000000
theorem AR.few3 {W : World} {i : Nat} {d : Doc1} (h : AR W i d) (hi : i ≤ 100) : PAfew3 d.x := ⟨by have := h.b.faults; omega, by have := h.b.t0; omega, by have := h.b.t1; omega, by have := h.b.t2; omega, by have := h.b.t3; omega, by have := h.b.t4; omega, by have := h.b.t5; omega⟩
structure PAstep (x x' : PA) : Prop where
  cap : x'.cap = x.cap
  births : x'.births ≤ x.births + 1
  faults : x'.faults ≤ x.faults + 1
  t0 : x'.t.lays ≤ x.t.lays + 1
  t1 : x'.t.frees ≤ x.t.frees + 1
  t2 : x'.t.reads ≤ x.t.reads + 1
  t3 : x'.t.writes ≤ x.t.writes + 1
  t4 : x'.t.swaps ≤ x.t.swaps + 1
  t5 : x'.t.adds ≤ x.t.adds + 1
theorem PAB.step {i : Nat} {x x' : PA} (h : PAB i x) (s : PAstep x x') : PAB (i + 1) x' := by
  obtain ⟨b1, b2, b3, b4, b5, b6, b7, b8, b9⟩ := h
  obtain ⟨s1, s2, s3, s4, s5, s6, s7, s8, s9⟩ := s
  exact ⟨by omega, by omega, by omega, by omega, by omega, by omega, by omega, by omega, by omega⟩
theorem step_fault (x : PA) : PAstep x x.fault := ⟨rfl, Nat.le_succ _, Nat.le_refl _, Nat.le_succ _, Nat.le_succ _, Nat.le_succ _, Nat.le_succ _, Nat.le_succ _, Nat.le_succ _⟩
theorem set_same9 (x : PA) (h i w : Nat) : (x.set h i w).cap = x.cap ∧ (x.set h i w).births = x.births ∧ (x.set h i w).faults = x.faults ∧ (x.set h i w).t = x.t := by
  unfold PA.set
  cases Nat.beq h 0 <;> exact ⟨rfl, rfl, rfl, rfl⟩
theorem step_of {x x' : PA} (hc : x'.cap = x.cap) (hb : x'.births ≤ x.births + 1) (hf : x'.faults = x.faults) (f : Tly → Tly) (ht : x'.t = f x.t) (h : ∀ t, (f t).lays ≤ t.lays + 1 ∧ (f t).frees ≤ t.frees + 1 ∧ (f t).reads ≤ t.reads + 1 ∧ (f t).writes ≤ t.writes + 1 ∧ (f t).swaps ≤ t.swaps + 1 ∧ (f t).adds ≤ t.adds + 1) : PAstep x x' := by
  obtain ⟨h1, h2, h3, h4, h5, h6⟩ := h x.t
  exact ⟨hc, hb, by omega, by rw [ht]; exact h1, by rw [ht]; exact h2, by rw [ht]; exact h3, by rw [ht]; exact h4, by rw [ht]; exact h5, by rw [ht]; exact h6⟩
theorem step_rd (x : PA) (h i : Int) : PAstep x (x.rdX h i) := by
  unfold PA.rdX
  split
  · exact step_of rfl (Nat.le_succ _) rfl (fun t => { t with reads := t.reads + 1 }) rfl fun t => ⟨Nat.le_succ _, Nat.le_succ _, Nat.le_refl _, Nat.le_succ _, Nat.le_succ _, Nat.le_succ _⟩
  · exact step_fault x
theorem step_wr (x : PA) (h i w : Int) : PAstep x (x.wrX h i w) := by
  unfold PA.wrX
  split
  · obtain ⟨e1, e2, e3, e4⟩ := set_same9 x h.toNat i.toNat w.toNat
    exact step_of e1 (by show (x.set _ _ _).births ≤ _; omega) e3 (fun t => { t with writes := t.writes + 1 }) (by show ({ (x.set _ _ _).t with writes := _ } : Tly) = _; rw [e4]) fun t => ⟨Nat.le_succ _, Nat.le_succ _, Nat.le_succ _, Nat.le_refl _, Nat.le_succ _, Nat.le_succ _⟩
  · exact step_fault x
theorem step_ad (x : PA) (h i w : Int) : PAstep x (x.adX h i w) := by
  unfold PA.adX
  split
  · unfold PA.add
    obtain ⟨e1, e2, e3, e4⟩ := set_same9 x h.toNat i.toNat (addW ((x.word h.toNat i.toNat).getD 0) w.toNat)
    exact step_of e1 (by show (x.set _ _ _).births ≤ _; omega) e3 (fun t => { t with adds := t.adds + 1 }) (by show ({ (x.set _ _ _).t with adds := _ } : Tly) = _; rw [e4]) fun t => ⟨Nat.le_succ _, Nat.le_succ _, Nat.le_succ _, Nat.le_succ _, Nat.le_succ _, Nat.le_refl _⟩
  · exact step_fault x
theorem step_sw (x : PA) (h i o w : Int) : PAstep x (x.swX h i o w) := by
  unfold PA.swX
  split
  · rename_i r _
    cases eqI (↑r) o
    · exact step_of rfl (Nat.le_succ _) rfl (fun t => { t with swaps := t.swaps + 1 }) rfl fun t => ⟨Nat.le_succ _, Nat.le_succ _, Nat.le_succ _, Nat.le_succ _, Nat.le_refl _, Nat.le_succ _⟩
    · obtain ⟨e1, e2, e3, e4⟩ := set_same9 x h.toNat i.toNat w.toNat
      exact step_of e1 (by show (x.set _ _ _).births ≤ _; omega) e3 (fun t => { t with swaps := t.swaps + 1 }) (by show ({ (x.set _ _ _).t with swaps := _ } : Tly) = _; rw [e4]) fun t => ⟨Nat.le_succ _, Nat.le_succ _, Nat.le_succ _, Nat.le_succ _, Nat.le_refl _, Nat.le_succ _⟩
  · exact step_fault x
theorem step_fr (x : PA) (h : Int) : PAstep x (x.frX h) := by
  unfold PA.frX
  split
  · exact step_of rfl (Nat.le_succ _) rfl (fun t => { t with frees := t.frees + 1 }) rfl fun t => ⟨Nat.le_succ _, Nat.le_refl _, Nat.le_succ _, Nat.le_succ _, Nat.le_succ _, Nat.le_succ _⟩
  · exact step_fault x
theorem step_la (x : PA) (k : Nat) (ws : List Nat) : PAstep x (x.layX k ws) := by
  unfold PA.layX
  cases eqI (x.layE k) 0
  · exact ⟨rfl, Nat.le_succ _, Nat.le_succ _, Nat.le_succ _, Nat.le_succ _, Nat.le_succ _, Nat.le_succ _, Nat.le_succ _, Nat.le_succ _⟩
  · exact step_of rfl (Nat.le_refl _) rfl (fun t => { t with lays := t.lays + 1 }) rfl fun t => ⟨Nat.le_refl _, Nat.le_succ _, Nat.le_succ _, Nat.le_succ _, Nat.le_succ _, Nat.le_succ _⟩
def Mild (bs bs' : DBs) : Prop := bs'.length ≤ bs.length ∧ tot3 bs' ≤ tot3 bs
theorem Mild.refl (bs : DBs) : Mild bs bs := ⟨Nat.le_refl _, Nat.le_refl _⟩
theorem mild_set (bs : DBs) (h i w : Int) : Mild bs (set3B bs h i w) := by
  unfold set3B
  split
  · exact Mild.refl bs
  · refine ⟨Nat.le_of_eq (set3L_len _ _ _ _), ?_⟩
    rcases Nat.lt_or_ge (pl3 bs h).toNat bs.length with hk | hk
    · exact Nat.le_of_eq (set3L_tot bs _ _ hk)
    · unfold set3L
      rw [List.set_eq_of_length_le hk]
      exact Nat.le_refl _
theorem mild_write (x : D3) (bs : DBs) (h i w : Int) : Mild bs (write3B x bs h i w) := by
  unfold write3B; split; exact mild_set _ _ _ _; exact Mild.refl _
theorem mild_add (x : D3) (bs : DBs) (h i w : Int) : Mild bs (add3B x bs h i w) := by
  unfold add3B; split; exact mild_set _ _ _ _; exact Mild.refl _
theorem mild_swap (x : D3) (bs : DBs) (h i o w : Int) : Mild bs (swap3B x bs h i o w) := by
  unfold swap3B
  split
  · split; exact mild_set _ _ _ _; exact Mild.refl _
  · exact Mild.refl _
theorem mild_free (bs : DBs) (h : Int) : Mild bs (free3B bs h) := by
  unfold free3B
  split
  · exact Mild.refl _
  · refine ⟨?_, tot3_cut bs _⟩
    rw [List.length_append, List.length_take, List.length_drop]
    omega
theorem AR.next {W W' : World} {i : Nat} {d : Doc1} (h : AR W i d) {x : PA} {y : D3} {A : Option Addr} {L C : Nat} {bs : DBs} (hat : DocAt W' A L C bs) (hdr : DR x y bs) (s : PAstep d.x x) (hm : Mild d.bs bs) : AR W' (i + 1) ⟨x, y, A, L, C, bs⟩ :=
  ⟨hat, hdr, h.b.step s, by have := h.few; have := hm.1; show bs.length ≤ _; omega, by have := h.tot; have := hm.2; show tot3 bs ≤ _; omega⟩
theorem AR.layAny {W : World} {i : Nat} {d : Doc1} (h : AR W i d) (hi : i ≤ 100) {wa : Option Addr} {wl : Nat} (hw : ∀ j, j < wl → Seen .u64 W (addOpt wa j)) (hs : 0 < wl → wa.isSome = true) (hl : wl ≤ 9223372036854775807) : Lay3Any W d.y d.A d.L d.C d.bs wa wl := by
  have ok := h.ok3 hi
  exact ⟨h.at'.row, h.at'.lc, h.at'.non, h.at'.few, h.at'.tot, hw, hs, hl, ok.cap, ok.births, ⟨by have := ok.t0; omega, ok.t0.2⟩⟩
theorem AR.lay {W W' : World} {i : Nat} {d : Doc1} (h : AR W i d) (hi : i ≤ 100) (hv : d.x.Inv) {ws : List Nat} {y : D3} {A : Option Addr} {L C : Nat} {hd e : Int} (ho : LayOut W d.y d.A d.L d.C d.bs ws W' y A L C hd e) :
    d.x.layV ws.length = hd ∧ d.x.layE ws.length = e ∧ ∃ bs, AR W' (i + 1) ⟨d.x.layX ws.length ws, y, A, L, C, bs⟩ := by
  have hb := h.b.births
  obtain ⟨l1, l2⟩ := h.dr.lay hv ws (by omega)
  have hbl := h.few
  have htl := h.tot
  rcases ho.out with ⟨hw, rfl, rfl, rfl, rfl, rfl, rfl⟩ | ⟨hw, hc, rfl, rfl, rfl, rfl, rfl, rfl⟩ | ⟨hw, hc, rfl, rfl, rfl, hrow, hlc⟩
  · rw [if_pos hw] at l1
    have e0 : eqI (d.x.layE ws.length) 0 = false := by rw [eqI_dec]; exact decide_eq_false (by omega)
    refine ⟨by unfold PA.layV; rw [e0]; rfl, l1, d.bs, ?_⟩
    have ex : d.x.layX ws.length ws = d.x := by unfold PA.layX; rw [e0]; rfl
    rw [ex]
    exact h.next (h.at'.grow ho.grow) h.dr ⟨rfl, Nat.le_succ _, Nat.le_succ _, Nat.le_succ _, Nat.le_succ _, Nat.le_succ _, Nat.le_succ _, Nat.le_succ _, Nat.le_succ _⟩ (Mild.refl _)
  · rw [if_neg hw, if_pos hc] at l1
    have e0 : eqI (d.x.layE ws.length) 0 = false := by rw [eqI_dec]; exact decide_eq_false (by omega)
    refine ⟨by unfold PA.layV; rw [e0]; rfl, l1, d.bs, ?_⟩
    have ex : d.x.layX ws.length ws = d.x := by unfold PA.layX; rw [e0]; rfl
    rw [ex]
    exact h.next (h.at'.grow ho.grow) h.dr ⟨rfl, Nat.le_succ _, Nat.le_succ _, Nat.le_succ _, Nat.le_succ _, Nat.le_succ _, Nat.le_succ _, Nat.le_succ _, Nat.le_succ _⟩ (Mild.refl _)
  · rw [if_neg hw, if_neg (by omega)] at l1
    obtain ⟨l3, l4⟩ := l2 l1
    refine ⟨l3, l1, lay3 d.bs ((handleF (d.y.births.toNat + 1) (gapG d.bs 0 + 1)).1, ws), ?_⟩
    have hlen := lay3_len d.bs ((handleF (d.y.births.toNat + 1) (gapG d.bs 0 + 1)).1, ws)
    have htot := lay3_tot d.bs ((handleF (d.y.births.toNat + 1) (gapG d.bs 0 + 1)).1, ws)
    simp only [] at htot
    have hnum := hrow.num
    have hA : A = none → C = 0 := fun e => by
      have := hrow.sm (by omega)
      rw [e] at this
      cases this
    have hat : DocAt W' A L C (lay3 d.bs ((handleF (d.y.births.toNat + 1) (gapG d.bs 0 + 1)).1, ws)) := ⟨hrow, hlc, hA, by omega, by omega⟩
    refine ⟨hat, l4, h.b.step (step_la _ _ _), ?_, ?_⟩
    · show (lay3 _ _).length ≤ _
      omega
    · show tot3 (lay3 _ _) ≤ _
      omega
def apPut {W0 : World} {i : Nat} (s : APS W0 i) (k : Nat) {W' : World} (g : Grow s.W W') (nd : Doc1) (h : AR W' (i + 1) nd) : APS W0 (i + 1) where
  W := W'
  g := s.g.trans g
  N := s.N
  h1 := s.h1
  h4 := s.h4
  c1 := s.c1
  c2 := s.c2
  d := fun j => if j = k then nd else s.d j
  ok := fun j hj => by
    by_cases e : j = k
    · rw [if_pos e]; exact h
    · rw [if_neg e]; exact (s.ok j hj).grow g (Nat.le_succ i)
theorem apPut_x {W0 : World} {i : Nat} (s : APS W0 i) (k : Nat) {W' : World} (g : Grow s.W W') (nd : Doc1) (h : AR W' (i + 1) nd) : (fun j => some ((apPut s k g nd h).d j).x) = fun j => if j = k then some nd.x else some (s.d j).x := funext fun j => by
  show some (if j = k then nd else s.d j).x = _
  split <;> rfl
theorem apPut_v {W0 : World} {i : Nat} (s : APS W0 i) (k : Nat) {W' : World} (g : Grow s.W W') (nd : Doc1) (h : AR W' (i + 1) nd) (j : Nat) : d3V ((apPut s k g nd h).d j).y ((apPut s k g nd h).d j).A ((apPut s k g nd h).d j).L ((apPut s k g nd h).d j).C = if j = k then d3V nd.y nd.A nd.L nd.C else d3V (s.d j).y (s.d j).A (s.d j).L (s.d j).C := by
  show d3V (if j = k then nd else s.d j).y (if j = k then nd else s.d j).A (if j = k then nd else s.d j).L (if j = k then nd else s.d j).C = _
  split <;> rfl
def apPush {W0 : World} {i : Nat} (s : APS W0 i) (k : Nat) (hk : k < s.N) (hN : s.N < 4) (c1 c2 : Nat) (l : PBs) (hp : l.Perm (s.d k).x.bs) : APS W0 (i + 1) where
  W := s.W
  g := s.g
  N := s.N + 1
  h1 := Nat.succ_pos _
  h4 := hN
  c1 := c1
  c2 := c2
  d := fun j => if j = s.N then { s.d k with x := { (s.d k).x with bs := l } } else s.d j
  ok := fun j hj => by
    by_cases e : j = s.N
    · rw [if_pos e]
      have h := (s.ok k hk).grow (Grow.refl _) (Nat.le_succ i)
      exact ⟨h.at', h.dr.clone hp, ⟨h.b.cap, h.b.births, h.b.faults, h.b.t0, h.b.t1, h.b.t2, h.b.t3, h.b.t4, h.b.t5⟩, h.few, h.tot⟩
    · rw [if_neg e]; exact (s.ok j (by omega)).grow (Grow.refl _) (Nat.le_succ i)
theorem apPush_x {W0 : World} {i : Nat} (s : APS W0 i) (k : Nat) (hk : k < s.N) (hN : s.N < 4) (c1 c2 : Nat) (l : PBs) (hp : l.Perm (s.d k).x.bs) : (fun j => some ((apPush s k hk hN c1 c2 l hp).d j).x) = fun j => if j = s.N then some { (s.d k).x with bs := l } else if j = k then some (s.d k).x else some (s.d j).x := funext fun j => by
  show some (if j = s.N then { s.d k with x := { (s.d k).x with bs := l } } else s.d j).x = _
  by_cases e : j = s.N
  · rw [if_pos e, if_pos e]
  · rw [if_neg e, if_neg e]
    split
    · rename_i e; rw [e]
    · rfl
theorem apPush_v {W0 : World} {i : Nat} (s : APS W0 i) (k : Nat) (hk : k < s.N) (hN : s.N < 4) (c1 c2 : Nat) (l : PBs) (hp : l.Perm (s.d k).x.bs) {j : Nat} (hj : j < s.N + 1) : d3V ((apPush s k hk hN c1 c2 l hp).d j).y ((apPush s k hk hN c1 c2 l hp).d j).A ((apPush s k hk hN c1 c2 l hp).d j).L ((apPush s k hk hN c1 c2 l hp).d j).C =
    if j = k then d3V (s.d k).y (s.d k).A (s.d k).L (s.d k).C else if j < s.N then if j = k then d3V (s.d k).y (s.d k).A (s.d k).L (s.d k).C else d3V (s.d j).y (s.d j).A (s.d j).L (s.d j).C else d3V (s.d k).y (s.d k).A (s.d k).L (s.d k).C := by
  have key : (apPush s k hk hN c1 c2 l hp).d j = if j = s.N then { s.d k with x := { (s.d k).x with bs := l } } else s.d j := rfl
  rw [key]
  by_cases e : j = s.N
  · rw [if_pos e, if_neg (by omega), if_neg (by omega)]
  · rw [if_neg e]
    by_cases e2 : j = k
    · rw [if_pos e2, e2]
    · rw [if_neg e2, if_pos (by omega), if_neg e2]
end Go.Proofs.Ytnkikhhiaecebaa

/- The first blocks of an arena (layer 3's statements), where the arena is told by what it holds: put with the old memory, by their numbers. -/
namespace Go.Proofs.Ytnkikhhiaecebaa
open Go Go.RowKit
set_option maxRecDepth 100000
theorem nums_strict {A : Ar} (hi : ArInv A) : (numsOf A).Pairwise fun a b => a < b := by
  have h1 : (numsOf A).Nodup := by
    have h1 : (A.bs.map fun b => (b.n : Int)).Nodup := by
      have := hi.apart
      rw [show (A.bs.map fun b => (b.n : Int)) = (A.bs.map (·.n)).map (fun n : Nat => (n : Int)) by rw [List.map_map]; rfl]
      exact List.Pairwise.map _ (fun a b (h : a ≠ b) e => h (by omega)) this
    exact (List.mergeSort_perm _ _).nodup_iff.2 h1
  have h2 : (numsOf A).Pairwise (fun a b => a ≤ b) := by
    have := List.pairwise_mergeSort (le := fun x y : Int => decide (x ≤ y)) (fun a b c h1 h2 => by simp only [decide_eq_true_eq] at *; omega) (fun a b => by simp only [Bool.or_eq_true, decide_eq_true_eq]; omega) (A.bs.map fun b => (b.n : Int))
    exact this.imp fun h => of_decide_eq_true h
  exact (h1.and h2).imp fun {a b} ⟨h3, h4⟩ => by
    have h3 : a ≠ b := h3
    omega
theorem doc_all {x : PA} {z : Nat → Value} (hi : ArInv (x.ar z)) : DocOf x.bs (allOf (x.ar z)) := by
  have hb : ∀ c ∈ numsOf (x.ar z), ∃ b ∈ (x.ar z).bs, (b.n : Int) = c ∧ blkOf (x.ar z).bs c = (b.h, b.ws) := fun c hc => by
    unfold numsOf at hc
    rw [(List.mergeSort_perm _ _).mem_iff] at hc
    obtain ⟨b, hb, rfl⟩ := List.mem_map.1 hc
    exact ⟨b, hb, rfl, by simp only [blkOf, find_n hi.apart hb]⟩
  refine ⟨?_, ?_⟩
  · have h1 : (allOf (x.ar z)).Perm (((x.ar z).bs.map fun b => (b.n : Int)).map (blkOf (x.ar z).bs)) := (List.mergeSort_perm _ _).map _
    refine h1.trans (List.Perm.of_eq ?_)
    have e : x.bs.map (fun b => b.2) = ((x.ar z).bs.map key3).map fun b => b.2 := by
      rw [show (x.ar z).bs = blksOf z 0 x.bs from rfl, blksOf_key]
    rw [e, List.map_map, List.map_map]
    refine List.map_congr_left fun b hb => ?_
    simp only [Function.comp, blkOf, find_n hi.apart hb]
    rfl
  · unfold allOf
    rw [List.pairwise_map]
    have h1 : (numsOf (x.ar z)).Pairwise fun a b => a < b ∧ a ∈ numsOf (x.ar z) ∧ b ∈ numsOf (x.ar z) :=
      List.pairwise_iff_forall_sublist.2 fun {a b} hs => ⟨(List.pairwise_iff_forall_sublist.1 (nums_strict hi)) hs, hs.subset (by simp), hs.subset (by simp)⟩
    refine h1.imp fun {a b} ⟨hab, ha, hb'⟩ => ?_
    obtain ⟨c, hc, ec, e1⟩ := hb a ha
    obtain ⟨d, hd, ed, e2⟩ := hb b hb'
    rw [e1, e2]
    have h3 := (hi.range c hc).2.2.1
    have h4 := (hi.range d hd).2.2.1
    show c.h % 65536 < d.h % 65536
    omega
def blocksP : Smry Try.prog XP where
  g := 27
  run := fun args m K => match args with
    | [.c (.ptr n 0), .c (.int _ .i64 most _)] => match (m.hp.del 0).get n with
      | some (.ext (.obj [] x)) => match m.hp.get 0 with
        | some (.seen W) => ∀ (W' : World) (a : Option Addr) (cap : Nat) (bs L : List (Nat × List Nat)), Grow W W' → PA.Inv x → DocOf (PA.bs x) L → bs = L.take most.toNat → BlkRow W' a bs.length bs → (bs.length ≤ cap ∧ cap ≤ maxLen) →
            K (.c (.sliv a false bs.length cap)) ⟨m.hp.set 0 (.seen W'), m.nx⟩
        | _ => Stuck 640
      | _ => Stuck 642
    | _ => Stuck 643
  ok := fun args m K hr => by
    split at hr <;> try exact hr.elim
    rename_i n _ most _
    split at hr <;> try exact hr.elim
    rename_i x hn
    split at hr <;> try exact hr.elim
    rename_i W h0
    intro ν w R w0 H HK
    have H1 := H
    rw [SH.den_get ν h0, SH.den_get ν hn, Assn.mul_assoc, Assn.mul_assoc] at H1
    have H1' : Sat w ((parO x).den ν (ν n) * (seenA W * (((m.hp.del 0).del n).den ν * R))) := H1.cast (by
      show seenA W * ((parO x).den ν (ν n) * _) = _
      ac_rfl)
    have hinv := par_inv H1'
    obtain ⟨z, H2⟩ := par_open H1'
    obtain ⟨_, _, hi, _⟩ := arAt_open H2
    have hbk := inv_back hinv
    refine (blocks_keep (ν n) (x.ar z) most w H2 (by show x.bk.length ≤ 70000; omega)).mono ?_
    rintro e w' ⟨hk', v, xs, rfl, hxs, hok, hs⟩
    have hdoc := doc_all hi
    have hmem : ∀ y ∈ xs, ∃ b ∈ x.bs, keyB y = b.2 := fun y hy => by
      have h1 : keyB y ∈ xs.map keyB := List.mem_map_of_mem hy
      rw [hxs] at h1
      have h2 := List.mem_of_mem_take h1
      rw [hdoc.perm.mem_iff] at h2
      obtain ⟨b, hb, e⟩ := List.mem_map.1 h2
      exact ⟨b, hb, e.symm⟩
    have hsm : ∀ y ∈ xs, y.1 < TW ∧ ∀ x ∈ y.2.1, x < TW := fun y hy => by
      obtain ⟨b, hb, e⟩ := hmem y hy
      obtain ⟨h1, h2⟩ := hinv.hds
      have h3 := h2 b hb
      have e1 : y.1 = b.2.1 := congrArg Prod.fst e
      have e2 : y.2.1 = b.2.2 := congrArg Prod.snd e
      have h5 := (hinv.numbers).1 b hb
      have h6 := (hinv.numbers).2.2.2.2.2
      refine ⟨by rw [e1]; unfold TW; omega, by rw [e2]; exact hinv.words b hb⟩
    obtain ⟨W1, g1, hr1, hs1⟩ := rows_frz (W := W) (fun y hy => (hsm y hy).2) (hs.cast (Q := rowsP xs * (seenA W * (rowK 70 2 v xs.length (bcells xs) * (arAt (ν n) (x.ar z) * (((m.hp.del 0).del n).den ν * R))))) (by ac_rfl))
    obtain ⟨W2, a, cap, g2, rfl, hrow, hc1, hc2, hs2⟩ := blk_frz (W := W1) (fun y hy => (hsm y hy).1) hr1 (hs1.cast (Q := rowK 70 2 v xs.length (bcells xs) * (seenA W1 * (arAt (ν n) (x.ar z) * (((m.hp.del 0).del n).den ν * R)))) (by ac_rfl))
    have hlen : (xs.map keyB).length = xs.length := List.length_map _
    refine ⟨_, _, ν, hr W2 a cap (xs.map keyB) (allOf (x.ar z)) (g1.trans g2) hinv hdoc hxs (by rw [hlen]; exact hrow) (by rw [hlen]; exact ⟨hc1, hc2⟩), Agree.refl _ _, Nat.le_refl _, by rw [hlen]; rfl, ?_, HK.trans hk'⟩
    rw [SH.den_get ν (set_get h0), set_del, SH.den_get ν hn, Assn.mul_assoc, Assn.mul_assoc]
    have H3 : Sat w' (arAt (ν n) (x.ar z) * (seenA W2 * (((m.hp.del 0).del n).den ν * R))) := hs2.cast (by ac_rfl)
    have H4 := par_shut (ν := ν) H3
    exact H4.cast (by
      show (parO x).den ν (ν n) * _ = seenA W2 * ((parO x).den ν (ν n) * _)
      ac_rfl)
end Go.Proofs.Ytnkikhhiaecebaa

/- Arenas told by what they hold (module Par): copies; comparisons; the first blocks; the fixed words. -/
namespace Go.Proofs.Ytnkikhhiaecebaa
open Go Go.RowKit
set_option maxRecDepth 100000

theorem key_blksOf : ∀ (bs : List Blk) (i : Nat), ∃ z, bs = blksOf z i (bs.map key3)
  | [], _ => ⟨fun _ => undef, rfl⟩
  | b :: l, i => by
    obtain ⟨z, hz⟩ := key_blksOf l (i + 1)
    refine ⟨fun j => if j = i then b.v else z j, ?_⟩
    simp only [List.map_cons, key3, blksOf, if_true]
    congr 1
    have e : blksOf (fun j => if j = i then b.v else z j) (i + 1) (l.map key3) = blksOf z (i + 1) (l.map key3) := blksOf_congr fun j hj => by rw [if_neg (by omega)]
    exact hz.trans e.symm
def cloneR : Smry Try.prog XP where
  g := 29
  run := fun args m K => match args with
    | [.c (.ptr n 0)] => match m.hp.get n with
      | some (.ext (.obj [] x)) => bif !(m.hp.names.contains m.nx) then (PA.Inv x → ∀ l : List (Nat × Nat × List Nat), l.Perm (PA.bs x) → K (.c (.ptr m.nx 0)) (withNew m (parO { x with bs := l }))) else Stuck 970
      | _ => Stuck 971
    | _ => Stuck 972
  ok := fun args m K hr => by
    split at hr <;> try exact hr.elim
    rename_i n
    split at hr <;> try exact hr.elim
    rename_i x hx
    cases hb : !(m.hp.names.contains m.nx) <;> rw [hb] at hr
    · exact hr.elim
    simp only [cond_true] at hr
    intro ν w R w0 H HK
    have hn : ∀ y : PA, newOk m (parO y) = true := fun y => by
      unfold newOk
      rw [hb]; rfl
    rw [SH.den_get ν hx, Assn.mul_assoc] at H
    have hinv := par_inv H
    obtain ⟨z, H⟩ := par_open H
    obtain ⟨_, _, hi, _⟩ := arAt_open H
    have hbk := inv_back hinv
    refine (ar_clone (ν n) (x.ar z) w H (by show x.bk.length ≤ 70000; omega)).mono ?_
    rintro e w' ⟨q, bs, he, hp, hs, hk⟩
    have hp2 : (bs.map key3).Perm (PA.bs x) := by
      have := hp
      rw [show (PA.ar x z).bs = blksOf z 0 x.bs from rfl, blksOf_key] at this
      exact this
    refine ⟨_, _, upd ν m.nx q, hr hinv (bs.map key3) hp2, Agree.upd (Nat.le_refl _) _, Nat.le_succ _, by rw [he]; simp [SV.den, SC.den, upd_same], ?_, HK.trans hk⟩
    obtain ⟨z', hz⟩ := key_blksOf bs 0
    have hs1 : Sat w' (arAt q ((({ x with bs := bs.map key3 } : PA)).ar z') * (m.hp.den ν * R)) := by
      rw [SH.den_get ν hx, Assn.mul_assoc]
      have hs2 : Sat w' (arAt q ((({ x with bs := bs.map key3 } : PA)).ar z') * (arAt (ν n) (x.ar z) * ((m.hp.del n).den ν * R))) := by
        have hinv2 := clone_inv hi hp
        refine hs.mono fun y hy => ?_
        obtain ⟨d, hd⟩ := hy
        refine ⟨d, Part.none, y, Part.apart_none _, rfl, ⟨?_, rfl⟩, ?_⟩
        · have e : ((({ x with bs := bs.map key3 } : PA)).ar z') = { (x.ar z) with bs := bs } := by
            unfold PA.ar
            simp only []
            rw [← hz]
          rw [e]
          exact hinv2
        · have e : ((({ x with bs := bs.map key3 } : PA)).ar z').bs = bs := hz.symm
          rw [e]
          exact hd
      have hs3 := hs2.swap
      exact (par_shut hs3).swap
    exact withNew_sat (hn _) (par_shut hs1)
def alikeP (x y : PA) : Bool := ((List.range 9).all fun i => x.fx.getD i 0 == y.fx.getD i 0) && ((x.bs.length == y.bs.length) && x.bs.all fun a => y.bs.any fun b => a == b)
theorem blks_ok {A : Ar} (hi : ArInv A) : BlksOk A.bs where
  ws := fun b hb => by have := hi.range b hb; omega
  nd := hi.apart
  len := by
    have h1 := hi.high
    have h2 := hi.hmax
    omega
theorem sameBs_P (z z' : Nat → Value) (l l' : List (Nat × Nat × List Nat)) : sameBs (blksOf z 0 l) (blksOf z' 0 l') = ((l.length == l'.length) && l.all fun a => l'.any fun b => a == b) := by
  unfold sameBs
  rw [blksOf_len, blksOf_len]
  congr 1
  have e1 : ∀ (f : (Nat × Nat × List Nat) → Bool), ((blksOf z 0 l).all fun a => f (key3 a)) = l.all f := fun f => by
    conv => rhs; rw [← blksOf_key z l 0]
    rw [List.all_map]
    rfl
  have e2 : ∀ (f : (Nat × Nat × List Nat) → Bool), ((blksOf z' 0 l').any fun a => f (key3 a)) = l'.any f := fun f => by
    conv => rhs; rw [← blksOf_key z' l' 0]
    rw [List.any_map]
    rfl
  rw [← e1]
  congr 1
  funext a
  exact e2 fun b => key3 a == b
theorem ar_same (p q : Nat) (A B : Ar) (w : World) {R : Assn} (H : Sat w (arAt p A * (arAt q B * R))) :
    Calls Try.prog 30 #[.pointer (some ⟨p, 0, none⟩), .pointer (some ⟨q, 0, none⟩)] w fun e w' => e = .returned (.bool (((List.range 9).all fun i => A.fixed i == B.fixed i) && sameBs A.bs B.bs)) ∧ Sat w' (arAt p A * (arAt q B * R)) ∧ Kept w w' := by
  obtain ⟨ps, pb, hi, H1⟩ := arAt_open H
  have H1' := H1.cast (Q := arAt q B * (own p (.cells (arCells A ps pb) 172 (0, 0)) * (stkAt ps A.s * (mapAt pb (A.bs.map ent) * (rowsAt A.bs * R))))) (by ac_rfl)
  obtain ⟨qs, qb, hj, H2⟩ := arAt_open H1'
  have oA := blks_ok hi
  have oB := blks_ok hj
  let ν : Nat → Nat := fun i => match i with | 0 => p | 1 => pb | 2 => q | _ => qb
  have H3 : Sat w ((SH.den (E := XB) ν [(0, .cells [.raw ((arCells A ps pb).getD 0 undef), .raw ((arCells A ps pb).getD 1 undef), .raw ((arCells A ps pb).getD 2 undef), .raw ((arCells A ps pb).getD 3 undef), .raw ((arCells A ps pb).getD 4 undef), .int false .u64 (A.fixed 0 : Nat), .int false .u64 (A.fixed 1 : Nat), .int false .u64 (A.fixed 2 : Nat), .int false .u64 (A.fixed 3 : Nat), .int false .u64 (A.fixed 4 : Nat), .int false .u64 (A.fixed 5 : Nat), .int false .u64 (A.fixed 6 : Nat), .int false .u64 (A.fixed 7 : Nat), .int false .u64 (A.fixed 8 : Nat), .raw ((arCells A ps pb).getD 14 undef), .map 1, .raw ((arCells A ps pb).getD 16 undef), .raw ((arCells A ps pb).getD 17 undef), .raw ((arCells A ps pb).getD 18 undef), .raw ((arCells A ps pb).getD 19 undef), .raw ((arCells A ps pb).getD 20 undef), .raw ((arCells A ps pb).getD 21 undef)] 172), (1, .ext (E := XB) A.bs),
      (2, .cells [.raw ((arCells B qs qb).getD 0 undef), .raw ((arCells B qs qb).getD 1 undef), .raw ((arCells B qs qb).getD 2 undef), .raw ((arCells B qs qb).getD 3 undef), .raw ((arCells B qs qb).getD 4 undef), .int false .u64 (B.fixed 0 : Nat), .int false .u64 (B.fixed 1 : Nat), .int false .u64 (B.fixed 2 : Nat), .int false .u64 (B.fixed 3 : Nat), .int false .u64 (B.fixed 4 : Nat), .int false .u64 (B.fixed 5 : Nat), .int false .u64 (B.fixed 6 : Nat), .int false .u64 (B.fixed 7 : Nat), .int false .u64 (B.fixed 8 : Nat), .raw ((arCells B qs qb).getD 14 undef), .map 3, .raw ((arCells B qs qb).getD 16 undef), .raw ((arCells B qs qb).getD 17 undef), .raw ((arCells B qs qb).getD 18 undef), .raw ((arCells B qs qb).getD 19 undef), .raw ((arCells B qs qb).getD 20 undef), .raw ((arCells B qs qb).getD 21 undef)] 172), (3, .ext (E := XB) B.bs)]) * (stkAt ps A.s * (stkAt qs B.s * R))) := by
    refine H2.cast ?_
    show _ = (own p (.cells (arCells A ps pb) _ (0, 0)) * ((mapAt pb (A.bs.map ent) * rowsAt A.bs) * (own q (.cells (arCells B qs qb) _ (0, 0)) * ((mapAt qb (B.bs.map ent) * rowsAt B.bs) * 1)))) * _
    rw [Assn.mul_one]
    ac_rfl
  refine (callN_ok namesOk mixed _ _ _ _ _ _ _ _ _ (asame_run A.fixed B.fixed (fun i => (arCells A ps pb).getD i undef) (fun i => (arCells B qs qb).getD i undef) A.bs B.bs ⟨oA, oB⟩).out ν w _ w H3 (Kept.refl w)).mono ?_
  rintro e w' ⟨v, m', s', ξ, ho, ag, _, he, hs, hk⟩
  obtain ⟨κ, agk, hv, hs⟩ := outM_sound ho hs
  have k0 : κ 0 = p := by rw [agk 0 (by decide), ag 0 (by show 0 < 100; decide)]; rfl
  have k1 : κ 1 = pb := by rw [agk 1 (by decide), ag 1 (by show 1 < 100; decide)]; rfl
  have k2 : κ 2 = q := by rw [agk 2 (by decide), ag 2 (by show 2 < 100; decide)]; rfl
  have k3 : κ 3 = qb := by rw [agk 3 (by decide), ag 3 (by show 3 < 100; decide)]; rfl
  refine ⟨by rw [he, hv]; rfl, ?_, hk⟩
  refine arAt_shut (ps := ps) (pb := pb) hi ?_
  have hs4 : Sat w' (own q (.cells (arCells B qs qb) 172 (0, 0)) * (stkAt qs B.s * (mapAt qb (B.bs.map ent) * (rowsAt B.bs * (own p (.cells (arCells A ps pb) 172 (0, 0)) * (stkAt ps A.s * (mapAt pb (A.bs.map ent) * (rowsAt A.bs * R)))))))) := by
    refine hs.cast ?_
    simp only [SH.den, SO.den, SC.denL, SC.den, k0, k1, k2, k3]
    rw [Assn.mul_comm _ (1 : Assn), Assn.one_mul]
    show (own p (.cells (arCells A ps pb) _ (0, 0)) * ((mapAt pb (A.bs.map ent) * rowsAt A.bs) * (own q (.cells (arCells B qs qb) _ (0, 0)) * (mapAt qb (B.bs.map ent) * rowsAt B.bs)))) * _ = _
    ac_rfl
  have hs5 := arAt_shut (ps := qs) (pb := qb) hj hs4
  exact hs5.cast (by ac_rfl)
def sameR : Smry Try.prog XP where
  g := 30
  run := fun args m K => match args with
    | [.c (.ptr a 0), .c (.ptr b 0)] => match m.hp.get a with
      | some (.ext (.obj [] x)) => match (m.hp.del a).get b with
        | some (.ext (.obj [] y)) => K (.c (.boo false (alikeP x y))) m
        | _ => Stuck 973
      | _ => Stuck 974
    | _ => Stuck 975
  ok := fun args m K hr => by
    split at hr <;> try exact hr.elim
    rename_i a b
    split at hr <;> try exact hr.elim
    rename_i x hx
    split at hr <;> try exact hr.elim
    rename_i y hy
    intro ν w R w0 H HK
    have H0 := H
    rw [SH.den_get ν hx, SH.den_get ν hy, Assn.mul_assoc, Assn.mul_assoc] at H0
    obtain ⟨z, H1⟩ := par_open H0
    have H1 := H1.swap
    obtain ⟨z', H2⟩ := par_open H1
    have H2 := H2.swap
    refine (ar_same (ν a) (ν b) (x.ar z) (y.ar z') w H2).mono fun e w' ⟨he, hs, hk⟩ => ?_
    refine ⟨_, m, ν, hr, Agree.refl _ _, Nat.le_refl _, ?_, ?_, HK.trans hk⟩
    · rw [he]
      have e : (((List.range 9).all fun i => (PA.ar x z).fixed i == (PA.ar y z').fixed i) && sameBs (PA.ar x z).bs (PA.ar y z').bs) = alikeP x y := by
        rw [show (PA.ar x z).bs = blksOf z 0 (PA.bs x) from rfl, show (PA.ar y z').bs = blksOf z' 0 (PA.bs y) from rfl, sameBs_P]
        rfl
      rw [e]
      rfl
    · rw [SH.den_get ν hx, SH.den_get ν hy, Assn.mul_assoc, Assn.mul_assoc]
      have h3 := par_shut (ν := ν) hs.swap
      exact par_shut (ν := ν) h3.swap
theorem allOf_permP {A : Ar} (hi : ArInv A) : (allOf A).Perm (A.bs.map fun b => (b.h, b.ws)) := by
  have h1 : (allOf A).Perm ((A.bs.map fun b => (b.n : Int)).map (blkOf A.bs)) := (List.mergeSort_perm _ _).map _
  refine h1.trans (List.Perm.of_eq ?_)
  rw [List.map_map]
  refine List.map_congr_left fun b hb => ?_
  simp only [Function.comp, blkOf, find_n hi.apart hb]
def blkV (l : List (Nat × List Nat)) (z : Nat → Option Addr × Nat) (i : Nat) : List Value := [.int .u64 ((l.getD i (0, [])).1 : Nat), .slice (z i).1 (l.getD i (0, [])).2.length (z i).2]
theorem bcells_vals : ∀ (xs : List (Nat × List Nat × Value)), (∀ y ∈ xs, ∃ a c, y.2.2 = .slice a y.2.1.length c) → ∃ z, bcells xs = valsOf xs.length (blkV (xs.map keyB) z)
  | [], _ => ⟨fun _ => (none, 0), rfl⟩
  | y :: xs, h => by
    obtain ⟨z, hz⟩ := bcells_vals xs fun y hy => h y (by simp [hy])
    obtain ⟨a, c, e⟩ := h y (by simp)
    refine ⟨fun i => match i with | 0 => (a, c) | i + 1 => z i, ?_⟩
    unfold valsOf
    rw [List.length_cons, List.range_succ_eq_map, List.flatMap_cons, List.flatMap_map]
    have e1 : bcells (y :: xs) = [.int .u64 y.1, y.2.2] ++ bcells xs := rfl
    rw [e1, hz, e]
    congr 1
def BlkList (x : PA) (most : Int) (q : Nat) (hf : Nat → Int) (nf : Nat → Nat) : Prop := ∃ l : List (Nat × List Nat), l.Perm (x.bs.map fun b => b.2) ∧ q = (l.take most.toNat).length ∧ ∀ i, i < q → hf i = ((l.getD i (0, [])).1 : Nat) ∧ nf i = (l.getD i (0, [])).2.length
def blkW (hf : Nat → Int) (nf : Nat → Nat) (z : Nat → Option Addr × Nat) (i : Nat) : List Value := [.int .u64 (hf i), .slice (z i).1 (nf i) (z i).2]
theorem blkList_of {x : PA} {L : List (Nat × List Nat)} {most : Int} {xs : List (Nat × List Nat × Value)} (hp : L.Perm (x.bs.map fun b => b.2)) (hxs : xs.map keyB = L.take most.toNat) :
    BlkList x most xs.length (fun i => (((xs.map keyB).getD i (0, [])).1 : Nat)) (fun i => ((xs.map keyB).getD i (0, [])).2.length) := by
  have hlen : (L.take most.toNat).length = xs.length := by rw [← hxs, List.length_map]
  refine ⟨L, hp, hlen.symm, fun i hi => ?_⟩
  simp only [hxs]
  have hit : i < most.toNat := by
    have := hlen
    rw [List.length_take] at this
    omega
  have e1 : (L.take most.toNat).getD i (0, []) = L.getD i (0, []) := by
    rw [List.getD_eq_getElem?_getD, List.getD_eq_getElem?_getD, List.getElem?_take, if_pos hit]
  rw [e1]
  exact ⟨rfl, rfl⟩
def blocksR : Smry Try.prog XP where
  g := 27
  run := fun args m K => match args with
    | [.c (.ptr n 0), .c (.int _ .i64 most _)] => match m.hp.get n with
      | some (.ext (.obj [] x)) => PA.Inv x → ∀ (q : Nat) (hf : Nat → Int) (nf : Nat → Nat), BlkList x most q hf nf → (q = 0 → K (.c .nls) m) ∧
          (∀ (cap : Nat) (z : Nat → Option Addr × Nat), q ≤ cap →
            bif newOk (E := XP) m (.vals 70 2 q cap (blkW hf nf z)) then
              K (.c (.sli m.nx 2 true 0 false q cap)) (withNew m (.vals 70 2 q cap (blkW hf nf z))) else Stuck 976)
      | _ => Stuck 977
    | _ => Stuck 978
  ok := fun args m K hr => by
    split at hr <;> try exact hr.elim
    rename_i n _ most _
    split at hr <;> try exact hr.elim
    rename_i x hx
    intro ν w R w0 H HK
    have H0 := H
    rw [SH.den_get ν hx, Assn.mul_assoc] at H0
    have hinv := par_inv H0
    obtain ⟨z, H1⟩ := par_open H0
    obtain ⟨_, _, hi, _⟩ := arAt_open H1
    have hbk := inv_back hinv
    refine (blocks_calls (ν n) (x.ar z) most w H1 (by show x.bk.length ≤ 70000; omega)).mono ?_
    rintro e w' ⟨hk', v, xs, he, hxs, hoks, hs⟩
    have hperm : (allOf (PA.ar x z)).Perm ((PA.bs x).map fun b => b.2) := by
      refine (allOf_permP hi).trans (List.Perm.of_eq ?_)
      have e1 : (PA.bs x) = (PA.ar x z).bs.map key3 := (blksOf_key z x.bs 0).symm
      rw [e1, List.map_map]
      rfl
    have hlen : ((allOf (PA.ar x z)).take most.toNat).length = xs.length := by rw [← hxs, List.length_map]
    have hbl := blkList_of hperm hxs
    obtain ⟨h0, h1⟩ := hr hinv _ _ _ hbl
    obtain ⟨hl, ⟨rfl, hn0, hs2⟩ | ⟨g, cap, cur, rfl, c2, c3, c4, c5, hs2⟩⟩ := rowK_open hs
    · refine ⟨_, m, ν, h0 hn0, Agree.refl _ _, Nat.le_refl _, he, ?_, HK.trans hk'⟩
      rw [SH.den_get ν hx, Assn.mul_assoc]
      exact par_shut hs2
    · obtain ⟨zz, hz⟩ := bcells_vals xs hoks
      have hz : bcells xs = valsOf xs.length (blkW (fun i => (((xs.map keyB).getD i (0, [])).1 : Nat)) (fun i => ((xs.map keyB).getD i (0, [])).2.length) zz) := hz
      have hk2 := h1 cap zz c2
      generalize (fun i => ((((xs.map keyB).getD i (0, [])).1 : Nat) : Int)) = hf at *
      generalize (fun i => ((xs.map keyB).getD i (0, [])).2.length) = nf at *
      cases hb : newOk (E := XP) m (.vals 70 2 xs.length cap (blkW hf nf zz)) <;> rw [hb] at hk2
      · exact hk2.elim
      simp only [cond_true] at hk2
      refine ⟨_, _, upd ν m.nx g, hk2, Agree.upd (Nat.le_refl _) _, Nat.le_succ _, ?_, ?_, HK.trans hk'⟩
      · rw [he]
        simp [SV.den, SC.den, upd_same]
      · refine withNew_sat hb ?_
        rw [SH.den_get ν hx, Assn.mul_assoc]
        simp only [SO.den]
        rw [Assn.mul_assoc]
        refine Sat.mk_pure_mul (fun i _ => rfl) ?_
        refine Sat.mk_ex_mul cur ?_
        rw [Assn.mul_assoc]
        refine Sat.mk_pure_mul ⟨?_, c2, c3, c4, ?_⟩ ?_
        · rw [← hz]; exact hl
        · rw [← hz]; exact c5
        · exact (par_shut hs2.swap).swap
def blocksK : Smry Try.prog XP where
  g := 27
  run := fun args m K => match args with
    | [.c (.ptr n 0), .c (.int l .i64 most bd)] => match m.hp.get n with
      | some (.ext (.obj [] x)) => match PA.bs x with
        | [] => K (.c .nls) m ∧ ∀ (cap : Nat) (hf : Nat → Int) (nf : Nat → Nat) (z : Nat → Option Addr × Nat), bif newOk (E := XP) m (.vals 70 2 0 cap (blkW hf nf z)) then
              K (.c (.sli m.nx 2 true 0 true 0 cap)) (withNew m (.vals 70 2 0 cap (blkW hf nf z))) else Stuck 976
        | _ => Stuck 979
      | _ => Stuck 977
    | _ => Stuck 978
  ok := fun args m K hr => by
    split at hr <;> try exact hr.elim
    rename_i n l most bd
    split at hr <;> try exact hr.elim
    rename_i x hx
    split at hr <;> try exact hr.elim
    rename_i hbs
    have hrun : blocksR.run [.c (.ptr n 0), .c (.int l .i64 most bd)] m (fun v m' => ∃ u, K u m' ∧ ∀ ν, u.den ν = v.den ν) := by
      show (match m.hp.get n with
        | some (.ext (.obj [] x)) => _
        | _ => _)
      rw [hx]
      intro _ q hf nf hq
      obtain ⟨l', hl', hq, _⟩ := hq
      rw [hbs] at hl'
      have : l' = [] := hl'.eq_nil
      subst this
      have hq : q = 0 := by rw [hq]; simp
      subst hq
      refine ⟨fun _ => ⟨_, hr.1, fun _ => rfl⟩, fun cap z _ => ?_⟩
      have h2 := hr.2 cap hf nf z
      cases hb : newOk (E := XP) m (.vals 70 2 0 cap (blkW hf nf z)) <;> rw [hb] at h2
      · exact h2.elim
      · exact ⟨_, h2, fun _ => rfl⟩
    intro ν w R w0 H HK
    exact (blocksR.ok _ m _ hrun ν w R w0 H HK).mono fun e w' ⟨v, m', μ, ⟨u, hu, hd⟩, a, b, c, d⟩ => ⟨u, m', μ, hu, a, b, by rw [hd]; exact c, d⟩
theorem ar_words (p : Nat) (A : Ar) (w : World) {R : Assn} (H : Sat w (arAt p A * R)) :
    Calls Try.prog 26 #[.pointer (some ⟨p, 0, none⟩)] w fun e w' => ∃ v, e = .returned v ∧ Sat w' (rowAt 29 v (u64s ((List.range 9).map A.fixed)) * (arAt p A * R)) ∧ Kept w w' := by
  obtain ⟨ps, pb, hi, H1⟩ := arAt_open H
  have hp := H1.lt
  have hc : ∀ j u, (u64s ((List.range 9).map A.fixed))[j]? = some u → w.cell? ((⟨p, 5, none⟩ : Addr).add j) = some u := fun j u hj => by
    have hj9 : j < 9 := by
      rcases Nat.lt_or_ge j 9 with h | h
      · exact h
      · rw [List.getElem?_eq_none (by simp [u64s]; exact h)] at hj; cases hj
    have e : ((⟨p, 5, none⟩ : Addr).add j) = ⟨p, 5 + j, none⟩ := by (by_cases h0 : j = 0) <;> simp [Addr.add, h0]
    rw [e]
    refine (H1.cell (5 + j)).trans ((fixed_cell A ps pb hj9).trans ?_)
    rw [← hj]
    simp [u64s, hj9]
  have HC := Lib.hid (clone_any ⟨p, 5, none⟩ 9 ((List.range 9).map A.fixed) 9 w H (by simp) hc (by omega) (by omega) hp)
  clear H H1 hc
  go_enter Try.func26, Try.ntmps26
  go_wp2_with fail
  refine (HC.out).mono ?_; rintro e w1 ⟨v, rfl, hs, hb⟩
  have Hs := Lib.hid hs
  have hk := (Kept.refl w).below hb
  clear hs hb HC
  go_wp2
  go_ret
  exact ⟨_, rfl, Hs.out, hk⟩
def wordsR : Smry Try.prog XP where
  g := 26
  run := fun args m K => match args with
    | [.c (.ptr n 0)] => match m.hp.get n with
      | some (.ext (.obj [] x)) => ∀ cap, 9 ≤ cap → (bif newOk (E := XP) m (.ints 29 .u64 9 cap (fun i => ((PA.fx x).getD i 0 : Nat))) then K (.c (.sli m.nx 1 true 0 true 9 cap)) (withNew m (.ints 29 .u64 9 cap (fun i => ((PA.fx x).getD i 0 : Nat)))) else Stuck 980)
      | _ => Stuck 981
    | _ => Stuck 982
  ok := fun args m K hr => by
    split at hr <;> try exact hr.elim
    rename_i n
    split at hr <;> try exact hr.elim
    rename_i x hx
    intro ν w R w0 H HK
    rw [SH.den_get ν hx, Assn.mul_assoc] at H
    obtain ⟨z, H⟩ := par_open H
    refine (ar_words (ν n) (x.ar z) w H).mono fun e w' ⟨v, he, hs, hk⟩ => ?_
    have hlen : (u64s ((List.range 9).map (PA.ar x z).fixed)).length = 9 := by simp [u64s]
    rcases rowAt_open hs with ⟨_, h0, _⟩ | ⟨g, cap, cur, rfl, c2, c3, c4, c5, hs2⟩
    · rw [h0] at hlen; simp at hlen
    · rw [hlen] at hs c2 c5 he
      have h2 := hr cap c2
      cases hb : newOk (E := XP) m (.ints 29 .u64 9 cap (fun i => ((PA.fx x).getD i 0 : Nat))) <;> rw [hb] at h2
      · exact h2.elim
      simp only [cond_true] at h2
      refine ⟨_, _, upd ν m.nx g, h2, Agree.upd (Nat.le_refl _) _, Nat.le_succ _, ?_, ?_, HK.trans hk⟩
      · rw [he]
        simp [SV.den, SC.den, upd_same]
      · refine withNew_sat hb ?_
        have e1 : intsOf .u64 9 (fun i => ((PA.fx x).getD i 0 : Nat)) = u64s ((List.range 9).map (PA.ar x z).fixed) := rfl
        simp only [SO.den]
        rw [e1]
        have hs3 := rowAt_head hlen hs
        refine (par_shut (ν := ν) hs3.swap).swap.cast ?_
        rw [SH.den_get ν hx, Assn.mul_assoc]
theorem arenaNew_err (c : Int) (w : World) (h : c < 0 ∨ 60000 < c) : Calls Try.prog 13 #[.int .i64 c] w fun e w' => e = .returned (.tuple #[.pointer none, .int .i64 2]) ∧ w = w' := by
  rcases h with h | h
  · have hd : decide (c < 0) = true := by simpa using h
    go_enter Try.func13, Try.ntmps13
    go_wp2
    go_ret2
    exact ⟨rfl, rfl⟩
  · have hd : decide (c < 0) = false := by simp; omega
    have hd2 : decide (60000 < c) = true := by simpa using h
    go_enter Try.func13, Try.ntmps13
    go_wp2
    go_ret2
    exact ⟨rfl, rfl⟩
def newG : Smry Try.prog XP where
  g := newX.g
  run := fun args m K => match args with
    | [.c (.int l .i64 c bd)] => (0 ≤ c ∧ c ≤ 60000 → (bif newOk m (parO (PA.new c.toNat)) then K (.tup [(false, [.ptr m.nx 0]), okE]) (withNew m (parO (PA.new c.toNat))) else Stuck 983)) ∧
        (c < 0 ∨ 60000 < c → K (.tup [(false, [.raw (.pointer none)]), (false, [.int true .i64 2])]) m)
    | _ => Stuck 984
  ok := fun args m K hr => by
    split at hr <;> try exact hr.elim
    rename_i l c bd
    by_cases h : 0 ≤ c ∧ c ≤ 60000
    · refine newQ.ok [.c (.int l .i64 c bd)] m K ⟨h, ?_⟩
      have h2 := hr.1 h
      cases hb : newOk m (parO (PA.new c.toNat)) <;> rw [hb] at h2
      · exact h2.elim
      · exact h2
    · intro ν w R w0 H HK
      refine (arenaNew_err c w (by omega)).mono fun e w' ⟨he, hw⟩ => ?_
      subst hw
      exact ⟨_, m, ν, hr.2 (by omega), Agree.refl _ _, Nat.le_refl _, he, H, HK⟩
end Go.Proofs.Ytnkikhhiaecebaa

/- An arena and the document's (layer 3's statements): they are found to be the same. -/
namespace Go.Proofs.Ytnkikhhiaecebaa
open Go Go.RowKit
set_option maxRecDepth 1000000
set_option maxHeartbeats 0
structure PAfew (x : PA) : Prop where
  faults : x.faults ≤ 1000000000
  t0 : x.t.lays ≤ 1000000000
  t1 : x.t.frees ≤ 1000000000
  t2 : x.t.reads ≤ 1000000000
  t3 : x.t.writes ≤ 1000000000
  t4 : x.t.swaps ≤ 1000000000
  t5 : x.t.adds ≤ 1000000000
def samQ (W : World) (x : PA) (v : SV) (m : Mem XP) : Prop := match v with
  | .c (.int _ .i64 r _) => r = 1 ∧ match m.hp.get 0, (m.hp.del 0).get 1 with
    | some (.seen W'), some (.ext (.obj [] x')) => Grow W W' ∧ x' = x
    | _, _ => Stuck 690
  | _ => Stuck 691
def tblS3 : List (Smry Try.prog XP) := [wordsR, blocksP, same3S, used3S, capC.R, usedC.R, peakC.R, lenC.R, faultsQ, tallyC.R]
theorem sam3_vc (W : World) (x : PA) (y : D3) (a : Option Addr) (len cp : Nat) : (callN Try.prog (tblS3 : List (Smry Try.prog XP)) (fun _ _ => false) 100 20 38 [.c (.ptr 1 0), .agg (d3C y (.sliv a false len cp))] ⟨[(0, .seen W), (1, parO x)], 100⟩ (.nil) (fun v m _ => samQ W x v m)) = (
 ∀ (cap : Nat), 9 ≤ cap → 0 < 9 ∧ (((↑(x.fx.getD 0 0) : Int) != y.x0) = true → (0 : Int) = (1 : Int) ∧ Grow W W ∧ x = x) ∧ (((↑(x.fx.getD 0 0) : Int) != y.x0) = false → 1 < 9 ∧
 (((↑(x.fx.getD 1 0) : Int) != y.x1) = true → (0 : Int) = (1 : Int) ∧ Grow W W ∧ x = x) ∧ (((↑(x.fx.getD 1 0) : Int) != y.x1) = false → 2 < 9 ∧ (((↑(x.fx.getD 2 0) : Int) != y.x2) =
 true → (0 : Int) = (1 : Int) ∧ Grow W W ∧ x = x) ∧ (((↑(x.fx.getD 2 0) : Int) != y.x2) = false → 3 < 9 ∧ (((↑(x.fx.getD 3 0) : Int) != y.x3) = true → (0 : Int) = (1 : Int) ∧ Grow W
 W ∧ x = x) ∧ (((↑(x.fx.getD 3 0) : Int) != y.x3) = false → 4 < 9 ∧ (((↑(x.fx.getD 4 0) : Int) != y.x4) = true → (0 : Int) = (1 : Int) ∧ Grow W W ∧ x = x) ∧ (((↑(x.fx.getD 4 0) :
 Int) != y.x4) = false → 5 < 9 ∧ (((↑(x.fx.getD 5 0) : Int) != y.x5) = true → (0 : Int) = (1 : Int) ∧ Grow W W ∧ x = x) ∧ (((↑(x.fx.getD 5 0) : Int) != y.x5) = false → 6 < 9 ∧
 (((↑(x.fx.getD 6 0) : Int) != y.x6) = true → (0 : Int) = (1 : Int) ∧ Grow W W ∧ x = x) ∧ (((↑(x.fx.getD 6 0) : Int) != y.x6) = false → 7 < 9 ∧ (((↑(x.fx.getD 7 0) : Int) != y.x7) =
 true → (0 : Int) = (1 : Int) ∧ Grow W W ∧ x = x) ∧ (((↑(x.fx.getD 7 0) : Int) != y.x7) = false → 8 < 9 ∧ (((↑(x.fx.getD 8 0) : Int) != y.x8) = true → (0 : Int) = (1 : Int) ∧ Grow W
 W ∧ x = x) ∧ (((↑(x.fx.getD 8 0) : Int) != y.x8) = false → (∀ (W' : World) (a_11 : Option Addr) (cap : Nat) (bs L : List (Nat × List Nat)), Grow W W' → (∃ (z : Nat → Value), ArInv
 (x.ar z)) → DocOf x.bs L → bs = List.take (Int.toNat (100000 : Int)) L → BlkRow W' a_11 bs.length bs → bs.length ≤ cap ∧ cap ≤ 9223372036854775807 → y.cap = y.cap ∧ y.births =
 y.births ∧ y.peak = y.peak ∧ y.faults = y.faults ∧ y.x0 = y.x0 ∧ y.x1 = y.x1 ∧ y.x2 = y.x2 ∧ y.x3 = y.x3 ∧ y.x4 = y.x4 ∧ y.x5 = y.x5 ∧ y.x6 = y.x6 ∧ y.x7 = y.x7 ∧ y.x8 = y.x8 ∧ a =
 a ∧ len = len ∧ cp = cp ∧ y.t0 = y.t0 ∧ y.t1 = y.t1 ∧ y.t2 = y.t2 ∧ y.t3 = y.t3 ∧ y.t4 = y.t4 ∧ y.t5 = y.t5 ∧ ((RowW W' a_11 bs.length ∧ RowW W' a len) ∧ ∀ (r : Bool), (r = true ↔
 bs.length = len ∧ ∀ (j : Nat), j < bs.length → hd3 W' a_11 j = hd3 W' a j ∧ (sl3 W' a_11 j).snd.fst = (sl3 W' a j).snd.fst ∧ ∀ (k : Nat), k < (sl3 W' a_11 j).snd.fst → wd3 W' a_11 j
 k = wd3 W' a j k) → y.cap = y.cap ∧ y.births = y.births ∧ y.peak = y.peak ∧ y.faults = y.faults ∧ y.x0 = y.x0 ∧ y.x1 = y.x1 ∧ y.x2 = y.x2 ∧ y.x3 = y.x3 ∧ y.x4 = y.x4 ∧ y.x5 = y.x5 ∧
 y.x6 = y.x6 ∧ y.x7 = y.x7 ∧ y.x8 = y.x8 ∧ a = a ∧ len = len ∧ cp = cp ∧ y.t0 = y.t0 ∧ y.t1 = y.t1 ∧ y.t2 = y.t2 ∧ y.t3 = y.t3 ∧ y.t4 = y.t4 ∧ y.t5 = y.t5 ∧ ((!r) = true → (0 : Int)
 = (1 : Int) ∧ Grow W W' ∧ x = x) ∧ ((!r) = false → (True ∧ ((∃ (z : Nat → Value), ArInv (x.ar z)) → y.cap = y.cap ∧ y.births = y.births ∧ y.peak = y.peak ∧ y.faults = y.faults ∧
 y.x0 = y.x0 ∧ y.x1 = y.x1 ∧ y.x2 = y.x2 ∧ y.x3 = y.x3 ∧ y.x4 = y.x4 ∧ y.x5 = y.x5 ∧ y.x6 = y.x6 ∧ y.x7 = y.x7 ∧ y.x8 = y.x8 ∧ a = a ∧ len = len ∧ cp = cp ∧ y.t0 = y.t0 ∧ y.t1 = y.t1
 ∧ y.t2 = y.t2 ∧ y.t3 = y.t3 ∧ y.t4 = y.t4 ∧ y.t5 = y.t5 ∧ (((↑x.cap : Int) != y.cap) = true → (0 : Int) = (1 : Int) ∧ Grow W W' ∧ x = x) ∧ (((↑x.cap : Int) != y.cap) = false → (True
 ∧ ((∃ (z : Nat → Value), ArInv (x.ar z)) → y.cap = y.cap ∧ y.births = y.births ∧ y.peak = y.peak ∧ y.faults = y.faults ∧ y.x0 = y.x0 ∧ y.x1 = y.x1 ∧ y.x2 = y.x2 ∧ y.x3 = y.x3 ∧ y.x4
 = y.x4 ∧ y.x5 = y.x5 ∧ y.x6 = y.x6 ∧ y.x7 = y.x7 ∧ y.x8 = y.x8 ∧ a = a ∧ len = len ∧ cp = cp ∧ y.t0 = y.t0 ∧ y.t1 = y.t1 ∧ y.t2 = y.t2 ∧ y.t3 = y.t3 ∧ y.t4 = y.t4 ∧ y.t5 = y.t5 ∧
 (Row3 W' a len ∧ y.cap = y.cap ∧ y.births = y.births ∧ y.peak = y.peak ∧ y.faults = y.faults ∧ y.x0 = y.x0 ∧ y.x1 = y.x1 ∧ y.x2 = y.x2 ∧ y.x3 = y.x3 ∧ y.x4 = y.x4 ∧ y.x5 = y.x5 ∧
 y.x6 = y.x6 ∧ y.x7 = y.x7 ∧ y.x8 = y.x8 ∧ a = a ∧ len = len ∧ cp = cp ∧ y.t0 = y.t0 ∧ y.t1 = y.t1 ∧ y.t2 = y.t2 ∧ y.t3 = y.t3 ∧ y.t4 = y.t4 ∧ y.t5 = y.t5 ∧ (((↑x.used : Int) !=
 (↑(sum3 (lens3 W' a) len) : Int)) = true → (0 : Int) = (1 : Int) ∧ Grow W W' ∧ x = x) ∧ (((↑x.used : Int) != (↑(sum3 (lens3 W' a) len) : Int)) = false → (True ∧ ((∃ (z : Nat →
 Value), ArInv (x.ar z)) → y.cap = y.cap ∧ y.births = y.births ∧ y.peak = y.peak ∧ y.faults = y.faults ∧ y.x0 = y.x0 ∧ y.x1 = y.x1 ∧ y.x2 = y.x2 ∧ y.x3 = y.x3 ∧ y.x4 = y.x4 ∧ y.x5 =
 y.x5 ∧ y.x6 = y.x6 ∧ y.x7 = y.x7 ∧ y.x8 = y.x8 ∧ a = a ∧ len = len ∧ cp = cp ∧ y.t0 = y.t0 ∧ y.t1 = y.t1 ∧ y.t2 = y.t2 ∧ y.t3 = y.t3 ∧ y.t4 = y.t4 ∧ y.t5 = y.t5 ∧ (((↑x.peak : Int)
 != y.peak) = true → (0 : Int) = (1 : Int) ∧ Grow W W' ∧ x = x) ∧ (((↑x.peak : Int) != y.peak) = false → (True ∧ ((∃ (z : Nat → Value), ArInv (x.ar z)) → y.cap = y.cap ∧ y.births =
 y.births ∧ y.peak = y.peak ∧ y.faults = y.faults ∧ y.x0 = y.x0 ∧ y.x1 = y.x1 ∧ y.x2 = y.x2 ∧ y.x3 = y.x3 ∧ y.x4 = y.x4 ∧ y.x5 = y.x5 ∧ y.x6 = y.x6 ∧ y.x7 = y.x7 ∧ y.x8 = y.x8 ∧ a =
 a ∧ len = len ∧ cp = cp ∧ y.t0 = y.t0 ∧ y.t1 = y.t1 ∧ y.t2 = y.t2 ∧ y.t3 = y.t3 ∧ y.t4 = y.t4 ∧ y.t5 = y.t5 ∧ (((↑x.bs.length : Int) != (↑len : Int)) = true → (0 : Int) = (1 : Int)
 ∧ Grow W W' ∧ x = x) ∧ (((↑x.bs.length : Int) != (↑len : Int)) = false → (y.cap = y.cap ∧ y.births = y.births ∧ y.peak = y.peak ∧ y.faults = y.faults ∧ y.x0 = y.x0 ∧ y.x1 = y.x1 ∧
 y.x2 = y.x2 ∧ y.x3 = y.x3 ∧ y.x4 = y.x4 ∧ y.x5 = y.x5 ∧ y.x6 = y.x6 ∧ y.x7 = y.x7 ∧ y.x8 = y.x8 ∧ a = a ∧ len = len ∧ cp = cp ∧ y.t0 = y.t0 ∧ y.t1 = y.t1 ∧ y.t2 = y.t2 ∧ y.t3 = y.t3
 ∧ y.t4 = y.t4 ∧ y.t5 = y.t5 ∧ ((wr64 x.faults != y.faults) = true → (0 : Int) = (1 : Int) ∧ Grow W W' ∧ x = x) ∧ ((wr64 x.faults != y.faults) = false → (True ∧ ((∃ (z : Nat →
 Value), ArInv (x.ar z)) → y.cap = y.cap ∧ y.births = y.births ∧ y.peak = y.peak ∧ y.faults = y.faults ∧ y.x0 = y.x0 ∧ y.x1 = y.x1 ∧ y.x2 = y.x2 ∧ y.x3 = y.x3 ∧ y.x4 = y.x4 ∧ y.x5 =
 y.x5 ∧ y.x6 = y.x6 ∧ y.x7 = y.x7 ∧ y.x8 = y.x8 ∧ a = a ∧ len = len ∧ cp = cp ∧ y.t0 = y.t0 ∧ y.t1 = y.t1 ∧ y.t2 = y.t2 ∧ y.t3 = y.t3 ∧ y.t4 = y.t4 ∧ y.t5 = y.t5 ∧ ((false == (tlyZ
 x.t 0 == y.t0 && (tlyZ x.t 1 == y.t1 && (tlyZ x.t 2 == y.t2 && (tlyZ x.t 3 == y.t3 && (tlyZ x.t 4 == y.t4 && (tlyZ x.t 5 == y.t5 && true))))))) = true → (0 : Int) = (1 : Int) ∧ Grow
 W W' ∧ x = x) ∧ ((false == (tlyZ x.t 0 == y.t0 && (tlyZ x.t 1 == y.t1 && (tlyZ x.t 2 == y.t2 && (tlyZ x.t 3 == y.t3 && (tlyZ x.t 4 == y.t4 && (tlyZ x.t 5 == y.t5 && true))))))) =
 false → (1 : Int) = (1 : Int) ∧ Grow W W' ∧ x = x))) ∧ True)) ∧ True))) ∧ True))) ∧ True)) ∧ True)) ∧ True))) ∧ True)) ∧ True) ∧ True)))))))))) := by
  kernel_rfl
theorem sam3_run (W : World) (x : PA) (y : D3) (a : Option Addr) (len cp : Nat) (hc : ∃ bs, DocAt W a len cp bs ∧ DR x y bs ∧ PAfew x) : Run (callN Try.prog (tblS3 : List (Smry Try.prog XP)) (fun _ _ => false) 100 20 38 [.c (.ptr 1 0), .agg (d3C y (.sliv a false len cp))] ⟨[(0, .seen W), (1, parO x)], 100⟩ (.nil) (fun v m _ => samQ W x v m)) := by
  constructor
  rw [sam3_vc]
  obtain ⟨bs, hd, d, few⟩ := hc
  have hx : ∀ k, k < 9 → ((x.fx.getD k 0 : Nat) : Int) = y.fxL.getD k 0 := fun k hk => by
    rw [d.fx]
    have : k < x.fx.length := by rw [d.fx9]; exact hk
    simp [List.getD_eq_getElem?_getD, this]
  have e0 : ((x.fx.getD 0 0 : Nat) : Int) = y.x0 := hx 0 (by decide)
  have e1 : ((x.fx.getD 1 0 : Nat) : Int) = y.x1 := hx 1 (by decide)
  have e2 : ((x.fx.getD 2 0 : Nat) : Int) = y.x2 := hx 2 (by decide)
  have e3 : ((x.fx.getD 3 0 : Nat) : Int) = y.x3 := hx 3 (by decide)
  have e4 : ((x.fx.getD 4 0 : Nat) : Int) = y.x4 := hx 4 (by decide)
  have e5 : ((x.fx.getD 5 0 : Nat) : Int) = y.x5 := hx 5 (by decide)
  have e6 : ((x.fx.getD 6 0 : Nat) : Int) = y.x6 := hx 6 (by decide)
  have e7 : ((x.fx.getD 7 0 : Nat) : Int) = y.x7 := hx 7 (by decide)
  have e8 : ((x.fx.getD 8 0 : Nat) : Int) = y.x8 := hx 8 (by decide)
  have ec : (x.cap : Int) = y.cap := d.cap.symm
  have ep : (x.peak : Int) = y.peak := d.peak.symm
  have el : (x.bs.length : Int) = (len : Int) := by rw [← d.doc.len, hd.len]
  have ef : wr64 x.faults = y.faults := by rw [wr64_small (Nat.le_trans few.faults (by decide))]; exact d.faults.symm
  have et0 : tlyZ x.t 0 = y.t0 := by rw [d.t0]; exact wr64_small (Nat.le_trans few.t0 (by decide))
  have et1 : tlyZ x.t 1 = y.t1 := by rw [d.t1]; exact wr64_small (Nat.le_trans few.t1 (by decide))
  have et2 : tlyZ x.t 2 = y.t2 := by rw [d.t2]; exact wr64_small (Nat.le_trans few.t2 (by decide))
  have et3 : tlyZ x.t 3 = y.t3 := by rw [d.t3]; exact wr64_small (Nat.le_trans few.t3 (by decide))
  have et4 : tlyZ x.t 4 = y.t4 := by rw [d.t4]; exact wr64_small (Nat.le_trans few.t4 (by decide))
  have et5 : tlyZ x.t 5 = y.t5 := by rw [d.t5]; exact wr64_small (Nat.le_trans few.t5 (by decide))
  simp only [e0, e1, e2, e3, e4, e5, e6, e7, e8, ec, ep, el, ef, et0, et1, et2, et3, et4, et5, bne_self_eq_false, beq_self_eq_true, Bool.and_self, Bool.false_eq_true, false_implies, true_and, and_true, forall_const, true_implies, eq_self, Nat.reduceLT, Int.reduceEq, false_and, imp_false, not_false_eq_true]
  intro cap hcap W' a2 cap2 bs2 L g hinv hL hb2 hrow hcap2
  have hfew := hd.few
  have htot := hd.tot
  have hlen := hd.len
  have e9 : bs2 = bs := by
    rw [hb2, hL.uniq d.doc (List.Perm.refl _)]
    exact List.take_of_length_le (by show bs.length ≤ 100000; omega)
  subst e9
  have hg := hd.row.grow g
  have hu : (x.used : Int) = ((sum3 (lens3 W' a) len : Nat) : Int) := by rw [hg.tot, d.used hinv]
  refine ⟨⟨hrow.rowW (by omega) (by omega), hg.rowW (by omega) (by omega)⟩, fun r hr => ?_⟩
  have hrt : r = true := hr.2 ((same3_iff hrow hg).2 rfl)
  subst hrt
  simp only [hu, bne_self_eq_false, beq_self_eq_true, Bool.not_true, Bool.and_self, Bool.false_eq_true, false_implies, true_and, and_true, forall_const, true_implies, eq_self, not_false_eq_true, hinv, imp_self]
  repeat' first | with_reducible apply And.intro | exact trivial | exact rfl | exact hg.row (by omega) (by omega) | exact g | (intro h; exact absurd h (by decide)) | (intro _)
theorem two_calls {g : FuncId} {rest : List SV} {T : List (Smry Try.prog XP)} {wr : FuncId → Nat → Bool} {LF k : Nat} {s : Scr XP} {W : World} {x : PA} {post : SV → Mem XP → Prop}
    (run : Run (callN Try.prog T wr LF k g (.c (.ptr 1 0) :: rest) ⟨[(0, .seen W), (1, parO x)], 100⟩ s fun v m _ => post v m))
    (hv : ∀ v m, post v m → ∃ W' x', m.hp.get 0 = some (.seen W') ∧ (m.hp.del 0).get 1 = some (parO x') ∧ v.names = []) (ha : ∀ v ∈ rest, v.names = [])
    {n : Nat} {hp : SH XP} (hW : hp.get 0 = some (.seen W)) (hn : (hp.del 0).get n = some (parO x)) {ν : Nat → Nat} {w w0 : World} {R : Assn} (H : Sat w (hp.den ν * R)) (HK : Kept w0 w) :
    Calls Try.prog g ((SV.c (.ptr n 0) :: rest).map (SV.den ν)).toArray w fun e w' => ∃ v m W' x', post v m ∧ m.hp.get 0 = some (.seen W') ∧ (m.hp.del 0).get 1 = some (parO x') ∧ e = .returned (v.den ν) ∧ Sat w' ((parO x').den ν (ν n) * (seenA W' * (((hp.del 0).del n).den ν * R))) ∧ Kept w0 w' := by
  let μ : Nat → Nat := fun i => if i = 1 then ν n else ν i
  have H1 := H
  rw [SH.den_get ν hW, SH.den_get ν hn, Assn.mul_assoc, Assn.mul_assoc] at H1
  have e1 : (parO x).den μ (μ 1) = (parO x).den ν (ν n) := (XP.law μ ν _ _ (fun k hk => by cases hk))
  have H2 : Sat w ((⟨[(0, .seen W), (1, parO x)], 100⟩ : Mem XP).hp.den μ * (((hp.del 0).del n).den ν * R)) := by
    refine H1.cast ?_
    show _ = SH.den μ [(0, .seen W), (1, parO x)] * _
    simp only [SH.den]
    rw [e1]
    show seenA W * ((parO x).den ν (ν n) * _) = (seenA W * ((parO x).den ν (ν n) * 1)) * _
    rw [Assn.mul_comm _ (1 : Assn), Assn.one_mul, Assn.mul_assoc]
  have ea : ((SV.c (.ptr n 0) :: rest).map (SV.den ν)) = ((SV.c (.ptr 1 0) :: rest).map (SV.den μ)) := by
    have h0 : ∀ l : List SV, (∀ v ∈ l, v.names = []) → l.map (SV.den ν) = l.map (SV.den μ) := fun l hl => List.map_congr_left fun v hv => SV.den_eq v (by rw [hl v hv]; intro n h; cases h)
    rw [List.map_cons, List.map_cons, h0 rest ha]
    rfl
  rw [ea]
  refine (callN_ok namesOk mixed T wr LF k g _ ⟨[(0, .seen W), (1, parO x)], 100⟩ s _ run.out μ w _ w0 H2 HK).mono ?_
  rintro e w' ⟨v, m', s', ξ, hp', ag, hn', he, hs, hk⟩
  obtain ⟨W', x', hW', hx', hvn⟩ := hv v m' hp'
  have k1 : ξ 1 = ν n := ag 1 (by show 1 < 100; decide)
  refine ⟨v, m', W', x', hp', hW', hx', ?_, ?_, hk⟩
  · rw [he]
    congr 1
    exact SV.den_eq v (by rw [hvn]; intro n h; cases h)
  · rw [SH.den_get ξ hW', SH.den_get ξ hx', k1, Assn.mul_assoc, Assn.mul_assoc] at hs
    have e2 : (parO x').den ξ (ν n) = (parO x').den ν (ν n) := (XP.law ξ ν _ _ (fun k hk => by cases hk))
    rw [e2] at hs
    have h3 : Sat w' (((m'.hp.del 0).del 1).den ξ * ((parO x').den ν (ν n) * (seenA W' * (((hp.del 0).del n).den ν * R)))) := hs.cast (by
      show seenA W' * ((parO x').den ν (ν n) * _) = _
      ac_rfl)
    exact h3.right
def sam3S : Smry Try.prog XP where
  g := 38
  run := fun args m K => match args with
    | [.c (.ptr n 0), .agg l] => match m.hp.get 0, (m.hp.del 0).get n, d3Of l with
      | some (.seen W), some (.ext (.obj [] x)), some (y, L) => match L with
        | .sliv a _ len cp => (∃ bs, DocAt W a len cp bs ∧ ∀ y0, y0 = y → DR x y0 bs ∧ PAfew x) ∧ ∀ W', Grow W W' → K (.c (.int true .i64 1)) ⟨m.hp.set 0 (.seen W'), m.nx⟩
        | _ => Stuck 692
      | _, _, _ => Stuck 693
    | _ => Stuck 694
  ok := fun args m K hr => by
    split at hr <;> try exact hr.elim
    rename_i n l
    split at hr <;> try exact hr.elim
    rename_i W x y L hW hn hl
    obtain ⟨hd, hnm⟩ := d3Of_sound hl
    split at hr <;> try exact hr.elim
    rename_i a ll len cp
    obtain ⟨⟨bs, hat, hc⟩, hr⟩ := hr
    obtain ⟨hdr, hfew⟩ := hc y rfl
    intro ν w R w0 H HK
    have ea : ([.c (.ptr n 0), .agg l] : List SV).map (SV.den ν) = ([.c (.ptr n 0), .agg (d3C y (.sliv a false len cp))] : List SV).map (SV.den ν) := by
      have e1 : SC.denL ν l = SC.denL ν (d3C y (.sliv a false len cp)) := (hd ν).trans (by simp only [d3C, SC.denL, SC.den])
      simp only [List.map_cons, List.map_nil, SV.den, e1]
    rw [ea]
    refine (two_calls (post := fun v m => samQ W x v m) (sam3_run W x y a len cp ⟨bs, hat, hdr, hfew⟩) (fun v m h => ?_) (fun v hv => ?_) hW hn H HK).mono ?_
    · unfold samQ at h
      split at h <;> try exact h.elim
      obtain ⟨_, h⟩ := h
      split at h <;> try exact h.elim
      rename_i W' x' h1 h2
      exact ⟨W', x', h1, h2, rfl⟩
    · simp only [List.mem_singleton] at hv; subst hv; rfl
    · rintro e w' ⟨v, m', W', x', hv, h1, h2, he, hs, hk⟩
      unfold samQ at hv
      split at hv <;> try exact hv.elim
      obtain ⟨rfl, hv⟩ := hv
      rw [h1, h2] at hv
      obtain ⟨hg, rfl⟩ := hv
      refine ⟨_, _, ν, hr W' hg, Agree.refl _ _, Nat.le_refl _, he, ?_, hk⟩
      rw [SH.den_get ν (set_get hW), set_del, SH.den_get ν hn, Assn.mul_assoc, Assn.mul_assoc]
      exact hs.cast (by
        show (parO x').den ν (ν n) * (seenA W' * _) = seenA W' * ((parO x').den ν (ν n) * _)
        ac_rfl)
end Go.Proofs.Ytnkikhhiaecebaa

/- An arena against itself (layer 3): all blocks, one by one. -/
namespace Go.Proofs.Ytnkikhhiaecebaa
open Go Go.RowKit
set_option maxRecDepth 100000
theorem alike_self (h : Nat) (ws : List Nat) (v : Value) (w : World) {R : Assn} (H : Sat w (rowAt 29 v (u64s ws) * R)) (hw : 1 ≤ ws.length ∧ ws.length ≤ 2048) :
    Calls Try.prog 99 #[.agg #[.int .u64 h, v], .agg #[.int .u64 h, v]] w fun e w' => e = .returned (.bool true) ∧ Sat w' (rowAt 29 v (u64s ws) * R) ∧ Kept w w' := by
  have l1 : (u64s ws).length = ws.length := by simp [u64s]
  rcases rowAt_open H with ⟨_, h0, _⟩ | ⟨g1, c1, cur1, rfl, a2, a3, a4, a5, H1⟩
  · rw [h0] at l1; simp at l1; omega
  clear H1 a5
  rw [l1] at H ⊢
  have H1 := rowAt_head l1 H
  have H3 : Sat w ((⟨[(0, .ints 29 .u64 ws.length c1 (bkF ws))], 100⟩ : Mem XB).hp.den (nu3 g1 0 0) * R) := by
    refine H1.cast ?_
    simp only [SH.den, SO.den, nu3, bkF_u64s]
    rw [Assn.mul_comm _ (1 : Assn), Assn.one_mul]
  refine (callN_ok namesOk mixed _ _ _ _ _ _ _ _ _ (alikeS_run (h : Int) ws.length c1 (bkF ws) (by omega)).out _ w R w H3 (Kept.refl w)).mono ?_
  rintro e w' ⟨v, m', s', ξ, ho, ag, _, he, hs, hk⟩
  obtain ⟨κ, agk, hv', hs⟩ := outM_sound ho hs
  have k0 : κ 0 = g1 := by rw [agk 0 (by decide), ag 0 (by show 0 < 100; decide)]; rfl
  refine ⟨?_, ?_, hk⟩
  · rw [he, hv']
    rfl
  · have h4 : Sat w' (rowHead g1 29 1 ws.length c1 (u64s ws) * R) := by
      refine hs.cast ?_
      simp only [SH.den, SO.den, k0, bkF_u64s]
      rw [Assn.mul_comm _ (1 : Assn), Assn.one_mul]
    exact head_rowAt l1 h4
set_option maxHeartbeats 3200000 in
theorem equal_self (pa : Nat) (xs : List Blk) (w : World) {R : Assn} (H : Sat w (mapAt pa (xs.map ent) * (rowsAt xs * R))) (ha : ∀ b ∈ xs, 1 ≤ b.ws.length ∧ b.ws.length ≤ 2048)
    (hna : (xs.map (·.n)).Nodup) (hla : xs.length ≤ 100000) :
    Calls Try.prog 101 #[.map (some pa), .map (some pa), .func (.func 99) #[] #[]] w fun e w' =>
      e = .returned (.bool true) ∧ Sat w' (mapAt pa (xs.map ent) * (rowsAt xs * R)) ∧ Kept w w' := by
  have hl1 := run_len_blk w H
  have HH := Lib.hid H
  have hd : ((xs.length : Int) != (xs.length : Int)) = false := by simp
  have HN := Lib.hid hna
  have HA := Lib.hid ha
  clear H ha hna
  go_enter Try.func101, Try.ntmps101
  go_wp2_with (at_range; refine wpList_range_at _ rfl (.tmp 16) 170 _ _ rfl Try.underlying170 pa (xs.map ent) rfl HH.out ?_; intro w5 hs5 hk5 hb5)
  have Hk5 := Lib.hid ((Kept.refl w).trans hk5)
  clear hk5 hb5
  generalize w.heap.size = r at *
  simp only [Act.put, List.setIfInBounds_toArray, List.set_cons_succ, List.set_cons_zero]
  go_loopw [7, 8, 9, 10] (fun _ _ _ _ wr => ∃ dbs : List Blk, (∀ b ∈ dbs, b ∈ xs) ∧ Kept w wr ∧
    Sat wr (rangingAt r pa (xs.map ent) (dbs.map ent) * (rowsAt xs * R)))
    (fun _ _ _ _ wr => rLeft wr pa r)
  case atStart => exact ⟨[], by simp, Hk5.out, hs5⟩
  case round =>
    obtain ⟨dbs, hsub, hk, hs⟩ := hrel
    go_wp2_with (at_next; refine wpList_next_at _ rfl (.tmp 17) rfl r pa (xs.map ent) (dbs.map ent) rfl hs ?_ ?_)
    · intro hperm
      have hfin := rangingAt_map hs
      clear hs hs5
      go_wp2
      go_ret
      exact ⟨rfl, hfin, hk⟩
    · intro x v w6 a ha hent hs6 hk6 hz6 hlt6 hen6
      obtain ⟨l1, l2, hl12⟩ := List.append_of_mem ha
      have hrows := rows_mid l1 l2 a
      rw [← hl12] at hrows
      clear hl12
      have e1 : x = a.n ∧ v = .agg #[.int .u64 a.h, a.v] := by
        have := hent
        simp only [ent, Prod.mk.injEq] at this
        exact ⟨this.1.symm, this.2.symm⟩
      obtain ⟨rfl, rfl⟩ := e1
      have hs7 := hs6.cast (Q := rowAt 29 a.v (u64s a.ws) * (rangingAt r pa (xs.map ent) (dbs.map ent ++ [((a.n : Int), .agg #[.int .u64 a.h, a.v])]) * (rowsAt (l1 ++ l2) * R))) (by rw [hrows]; ac_rfl)
      obtain ⟨va, vn, vc, hv⟩ := rowAt_slice hs7
      rw [hv] at hs7 hen6
      have Hs7 := Lib.hid hs7
      have Hs6 := Lib.hid hs6
      have hleft := rLeft_eq hs
      rw [List.length_map, List.length_map] at hleft
      clear hs hs5 hs6 hs7 hz6
      go_wp2_with fail
      have Hs8 := Lib.hid (Hs7.out.alloc (.cells #[.int .u64 a.h, .slice va vn vc] 179))
      have Hk8 := Lib.hid ((hk.trans hk6).alloc (.cells #[.int .u64 a.h, .slice va vn vc] 179))
      generalize World.alloc w6 _ = w7 at *
      generalize w6.heap.size = y at *
      have hlook : (Instr.lookup 170 (.map (some pa)) (.int .i64 (a.n : Int)) true).run Try.prog w7 = .ok (.tuple #[.agg #[.int .u64 a.h, .slice va vn vc], .bool true]) w7 := by
        have hm := rangingAt_map (Hs8.out.cast (Q := rangingAt r pa (xs.map ent) (dbs.map ent ++ [((a.n : Int), .agg #[.int .u64 a.h, .slice va vn vc])]) * (own y (.cells #[.int .u64 a.h, .slice va vn vc] 179 (0, 0)) * (rowAt 29 (.slice va vn vc) (u64s a.ws) * (rowsAt (l1 ++ l2) * R)))) (by ac_rfl))
        obtain ⟨es, clock, hl, h5⟩ := mapAt_open hm
        have := lookup_ok (P := Try.prog) h5.block hl Try.underlying170 Try.underlying3 (zero_block _) (a.n : Int)
        rw [look_blk HN.out ha, hv] at this
        exact this
      have Hs9 := Lib.hid (Hs8.out.alloc (.cells #[.int .u64 a.h, .slice va vn vc] 179))
      have Hk9 := Lib.hid (Hk8.out.alloc (.cells #[.int .u64 a.h, .slice va vn vc] 179))
      clear Hs8 Hs6 Hs7
      rw [hlook, Result.andThen_ok, Oper.upon_value]
      have d0 := Hs9.out.cell 0
      have d1 := Hs9.out.cell 1
      have e0 := (Hs9.out.cast (Q := own y (.cells #[.int .u64 a.h, .slice va vn vc] 179 (0, 0)) * (own w7.heap.size (.cells #[.int .u64 a.h, .slice va vn vc] 179 (0, 0)) * (rowAt 29 (.slice va vn vc) (u64s a.ws) * (rangingAt r pa (xs.map ent) (dbs.map ent ++ [((a.n : Int), .agg #[.int .u64 a.h, .slice va vn vc])]) * (rowsAt (l1 ++ l2) * R))))) (by ac_rfl))
      have e1 := e0.cell 1
      have e0 := e0.cell 0
      simp only [List.getElem?_toArray, List.getElem?_cons_zero, List.getElem?_cons_succ] at d0 d1 e0 e1
      have Hal := Lib.hid (alike_self a.h a.ws (.slice va vn vc) _ (Hs9.out.cast (Q := rowAt 29 (.slice va vn vc) (u64s a.ws) * (own y (.cells #[.int .u64 a.h, .slice va vn vc] 179 (0, 0)) * (own w7.heap.size (.cells #[.int .u64 a.h, .slice va vn vc] 179 (0, 0)) * (rangingAt r pa (xs.map ent) (dbs.map ent ++ [((a.n : Int), .agg #[.int .u64 a.h, .slice va vn vc])]) * (rowsAt (l1 ++ l2) * R))))) (by ac_rfl)) (HA.out a ha))
      go_wp2_with fail
      refine (Hal.out).mono ?_; rintro e w10 ⟨rfl, hs10, hk10⟩
      have hfin : Sat w10 (rangingAt r pa (xs.map ent) ((dbs ++ [a]).map ent) * (rowsAt xs * R)) := by
        have h1 := (hs10.cast (Q := own y (.cells #[.int .u64 a.h, .slice va vn vc] 179 (0, 0)) * (own w7.heap.size (.cells #[.int .u64 a.h, .slice va vn vc] 179 (0, 0)) * (rowAt 29 (.slice va vn vc) (u64s a.ws) * (rangingAt r pa (xs.map ent) (dbs.map ent ++ [((a.n : Int), .agg #[.int .u64 a.h, .slice va vn vc])]) * (rowsAt (l1 ++ l2) * R))))) (by ac_rfl)).right.right
        refine h1.cast ?_
        have e4 : (dbs ++ [a]).map ent = dbs.map ent ++ [((a.n : Int), .agg #[.int .u64 a.h, .slice va vn vc])] := by simp [ent, hv]
        rw [e4, hrows, hv]
        ac_rfl
      have Hfin := Lib.hid hfin
      have Hkf := Lib.hid (Hk9.out.trans hk10)
      clear hs10 hk10 Hal Hs9 hfin
      have hsub' : ∀ c ∈ dbs ++ [a], c ∈ xs := by
        intro c hc
        rcases List.mem_append.1 hc with hc | hc
        · exact hsub c hc
        · simp only [List.mem_singleton] at hc; exact hc ▸ ha
      have hm : rLeft w10 pa r < rLeft wr pa r := by
        rw [hleft, rLeft_eq Hfin.out]
        simp
        omega
      go_wp2
      go_roundw
      case rel => exact ⟨dbs ++ [a], hsub', Hkf.out, Hfin.out⟩
      case measure => exact hm
def eqSelfS : Smry Try.prog XB where
  g := 101
  run := fun args m K => match args with
    | [.c (.map a), .c (.map b), .c (.fn (.func g) [] [])] => if g = 99 then (if a = b then (match m.hp.get a with
      | some (.ext xs) => BlksOk xs ∧ K (.c (.boo false true)) m
      | _ => Stuck 944) else Stuck 945) else Stuck 946
    | _ => Stuck 947
  ok := fun args m K hr => by
    split at hr <;> try exact hr.elim
    rename_i a b g
    split at hr <;> try exact hr.elim
    rename_i hg
    subst hg
    split at hr <;> try exact hr.elim
    rename_i hab
    subst hab
    split at hr <;> try exact hr.elim
    rename_i xs hx
    obtain ⟨ox, hk⟩ := hr
    intro ν w R w0 H HK
    have e : m.hp.den ν * R = mapAt (ν a) (xs.map ent) * (rowsAt xs * ((m.hp.del a).den ν * R)) := by
      rw [SH.den_get ν hx]
      simp only [SO.den, XB]
      ac_rfl
    rw [e] at H
    refine (equal_self (ν a) xs w H ox.ws ox.nd ox.len).mono fun e' w' ⟨he, hs, hk'⟩ => ?_
    exact ⟨_, m, ν, hk, Agree.refl _ _, Nat.le_refl _, he, by rw [e]; exact hs, HK.trans hk'⟩
end Go.Proofs.Ytnkikhhiaecebaa

/- An arena against itself (layer 3). -/
namespace Go.Proofs.Ytnkikhhiaecebaa
open Go Go.RowKit
set_option maxRecDepth 1000000
set_option maxHeartbeats 0
def asameS_1 (v : Nat → Value) (f : Nat → Nat) : Prop := v 0 = v 0 ∧ v 1 = v 1 ∧ v 2 = v 2 ∧ v 3 = v 3 ∧ v 4 = v 4 ∧ (↑(f 0) : Int) = (↑(f 0) : Int) ∧ (↑(f 1) : Int) = (↑(f 1) :
 Int) ∧ (↑(f 2) : Int) = (↑(f 2) : Int) ∧ (↑(f 3) : Int) = (↑(f 3) : Int) ∧ (↑(f 4) : Int) = (↑(f 4) : Int) ∧ (↑(f 5) : Int) = (↑(f 5) : Int) ∧ (↑(f 6) : Int) = (↑(f 6) : Int) ∧ (↑(f
 7) : Int) = (↑(f 7) : Int) ∧ (↑(f 8) : Int) = (↑(f 8) : Int) ∧ v 14 = v 14 ∧ True ∧ v 16 = v 16 ∧ v 17 = v 17 ∧ v 18 = v 18 ∧ v 19 = v 19 ∧ v 20 = v 20 ∧ v 21 = v 21 ∧ True
theorem asameS_vc (f : Nat → Nat) (v : Nat → Value) (xs : List Blk) : (callN Try.prog ([eqSelfS] : List (Smry Try.prog XB)) (fun _ _ => false) 100 20 30 [.c (.ptr 0 0), .c (.ptr 0 0)] ⟨[(0, .cells [.raw (v 0), .raw (v 1), .raw (v 2), .raw (v 3), .raw (v 4), .int false .u64 (f 0 : Nat), .int false .u64 (f 1 : Nat), .int false .u64 (f 2 : Nat), .int false .u64 (f 3 : Nat), .int false .u64 (f 4 : Nat), .int false .u64 (f 5 : Nat), .int false .u64 (f 6 : Nat), .int false .u64 (f 7 : Nat), .int false .u64 (f 8 : Nat), .raw (v 14), .map 1, .raw (v 16), .raw (v 17), .raw (v 18), .raw (v 19), .raw (v 20), .raw (v 21)] 172), (1, .ext xs)], 100⟩ (.both .nil .nil) (fun v' m _ => outM (.c (.boo false true)) [(0, .cells [.raw (v 0), .raw (v 1), .raw (v 2), .raw (v 3), .raw (v 4), .int false .u64 (f 0 : Nat), .int false .u64 (f 1 : Nat), .int false .u64 (f 2 : Nat), .int false .u64 (f 3 : Nat), .int false .u64 (f 4 : Nat), .int false .u64 (f 5 : Nat), .int false .u64 (f 6 : Nat), .int false .u64 (f 7 : Nat), .int false .u64 (f 8 : Nat), .raw (v 14), .map 1, .raw (v 16), .raw (v 17), .raw (v 18), .raw (v 19), .raw (v 20), .raw (v 21)] 172), (1, .ext xs)] v' m)) = (
 ((true == ((↑(f 0) : Int) == (↑(f 0) : Int) && ((↑(f 1) : Int) == (↑(f 1) : Int) && ((↑(f 2) : Int) == (↑(f 2) : Int) && ((↑(f 3) : Int) == (↑(f 3) : Int) && ((↑(f 4) : Int) == (↑(f
 4) : Int) && ((↑(f 5) : Int) == (↑(f 5) : Int) && ((↑(f 6) : Int) == (↑(f 6) : Int) && ((↑(f 7) : Int) == (↑(f 7) : Int) && ((↑(f 8) : Int) == (↑(f 8) : Int) && true)))))))))) =
 true → (BlksOk xs ∧ true = true ∧ (asameS_1 v f) ∧ xs = xs ∧ True) ∧ True) ∧ ((true == ((↑(f 0) : Int) == (↑(f 0) : Int) && ((↑(f 1) : Int) == (↑(f 1) : Int) && ((↑(f 2) : Int) ==
 (↑(f 2) : Int) && ((↑(f 3) : Int) == (↑(f 3) : Int) && ((↑(f 4) : Int) == (↑(f 4) : Int) && ((↑(f 5) : Int) == (↑(f 5) : Int) && ((↑(f 6) : Int) == (↑(f 6) : Int) && ((↑(f 7) : Int)
 == (↑(f 7) : Int) && ((↑(f 8) : Int) == (↑(f 8) : Int) && true)))))))))) = false → true = false ∧ (asameS_1 v f) ∧ xs = xs ∧ True)) := by
  kernel_rfl
theorem asameS_run (f : Nat → Nat) (v : Nat → Value) (xs : List Blk) (hc : BlksOk xs) : Run (callN Try.prog ([eqSelfS] : List (Smry Try.prog XB)) (fun _ _ => false) 100 20 30 [.c (.ptr 0 0), .c (.ptr 0 0)] ⟨[(0, .cells [.raw (v 0), .raw (v 1), .raw (v 2), .raw (v 3), .raw (v 4), .int false .u64 (f 0 : Nat), .int false .u64 (f 1 : Nat), .int false .u64 (f 2 : Nat), .int false .u64 (f 3 : Nat), .int false .u64 (f 4 : Nat), .int false .u64 (f 5 : Nat), .int false .u64 (f 6 : Nat), .int false .u64 (f 7 : Nat), .int false .u64 (f 8 : Nat), .raw (v 14), .map 1, .raw (v 16), .raw (v 17), .raw (v 18), .raw (v 19), .raw (v 20), .raw (v 21)] 172), (1, .ext xs)], 100⟩ (.both .nil .nil) (fun v' m _ => outM (.c (.boo false true)) [(0, .cells [.raw (v 0), .raw (v 1), .raw (v 2), .raw (v 3), .raw (v 4), .int false .u64 (f 0 : Nat), .int false .u64 (f 1 : Nat), .int false .u64 (f 2 : Nat), .int false .u64 (f 3 : Nat), .int false .u64 (f 4 : Nat), .int false .u64 (f 5 : Nat), .int false .u64 (f 6 : Nat), .int false .u64 (f 7 : Nat), .int false .u64 (f 8 : Nat), .raw (v 14), .map 1, .raw (v 16), .raw (v 17), .raw (v 18), .raw (v 19), .raw (v 20), .raw (v 21)] 172), (1, .ext xs)] v' m)) := by
  constructor
  rw [asameS_vc]
  delta asameS_1
  have hcst : ∀ a : Nat, ((a : Int) == (a : Int)) = true := fun a => beq_self_eq_true _
  simp only [hcst, Bool.true_beq, Bool.and_self, Bool.true_and, Bool.and_true]
  simp only [Bool.true_eq_false, false_implies, true_implies, and_true, true_and, forall_const, hc, eq_self]
  all_goals repeat' (with_reducible first | assumption | apply And.intro | exact trivial | exact Eq.refl _ | (refine fun (K : KO XB) => ?_; simp only [and_imp]; intros; repeat' (first | assumption | apply And.intro | exact trivial); done) | intro _)
  all_goals first | exact rfl | contradiction | skip
end Go.Proofs.Ytnkikhhiaecebaa

/- Two arenas against one another (layer 3), or one against itself. -/
namespace Go.Proofs.Ytnkikhhiaecebaa
open Go Go.RowKit
set_option maxRecDepth 100000
theorem ar_self (p : Nat) (A : Ar) (w : World) {R : Assn} (H : Sat w (arAt p A * R)) :
    Calls Try.prog 30 #[.pointer (some ⟨p, 0, none⟩), .pointer (some ⟨p, 0, none⟩)] w fun e w' => e = .returned (.bool true) ∧ Sat w' (arAt p A * R) ∧ Kept w w' := by
  obtain ⟨ps, pb, hi, H1⟩ := arAt_open H
  have oA := blks_ok hi
  let ν : Nat → Nat := fun i => match i with | 0 => p | _ => pb
  have H3 : Sat w ((SH.den (E := XB) ν [(0, .cells [.raw ((arCells A ps pb).getD 0 undef), .raw ((arCells A ps pb).getD 1 undef), .raw ((arCells A ps pb).getD 2 undef), .raw ((arCells A ps pb).getD 3 undef), .raw ((arCells A ps pb).getD 4 undef), .int false .u64 (A.fixed 0 : Nat), .int false .u64 (A.fixed 1 : Nat), .int false .u64 (A.fixed 2 : Nat), .int false .u64 (A.fixed 3 : Nat), .int false .u64 (A.fixed 4 : Nat), .int false .u64 (A.fixed 5 : Nat), .int false .u64 (A.fixed 6 : Nat), .int false .u64 (A.fixed 7 : Nat), .int false .u64 (A.fixed 8 : Nat), .raw ((arCells A ps pb).getD 14 undef), .map 1, .raw ((arCells A ps pb).getD 16 undef), .raw ((arCells A ps pb).getD 17 undef), .raw ((arCells A ps pb).getD 18 undef), .raw ((arCells A ps pb).getD 19 undef), .raw ((arCells A ps pb).getD 20 undef), .raw ((arCells A ps pb).getD 21 undef)] 172), (1, .ext (E := XB) A.bs)]) * (stkAt ps A.s * R)) := by
    refine H1.cast ?_
    show _ = (own p (.cells (arCells A ps pb) _ (0, 0)) * ((mapAt pb (A.bs.map ent) * rowsAt A.bs) * 1)) * _
    rw [Assn.mul_one]
    ac_rfl
  refine (callN_ok namesOk mixed _ _ _ _ _ _ _ _ _ (asameS_run A.fixed (fun i => (arCells A ps pb).getD i undef) A.bs oA).out ν w _ w H3 (Kept.refl w)).mono ?_
  rintro e w' ⟨v, m', s', ξ, ho, ag, _, he, hs, hk⟩
  obtain ⟨κ, agk, hv, hs⟩ := outM_sound ho hs
  have k0 : κ 0 = p := by rw [agk 0 (by decide), ag 0 (by show 0 < 100; decide)]; rfl
  have k1 : κ 1 = pb := by rw [agk 1 (by decide), ag 1 (by show 1 < 100; decide)]; rfl
  refine ⟨by rw [he, hv]; rfl, ?_, hk⟩
  refine arAt_shut (ps := ps) (pb := pb) hi ?_
  refine hs.cast ?_
  simp only [SH.den, SO.den, SC.denL, SC.den, k0, k1]
  rw [Assn.mul_comm _ (1 : Assn), Assn.one_mul]
  show (own p (.cells (arCells A ps pb) _ (0, 0)) * (mapAt pb (A.bs.map ent) * rowsAt A.bs)) * _ = _
  ac_rfl
def sameW : Smry Try.prog XP where
  g := 30
  run := fun args m K => match args with
    | [.c (.ptr a 0), .c (.ptr b 0)] => match Nat.beq a b with
      | true => match m.hp.get a with
        | some (.ext (.obj [] _)) => K (.c (.boo false true)) m
        | _ => Stuck 976
      | false => match m.hp.get a with
        | some (.ext (.obj [] x)) => match (m.hp.del a).get b with
          | some (.ext (.obj [] y)) => PA.Inv x → PA.Inv y → K (.c (.boo false (alikeP x y))) m
          | _ => Stuck 978
        | _ => Stuck 979
    | _ => Stuck 977
  ok := fun args m K hr => by
    split at hr <;> try exact hr.elim
    rename_i a b
    split at hr
    · rename_i hab
      have hab := Nat.eq_of_beq_eq_true hab
      subst hab
      split at hr <;> try exact hr.elim
      rename_i x hx
      intro ν w R w0 H HK
      have H0 := H
      rw [SH.den_get ν hx, Assn.mul_assoc] at H0
      obtain ⟨z, H1⟩ := par_open H0
      refine (ar_self (ν a) (x.ar z) w H1).mono fun e w' ⟨he, hs, hk⟩ => ?_
      refine ⟨_, m, ν, hr, Agree.refl _ _, Nat.le_refl _, by rw [he]; rfl, ?_, HK.trans hk⟩
      rw [SH.den_get ν hx, Assn.mul_assoc]
      exact par_shut (ν := ν) hs
    · split at hr <;> try exact hr.elim
      rename_i x hx
      split at hr <;> try exact hr.elim
      rename_i y hy
      intro ν w R w0 H HK
      have H0 := H
      rw [SH.den_get ν hx, SH.den_get ν hy, Assn.mul_assoc, Assn.mul_assoc] at H0
      have i1 : PA.Inv x := par_inv (ν := ν) (b := ν a) H0
      have i2 : PA.Inv y := par_inv (ν := ν) (b := ν b) H0.swap
      refine sameR.ok [.c (.ptr a 0), .c (.ptr b 0)] m K ?_ ν w R w0 H HK
      show (match m.hp.get a with
        | some (.ext (.obj [] x)) => match (m.hp.del a).get b with
          | some (.ext (.obj [] y)) => K (.c (.boo false (alikeP x y))) m
          | _ => Stuck 973
        | _ => Stuck 974)
      rw [hx]
      simp only [hy]
      exact hr i1 i2
end Go.Proofs.Ytnkikhhiaecebaa

/- Short names for what the executor says of the document's arenas. -/
namespace Go.Proofs.Ytnkikhhiaecebaa
open Go Go.RowKit
def d3e (d e : Doc1) (P : Prop) : Prop := d.y.cap = e.y.cap ∧ d.y.births = e.y.births ∧ d.y.peak = e.y.peak ∧ d.y.faults = e.y.faults ∧ d.y.x0 = e.y.x0 ∧ d.y.x1 = e.y.x1 ∧ d.y.x2 = e.y.x2 ∧ d.y.x3 = e.y.x3 ∧ d.y.x4 = e.y.x4 ∧ d.y.x5 = e.y.x5 ∧ d.y.x6 = e.y.x6 ∧ d.y.x7 = e.y.x7 ∧ d.y.x8 = e.y.x8 ∧ d.A = e.A ∧ d.L = e.L ∧ d.C = e.C ∧ d.y.t0 = e.y.t0 ∧ d.y.t1 = e.y.t1 ∧ d.y.t2 = e.y.t2 ∧ d.y.t3 = e.y.t3 ∧ d.y.t4 = e.y.t4 ∧ d.y.t5 = e.y.t5 ∧ P
def d3g (d e : Doc1) (P : Prop) : Prop := d.y.cap = e.y.cap ∧ d.y.births = e.y.births ∧ d.y.peak = e.y.peak ∧ d.y.faults = e.y.faults ∧ d.y.x0 = e.y.x0 ∧ d.y.x1 = e.y.x1 ∧ d.y.x2 = e.y.x2 ∧ d.y.x3 = e.y.x3 ∧ d.y.x4 = e.y.x4 ∧ d.y.x5 = e.y.x5 ∧ d.y.x6 = e.y.x6 ∧ d.y.x7 = e.y.x7 ∧ d.y.x8 = e.y.x8 ∧ (d.A = e.A ∧ d.L = e.L ∧ d.C = e.C) ∧ d.y.t0 = e.y.t0 ∧ d.y.t1 = e.y.t1 ∧ d.y.t2 = e.y.t2 ∧ d.y.t3 = e.y.t3 ∧ d.y.t4 = e.y.t4 ∧ d.y.t5 = e.y.t5 ∧ P
def d3m (d : Doc1) : D3 := D3.mk d.y.cap d.y.births d.y.peak d.y.faults d.y.x0 d.y.x1 d.y.x2 d.y.x3 d.y.x4 d.y.x5 d.y.x6 d.y.x7 d.y.x8 d.y.t0 d.y.t1 d.y.t2 d.y.t3 d.y.t4 d.y.t5
def d3v (d : Doc1) : List Value := [Value.int IntKind.i64 d.y.cap, Value.int IntKind.i64 d.y.births, Value.int IntKind.i64 d.y.peak, Value.int IntKind.i64 d.y.faults, Value.int IntKind.u64 d.y.x0, Value.int IntKind.u64 d.y.x1, Value.int IntKind.u64 d.y.x2, Value.int IntKind.u64 d.y.x3, Value.int IntKind.u64 d.y.x4, Value.int IntKind.u64 d.y.x5, Value.int IntKind.u64 d.y.x6, Value.int IntKind.u64 d.y.x7, Value.int IntKind.u64 d.y.x8, Value.slice d.A d.L d.C, Value.int IntKind.i64 d.y.t0, Value.int IntKind.i64 d.y.t1, Value.int IntKind.i64 d.y.t2, Value.int IntKind.i64 d.y.t3, Value.int IntKind.i64 d.y.t4, Value.int IntKind.i64 d.y.t5]
theorem d3e_self (d : Doc1) (P : Prop) : d3e d d P = P := by simp only [d3e, true_and]
theorem d3g_self (d : Doc1) (P : Prop) : d3g d d P = P := by simp only [d3g, true_and]
end Go.Proofs.Ytnkikhhiaecebaa

/- The last loop of the law ArenaPlays: what it asks is so. No program in sight. -/
namespace Go.Proofs.Ytnkikhhiaecebaa
open Go Go.RowKit
set_option maxRecDepth 100000
theorem perm_of_sub {α : Type} [DecidableEq α] : ∀ {l k : List α}, l.Nodup → (∀ a ∈ l, a ∈ k) → l.length = k.length → l.Perm k
  | [], k, _, _, h => by
    have : k = [] := List.eq_nil_of_length_eq_zero h.symm
    rw [this]
  | a :: l, k, hn, hs, h => by
    have ha : a ∈ k := hs a (by simp)
    have hn' := List.nodup_cons.1 hn
    have h1 : l.Perm (k.erase a) := perm_of_sub hn'.2 (fun b hb => (List.mem_erase_of_ne (fun e : b = a => hn'.1 (by rw [← e]; exact hb))).2 (hs b (by simp [hb]))) (by
      rw [List.length_erase_of_mem ha, ← h]; rfl)
    exact (h1.cons a).trans (List.perm_cons_erase ha).symm
theorem fx_eq {l k : List Nat} (hl : l.length = 9) (hk : k.length = 9) : ((List.range 9).all fun i => l.getD i 0 == k.getD i 0) = true ↔ l = k := by
  constructor
  · intro h
    rw [List.all_eq_true] at h
    refine List.ext_getElem (by omega) fun i h1 h2 => ?_
    have := beq_iff_eq.1 (h i (List.mem_range.2 (by omega)))
    simpa only [List.getD_eq_getElem?_getD, List.getElem?_eq_getElem h1, List.getElem?_eq_getElem h2, Option.getD_some] using this
  · rintro rfl
    rw [List.all_eq_true]
    exact fun i _ => beq_self_eq_true _
theorem cast_inj {l k : List Nat} : (l.map fun n : Nat => (n : Int)) = (k.map fun n : Nat => (n : Int)) ↔ l = k := by
  constructor
  · intro h
    refine List.ext_getElem ?_ fun i h1 h2 => ?_
    · have := congrArg List.length h
      simpa only [List.length_map] using this
    · have := List.getElem_of_eq h (i := i) (by rw [List.length_map]; exact h1)
      rw [List.getElem_map, List.getElem_map] at this
      omega
  · rintro rfl; rfl
theorem alike_doc {x x' : PA} {y y' : D3} {L L' : DBs} (h : DR x y L) (h' : DR x' y' L') (i : x.Inv) (i' : x'.Inv) : alikeP x x' = true ↔ y.fxL = y'.fxL ∧ L = L' := by
  unfold alikeP
  rw [Bool.and_eq_true, Bool.and_eq_true, fx_eq h.fx9 h'.fx9, h.fx, h'.fx, cast_inj, List.all_eq_true, beq_iff_eq]
  refine and_congr Iff.rfl ⟨fun ⟨h1, h2⟩ => ?_, fun e => ⟨?_, fun a ha => ?_⟩⟩
  · refine h.doc.uniq h'.doc (perm_of_sub ?_ (fun a ha => ?_) h1)
    · exact (List.pairwise_map.1 i.nd).imp fun h e => h (by rw [e])
    · obtain ⟨b, hb, e⟩ := List.any_eq_true.1 (h2 a ha)
      exact eq_of_beq e ▸ hb
  · rw [← h.doc.len, ← h'.doc.len, e]
  · have hm : a.2 ∈ x'.bs.map fun b => b.2 := h'.doc.perm.mem_iff.1 (e ▸ h.doc.perm.mem_iff.2 (List.mem_map.2 ⟨a, ha, rfl⟩))
    obtain ⟨b, hb, eb⟩ := List.mem_map.1 hm
    rw [List.any_eq_true]
    refine ⟨b, hb, ?_⟩
    have n1 := (i.numbers.1 a ha).2.2
    have n2 := (i'.numbers.1 b hb).2.2
    rw [beq_iff_eq]
    obtain ⟨a1, a2, a3⟩ := a
    obtain ⟨b1, b2, b3⟩ := b
    simp only [Prod.mk.injEq] at eb n1 n2 ⊢
    exact ⟨by rw [← n1, ← n2, eb.1], eb.1.symm, eb.2.symm⟩
theorem BlkRow.take {W : World} {a : Option Addr} {len n : Nat} {bs : List (Nat × List Nat)} (h : BlkRow W a len bs) (hn : n ≤ len) : BlkRow W a n (bs.take n) := by
  refine ⟨by rw [List.length_take, h.num]; omega, fun h0 => h.sm (by omega), fun i b hi => h.at' i b ?_⟩
  rw [List.getElem?_take] at hi
  split at hi
  · exact hi
  · cases hi
theorem tot3_take_le (bs : DBs) (n : Nat) : tot3 (bs.take n) ≤ tot3 bs := by
  have := tot3_app (bs.take n) (bs.drop n)
  rw [List.take_append_drop] at this
  omega
theorem AR.row {W : World} {i : Nat} {d : Doc1} (h : AR W i d) : RowW W d.A d.L := h.at'.row.rowW (by have := h.at'.tot; omega) (by have := h.at'.few; omega)
theorem AR.pafew {W : World} {i : Nat} {d : Doc1} (h : AR W i d) (hi : i ≤ 100) : PAfew d.x := by
  obtain ⟨a, b, c, e, f, g, k⟩ := h.few3 hi
  exact ⟨a, b, c, e, f, g, k⟩
theorem ap_blocks {W : World} {i : Nat} {d : Doc1} (h : AR W i d) {K : Int} (hK : 0 ≤ K) {L bs : DBs} {a : Option Addr} (hL : DocOf d.x.bs L) (hbs : bs = L.take K.toNat) (hrow : BlkRow W a bs.length bs) :
    (RowW W a bs.length ∧ RowW W d.A (min K (d.L : Int)).toNat) ∧ ∀ r : Bool, (r = true ↔ bs.length = (min K (d.L : Int)).toNat ∧ ∀ j, j < bs.length → EqB W a d.A j) → r = true := by
  have eL : L = d.bs := hL.uniq h.dr.doc (List.Perm.refl _)
  have hn : (min K (d.L : Int)).toNat ≤ d.L := by omega
  have hq := h.at'.row.take hn
  have hlen := h.at'.row.num
  have eb : bs = d.bs.take (min K (d.L : Int)).toNat := by
    rw [hbs, eL]
    rcases Int.le_total K (d.L : Int) with h1 | h1
    · rw [Int.min_eq_left h1]
    · rw [Int.min_eq_right h1, List.take_of_length_le (by omega), List.take_of_length_le (by omega)]
  have htot := h.at'.tot
  have hfew := h.at'.few
  have t1 := tot3_take_le d.bs (min K (d.L : Int)).toNat
  refine ⟨⟨hrow.rowW (by rw [eb]; omega) (by rw [eb, List.length_take]; omega), hq.rowW (by omega) (by omega)⟩, fun r hr => hr.2 ?_⟩
  exact (same3_iff hrow hq).2 eb
theorem ap_size {W : World} {i : Nat} {d : Doc1} (h : AR W i d) (hv : d.x.Inv) (hL : 0 < d.L) : ((d.x.szV (seenInt .u64 W (addOpt (addOpt d.A 0) 0)) : Nat) : Int) - ((seenSli W (addOpt (addOpt d.A 0) 1)).2.1 : Int) = 0 := by
  have e1 := h.at'.row.handle hL
  have e2 := (h.at'.row.slice hL).1
  rw [Nat.zero_mul] at e1 e2
  rw [e1, e2]
  have hm : blk3 d.bs 0 ∈ d.bs := List.mem_of_getElem? (blk3_some (by rw [h.at'.row.num]; exact hL))
  obtain ⟨b, hb, eb⟩ := List.mem_map.1 (h.dr.doc.perm.mem_iff.1 hm)
  obtain ⟨n, hh, ws⟩ := b
  have hf := findP_of_mem hv.nd hb
  have eb : (hh, ws) = blk3 d.bs 0 := eb
  rw [← eb]
  unfold PA.szV
  rw [Int.toNat_natCast, hf]
  exact Int.sub_self _
def fixB (y y' : D3) : Bool := true == (y.x0 == y'.x0 && (y.x1 == y'.x1 && (y.x2 == y'.x2 && (y.x3 == y'.x3 && (y.x4 == y'.x4 && (y.x5 == y'.x5 && (y.x6 == y'.x6 && (y.x7 == y'.x7 && (y.x8 == y'.x8 && true)))))))))
theorem fixB_iff (y y' : D3) : fixB y y' = true ↔ y.fxL = y'.fxL := by
  unfold fixB D3.fxL
  simp only [Bool.true_beq, Bool.and_eq_true, beq_iff_eq, List.cons.injEq, and_true]
theorem ap_same {W : World} {i : Nat} {d e : Doc1} (h : AR W i d) (h' : AR W i e) (v : PA.Inv d.x) (v' : PA.Inv e.x) {al : Bool} (hal : al = alikeP d.x e.x) :
    (fixB d.y e.y = true → (RowW W d.A d.L ∧ RowW W e.A e.L) ∧ ∀ r : Bool, (r = true ↔ d.L = e.L ∧ ∀ j, j < d.L → EqB W d.A e.A j) → (false == (al == r)) = false) ∧ (fixB d.y e.y = false → (false == (al == false)) = false) := by
  have ha := alike_doc h.dr h'.dr v v'
  rw [← hal] at ha
  refine ⟨fun hf => ⟨⟨h.row, h'.row⟩, fun r hr => ?_⟩, fun hf => ?_⟩
  · have hr := hr.trans (same3_iff h.at'.row h'.at'.row)
    have : al = r := by
      rw [Bool.eq_iff_iff, ha, hr]
      exact ⟨fun h => h.2, fun h => ⟨(fixB_iff _ _).1 hf, h⟩⟩
    rw [this, beq_self_eq_true]
    rfl
  · have : al = false := by
      cases e : al with
      | false => rfl
      | true =>
        rw [(fixB_iff _ _).2 (ha.1 e).1] at hf
        cases hf
    rw [this]
    rfl
theorem ap_self {W : World} {i : Nat} {d : Doc1} (h : AR W i d) :
    (fixB d.y d.y = true → (RowW W d.A d.L ∧ RowW W d.A d.L) ∧ ∀ r : Bool, (r = true ↔ d.L = d.L ∧ ∀ j, j < d.L → EqB W d.A d.A j) → (false == (true == r)) = false) ∧ (fixB d.y d.y = false → False) := by
  refine ⟨fun _ => ⟨⟨h.row, h.row⟩, fun r hr => ?_⟩, fun hf => ?_⟩
  · have : r = true := hr.2 ⟨rfl, fun j _ => ⟨rfl, rfl, fun _ _ => rfl⟩⟩
    rw [this]
    rfl
  · rw [(fixB_iff _ _).2 rfl] at hf
    cases hf
end Go.Proofs.Ytnkikhhiaecebaa
