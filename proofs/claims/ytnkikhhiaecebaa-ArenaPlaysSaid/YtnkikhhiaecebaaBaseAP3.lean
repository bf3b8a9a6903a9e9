/- The document's arena: a block's place among those that live. -/
import Derived.Test.YtnkikhhiaecebaaBaseDoc
import Derived.Test.YtnkikhhiaecebaaBaseArD
import Derived.Deep.RegionHeld3
import Derived.Deep.DeepCutAuto
import Derived.StillTailTactics
import Derived.Deep.AppendLies
import Derived.Test.YtnkikhhiaecebaaBaseAP1
import Derived.Test.YtnkikhhiaecebaaBaseB
import Derived.Test.YtnkikhhiaecebaaBaseArrs
set_option linter.all false
namespace Go.Proofs.Ytnkikhhiaecebaa
open Go Go.RowKit
set_option maxRecDepth 1000000
set_option maxHeartbeats 0
def at3F (bs : List (Nat × List Nat)) (h : Int) : Nat → Nat → Int
  | 0, _ => -1
  | n + 1, i => if ((blk3 bs i).1 : Int) = h then i else at3F bs h n (i + 1)
theorem at3F_find : ∀ (n i : Nat) (bs : List (Nat × List Nat)) (h : Nat), i + n = bs.length → ((∃ b, (bs.drop i).find? (fun b => b.1 == h) = some b ∧ ∃ j, at3F bs h n i = (j : Nat) ∧ j < bs.length ∧ blk3 bs j = b) ∨ ((bs.drop i).find? (fun b => b.1 == h) = none ∧ at3F bs h n i = -1))
  | 0, i, bs, h, hn => by
    right
    rw [List.drop_eq_nil_of_le (by omega)]
    exact ⟨rfl, rfl⟩
  | n + 1, i, bs, h, hn => by
    have hi : i < bs.length := by omega
    have e1 : bs.drop i = blk3 bs i :: bs.drop (i + 1) := by
      rw [List.drop_eq_getElem_cons hi]
      congr 1
      have := blk3_some hi
      rw [List.getElem?_eq_getElem hi] at this
      exact Option.some.inj this
    rw [e1, List.find?_cons]
    simp only [at3F]
    by_cases e : (blk3 bs i).1 = h
    · left
      rw [show ((blk3 bs i).1 == h) = true by simpa using e, if_pos (by rw [e])]
      exact ⟨_, rfl, i, rfl, hi, rfl⟩
    · rw [show ((blk3 bs i).1 == h) = false by simpa using e, if_neg (by omega)]
      exact at3F_find n (i + 1) bs h (by omega)
structure AY3 (bs : List (Nat × List Nat)) (h : Int) (len : Nat) where
  i : Nat
  hi : i ≤ len
  eq : at3F bs h len 0 = at3F bs h (len - i) i
def retA3 (W : World) (n : Int) (v : SV) (m : Mem XV) : Prop := match v with
  | .c (.int _ .i64 k _) => k = n ∧ seenOf m.hp = some W
  | _ => Stuck 671
theorem at3_vc (W : World) (x : D3) (a : Option Addr) (len cp : Nat) (bs : List (Nat × List Nat)) (h : Int) : (callN Try.prog ([] : List (Smry Try.prog XV)) (fun _ _ => false) 100 20 104 [.agg (d3C x (.sliv a false len cp)), .c (.int false .u64 h)] ⟨[(0, .seen W)], 100⟩ (.inv (liveL [1, 4, 5, 6, 8, 9, 10]) ((List.range 1500).map (· + 1)) (AY3 bs h len) (fun n y => ([(10, .c (.int false .i64 (y.i : Int)))], [])) (fun y => len - y.i) fun _ => .both (.both .nil .nil) .nil) (fun v m _ => retA3 W (at3F bs h len 0) v m)) = (
 (∃ (y : AY3 bs h len), h = h ∧ a = a ∧ len = len ∧ cp = cp ∧ (↑len : Int) = (↑len : Int) ∧ W = W ∧ (↑y.i : Int) = (0 : Int) ∧ True) ∧ ∀ (y : AY3 bs h len) (ρ : Nat → Value), (decide
 ((↑y.i : Int) < (↑len : Int)) = true → ((0 : Int) ≤ (↑y.i : Int) ∧ (↑y.i : Int) < (↑len : Int) ∧ a.isSome = true) ∧ ((∃ (x : Addr), addOpt (addOpt a ((↑y.i : Int).toNat * 2)) 0 =
 some x ∧ W.cell? x = some (Value.int .u64 (seenInt .u64 W (addOpt (addOpt a ((↑y.i : Int).toNat * 2)) 0)))) ∧ (∃ (x : Addr), addOpt (addOpt a ((↑y.i : Int).toNat * 2)) (0 + 1) =
 some x ∧ W.cell? x = some (Value.slice (seenSli W (addOpt (addOpt a ((↑y.i : Int).toNat * 2)) (0 + 1))).fst (seenSli W (addOpt (addOpt a ((↑y.i : Int).toNat * 2)) 1)).snd.fst
 (seenSli W (addOpt (addOpt a ((↑y.i : Int).toNat * 2)) 1)).snd.snd)) ∧ True) ∧ ((seenInt .u64 W (addOpt (addOpt a ((↑y.i : Int).toNat * 2)) 0) == h) = true → (↑y.i : Int) = at3F bs
 h len 0 ∧ some W = some W) ∧ ((seenInt .u64 W (addOpt (addOpt a ((↑y.i : Int).toNat * 2)) 0) == h) = false → ((-9223372036854775808 : Int) ≤ (↑y.i : Int) + (1 : Int) ∧ (↑y.i : Int)
 + (1 : Int) ≤ (9223372036854775807 : Int)) ∧ ∃ (y' : AY3 bs h len), len - y'.i < len - y.i ∧ h = h ∧ a = a ∧ len = len ∧ cp = cp ∧ (↑len : Int) = (↑len : Int) ∧ W = W ∧ (↑y'.i :
 Int) = (↑y.i : Int) + (1 : Int) ∧ True)) ∧ (decide ((↑y.i : Int) < (↑len : Int)) = false → (-1 : Int) = at3F bs h len 0 ∧ some W = some W)) := by
  kernel_rfl
theorem at3_run (W : World) (x : D3) (a : Option Addr) (len cp : Nat) (bs : List (Nat × List Nat)) (h : Int) (hc : BlkRow W a len bs ∧ len ≤ 1000000) : Run (callN Try.prog ([] : List (Smry Try.prog XV)) (fun _ _ => false) 100 20 104 [.agg (d3C x (.sliv a false len cp)), .c (.int false .u64 h)] ⟨[(0, .seen W)], 100⟩ (.inv (liveL [1, 4, 5, 6, 8, 9, 10]) ((List.range 1500).map (· + 1)) (AY3 bs h len) (fun n y => ([(10, .c (.int false .i64 (y.i : Int)))], [])) (fun y => len - y.i) fun _ => .both (.both .nil .nil) .nil) (fun v m _ => retA3 W (at3F bs h len 0) v m)) := by
  constructor
  rw [at3_vc]
  obtain ⟨row, hl⟩ := hc
  refine ⟨⟨⟨0, Nat.zero_le _, rfl⟩, ?_⟩, fun y ρ => ⟨fun hlt => ?_, fun hge => ?_⟩⟩
  · repeat' first | exact rfl | exact trivial | apply And.intro
  · have hlt' : y.i < len := by have := of_decide_eq_true hlt; omega
    have hk := row.kinds hlt'
    have hh := row.handle hlt'
    have est : at3F bs h (len - y.i) y.i = if ((blk3 bs y.i).1 : Int) = h then (y.i : Int) else at3F bs h (len - (y.i + 1)) (y.i + 1) := by
      rw [show len - y.i = (len - (y.i + 1)) + 1 by omega]
      rfl
    simp only [Int.toNat_natCast]
    refine ⟨⟨by omega, by omega, row.sm (by omega)⟩, hk, fun heq => ?_, fun hne => ⟨⟨by omega, by omega⟩, ⟨y.i + 1, hlt', ?_⟩, ?_⟩⟩
    · have heq : seenInt .u64 W (addOpt (addOpt a (y.i * 2)) 0) = h := by simpa using heq
      rw [hh] at heq
      rw [y.eq, est, if_pos heq]
      first | exact ⟨rfl, trivial⟩ | exact ⟨rfl, rfl⟩
    · have hne : ¬ seenInt .u64 W (addOpt (addOpt a (y.i * 2)) 0) = h := by simpa using hne
      rw [hh] at hne
      rw [y.eq, est, if_neg hne]
    · repeat' first | exact rfl | exact trivial | apply And.intro
      all_goals first
        | (show len - (y.i + 1) < len - y.i; omega)
        | (show ((y.i + 1 : Nat) : Int) = _; omega)
  · have hge' : y.i = len := by have := of_decide_eq_false hge; have := y.hi; omega
    rw [y.eq, hge', Nat.sub_self]
    exact ⟨rfl, rfl⟩
section
variable {E : EXT}
theorem retA3_den {W : World} {n : Int} {v : SV} {m : Mem XV} (h : retA3 W n v m) : seenOf m.hp = some W ∧ v.names = [] ∧ ∀ ν, v.den ν = .int .i64 n := by
  unfold retA3 at h
  split at h
  · obtain ⟨rfl, h⟩ := h
    exact ⟨h, rfl, fun ν => rfl⟩
  · exact h.elim
def at3S : Smry Try.prog E where
  g := 104
  run := fun args m K => match args with
    | [.agg l, .c (.int _ .u64 h _)] => match m.hp.get 0, d3Of l with
      | some (.seen W), some (_, L) => match L with
        | .sliv a _ len _ => ∃ bs, (BlkRow W a len bs ∧ len ≤ 1000000) ∧ K (.c (.int false .i64 (at3F bs h len 0))) m
        | _ => Stuck 676
      | _, _ => Stuck 677
    | _ => Stuck 678
  ok := fun args m K hr => by
    split at hr <;> try exact hr.elim
    rename_i l lh h bh
    split at hr <;> try exact hr.elim
    rename_i W x L hW hl
    obtain ⟨hd, hn⟩ := d3Of_sound hl
    split at hr <;> try exact hr.elim
    rename_i a ll len cp
    obtain ⟨bs, hc, hr⟩ := hr
    intro ν w R w0 H HK
    have ea : [SV.agg l, .c (.int lh .u64 h bh)].map (SV.den ν) = [SV.agg (d3C x (.sliv a false len cp)), .c (.int false .u64 h)].map (SV.den ν) := by
      have e1 : SC.denL ν l = SC.denL ν (d3C x (.sliv a false len cp)) := (hd ν).trans (by simp only [d3C, SC.denL, SC.den])
      simp only [List.map_cons, List.map_nil, SV.den, e1, SC.den]
    rw [ea]
    refine (seen_calls (at3_run W x a len cp bs h hc) (fun v m h => ⟨W, (retA3_den h).1, (retA3_den h).2.1⟩) (fun y hy => ?_) hW H HK).mono ?_
    · simp only [List.mem_cons, List.not_mem_nil, or_false] at hy; rcases hy with rfl | rfl <;> rfl
    · rintro e w' ⟨v, m', W', hv, hW', he, hs, hk⟩
      obtain ⟨h1, _, hd⟩ := retA3_den hv
      rw [h1] at hW'
      cases hW'
      rw [set_same _ hW] at hs
      exact ⟨_, m, ν, hr, Agree.refl _ _, Nat.le_refl _, by rw [he, hd]; rfl, hs, hk⟩
end
end Go.Proofs.Ytnkikhhiaecebaa

/- A row of blocks with one block less. No program in sight. -/
namespace Go.Proofs.Ytnkikhhiaecebaa
open Go Go.RowKit
theorem BlkRow.cut {W W' : World} {a a' : Option Addr} {len cp i : Nat} {bs : List (Nat × List Nat)} (h : BlkRow W a len bs) (g : Grow W W') (hi : i < len) (hcp : len ≤ cp) (ha : a'.isSome = true)
    (hold : ∀ j, j < i + (len - (i + 1)) → ∀ c u, (if j < i then seenVals W (addOpt a (j * 2)) 0 k3 else seenVals W (addOpt (if cp = i + 1 then a else addOpt a ((i + 1) * 2)) ((j - i) * 2)) 0 k3)[c]? = some u → CellAt W' a' (j * 2 + c) u) :
    BlkRow W' a' (i + (len - (i + 1))) (bs.take i ++ bs.drop (i + 1)) := by
  have hlen := h.num
  have hti : (bs.take i).length = i := by rw [List.length_take]; omega
  refine ⟨by simp only [List.length_append, List.length_drop, hti]; omega, fun _ => ha, fun j b hj => ?_⟩
  have hjl : j < i + (len - (i + 1)) := by
    rcases Nat.lt_or_ge j (i + (len - (i + 1))) with h' | h'
    · exact h'
    · rw [List.getElem?_eq_none (by simp only [List.length_append, List.length_drop, hti]; omega)] at hj; cases hj
  rcases Nat.lt_or_ge j i with hlt | hge
  · rw [List.getElem?_append_left (by rw [hti]; exact hlt), List.getElem?_take_of_lt hlt, blk3_some (by omega)] at hj
    cases hj
    have := hold j hjl
    rw [if_pos hlt] at this
    exact h.copy g (by omega) this
  · rw [List.getElem?_append_right (by rw [hti]; exact hge), hti, List.getElem?_drop, show i + 1 + (j - i) = j + 1 by omega, blk3_some (by omega)] at hj
    cases hj
    have := hold j hjl
    rw [if_neg (by omega), if_neg (by omega), addOpt_2, show (i + 1) * 2 + (j - i) * 2 = (j + 1) * 2 by omega] at this
    exact h.copy g (by omega) this
end Go.Proofs.Ytnkikhhiaecebaa

/- The document's arena: what its calls do, as plain functions. -/
namespace Go.Proofs.Ytnkikhhiaecebaa
open Go Go.RowKit
set_option maxRecDepth 100000
def D3.fxL (x : D3) : List Int := [x.x0, x.x1, x.x2, x.x3, x.x4, x.x5, x.x6, x.x7, x.x8]
def D3.setF (x : D3) (i : Nat) (w : Int) : D3 := { x with
  x0 := if i = 0 then w else x.x0, x1 := if i = 1 then w else x.x1, x2 := if i = 2 then w else x.x2, x3 := if i = 3 then w else x.x3, x4 := if i = 4 then w else x.x4,
  x5 := if i = 5 then w else x.x5, x6 := if i = 6 then w else x.x6, x7 := if i = 7 then w else x.x7, x8 := if i = 8 then w else x.x8 }
def pl3 (bs : List (Nat × List Nat)) (h : Int) : Int := at3F bs h bs.length 0
theorem at3F_cases (bs : List (Nat × List Nat)) (h : Int) : ∀ n i, at3F bs h n i = -1 ∨ ∃ j : Nat, at3F bs h n i = (j : Int) ∧ j < i + n ∧ ((blk3 bs j).1 : Int) = h
  | 0, _ => .inl rfl
  | n + 1, i => by
    unfold at3F
    split
    · rename_i e; exact .inr ⟨i, rfl, by omega, e⟩
    · rcases at3F_cases bs h n (i + 1) with e | ⟨j, e, hj, hh⟩
      · exact .inl e
      · exact .inr ⟨j, e, by omega, hh⟩
theorem pl3_cases (bs : List (Nat × List Nat)) (h : Int) : pl3 bs h = -1 ∨ ∃ j : Nat, pl3 bs h = (j : Int) ∧ j < bs.length ∧ ((blk3 bs j).1 : Int) = h := by
  rcases at3F_cases bs h bs.length 0 with e | ⟨j, e, hj, hh⟩
  · exact .inl e
  · exact .inr ⟨j, e, by omega, hh⟩
def word3 (x : D3) (bs : List (Nat × List Nat)) (h i : Int) : Option Int :=
  if h = 0 then (if 0 ≤ i ∧ i < 9 then some (x.fxL.getD i.toNat 0) else none)
  else if pl3 bs h < 0 then none else if 0 ≤ i ∧ i < ((blk3 bs (pl3 bs h).toNat).2.length : Int) then some (((blk3 bs (pl3 bs h).toNat).2.getD i.toNat 0 : Nat) : Int) else none
def err3 (bs : List (Nat × List Nat)) (h : Int) : Int := if h = 0 then 24 else if pl3 bs h < 0 then 23 else 24
def D3.fault (x : D3) : D3 := { x with faults := x.faults + 1 }
def get3Y (x : D3) (bs : List (Nat × List Nat)) (h i : Int) : D3 := match word3 x bs h i with | some _ => x | none => x.fault
def get3W (x : D3) (bs : List (Nat × List Nat)) (h i : Int) : Int := match word3 x bs h i with | some w => w | none => 0
def get3E (x : D3) (bs : List (Nat × List Nat)) (h i : Int) : Int := match word3 x bs h i with | some _ => 0 | none => err3 bs h
theorem get3E_zero {x : D3} {bs : List (Nat × List Nat)} {h i : Int} : get3E x bs h i = 0 ↔ (word3 x bs h i).isSome = true := by
  unfold get3E
  cases e : word3 x bs h i with
  | some w => simp
  | none =>
    simp only [Option.isSome_none]
    unfold err3
    split
    · simp
    · split <;> simp
def set3X (x : D3) (h i w : Int) : D3 := if h = 0 then x.setF i.toNat w else x
def set3L (bs : List (Nat × List Nat)) (k i : Nat) (w : Nat) : List (Nat × List Nat) := bs.set k ((blk3 bs k).1, (blk3 bs k).2.set i w)
def set3B (bs : List (Nat × List Nat)) (h i w : Int) : List (Nat × List Nat) := if h = 0 then bs else set3L bs (pl3 bs h).toNat i.toNat w.toNat
def read3Y (x : D3) (bs : List (Nat × List Nat)) (h i : Int) : D3 := match word3 x bs h i with | some _ => { x with t2 := x.t2 + 1 } | none => x.fault
def write3Y (x : D3) (bs : List (Nat × List Nat)) (h i w : Int) : D3 := match word3 x bs h i with | some _ => set3X { x with t3 := x.t3 + 1 } h i w | none => x.fault
def write3B (x : D3) (bs : List (Nat × List Nat)) (h i w : Int) : List (Nat × List Nat) := match word3 x bs h i with | some _ => set3B bs h i w | none => bs
def swap3Y (x : D3) (bs : List (Nat × List Nat)) (h i o w : Int) : D3 := match word3 x bs h i with | some r => (if r = o then set3X { x with t4 := x.t4 + 1 } h i w else { x with t4 := x.t4 + 1 }) | none => x.fault
def swap3B (x : D3) (bs : List (Nat × List Nat)) (h i o w : Int) : List (Nat × List Nat) := match word3 x bs h i with | some r => (if r = o then set3B bs h i w else bs) | none => bs
def swap3R (x : D3) (bs : List (Nat × List Nat)) (h i o : Int) : Bool := match word3 x bs h i with | some r => decide (r = o) | none => false
def add3W (r n : Int) : Int := (r + n) % 18446744073709551616
def add3Y (x : D3) (bs : List (Nat × List Nat)) (h i n : Int) : D3 := match word3 x bs h i with | some r => set3X { x with t5 := x.t5 + 1 } h i (add3W r n) | none => x.fault
def add3B (x : D3) (bs : List (Nat × List Nat)) (h i n : Int) : List (Nat × List Nat) := match word3 x bs h i with | some r => set3B bs h i (add3W r n) | none => bs
def free3Y (x : D3) (bs : List (Nat × List Nat)) (h : Int) : D3 := if pl3 bs h < 0 then x.fault else { x with t1 := x.t1 + 1 }
def free3B (bs : List (Nat × List Nat)) (h : Int) : List (Nat × List Nat) := if pl3 bs h < 0 then bs else bs.take (pl3 bs h).toNat ++ bs.drop ((pl3 bs h).toNat + 1)
def free3E (bs : List (Nat × List Nat)) (h : Int) : Int := if pl3 bs h < 0 then 23 else 0
structure D3Ok (x : D3) : Prop where
  cap : 0 ≤ x.cap ∧ x.cap ≤ 1000000000
  births : 0 ≤ x.births ∧ x.births ≤ 1000000000
  faults : 0 ≤ x.faults ∧ x.faults ≤ 1000000000
  t0 : 0 ≤ x.t0 ∧ x.t0 ≤ 1000000000
  t1 : 0 ≤ x.t1 ∧ x.t1 ≤ 1000000000
  t2 : 0 ≤ x.t2 ∧ x.t2 ≤ 1000000000
  t3 : 0 ≤ x.t3 ∧ x.t3 ≤ 1000000000
  t4 : 0 ≤ x.t4 ∧ x.t4 ≤ 1000000000
  t5 : 0 ≤ x.t5 ∧ x.t5 ≤ 1000000000
structure DocAt (W : World) (a : Option Addr) (len cp : Nat) (bs : List (Nat × List Nat)) : Prop where
  row : BlkRow W a len bs
  lc : len ≤ cp
  non : a = none → cp = 0
  few : len ≤ 65536
  tot : tot3 bs ≤ 1000000000
theorem DocAt.grow {W W' : World} {a : Option Addr} {len cp : Nat} {bs : List (Nat × List Nat)} (h : DocAt W a len cp bs) (g : Grow W W') : DocAt W' a len cp bs := ⟨h.row.grow g, h.lc, h.non, h.few, h.tot⟩
theorem DocAt.nil (W : World) : DocAt W none 0 0 [] := ⟨BlkRow.nil W none, Nat.le_refl _, fun _ => rfl, Nat.zero_le _, Nat.zero_le _⟩
theorem DocAt.len {W : World} {a : Option Addr} {len cp : Nat} {bs : List (Nat × List Nat)} (h : DocAt W a len cp bs) : bs.length = len := h.row.num
theorem WordsAt.wd {W : World} {a : Option Addr} {ws : List Nat} (h : WordsAt W a ws) {k : Nat} (hk : k < ws.length) : Seen .u64 W (addOpt a k) ∧ seenInt .u64 W (addOpt a k) = ((ws.getD k 0 : Nat) : Int) := by
  have e : ws.getD k 0 = ws[k] := by rw [List.getD_eq_getElem?_getD, List.getElem?_eq_getElem hk]; rfl
  obtain ⟨c, hu⟩ := h.at' k ws[k] (List.getElem?_eq_getElem hk)
  rw [e]
  exact c.int (by show (0 : Int) ≤ _; omega) (by show _ ≤ (18446744073709551615 : Int); omega)
theorem tot3_blk {bs : List (Nat × List Nat)} {k : Nat} (hk : k < bs.length) : (blk3 bs k).2.length ≤ tot3 bs := by
  induction bs generalizing k with
  | nil => simp at hk
  | cons b bs ih =>
    cases k with
    | zero => simp only [blk3, List.getD_cons_zero, tot3]; omega
    | succ k =>
      have := ih (k := k) (by simpa using hk)
      simp only [blk3, List.getD_cons_succ, tot3] at this ⊢
      omega
theorem tot3_cut (bs : List (Nat × List Nat)) (k : Nat) : tot3 (bs.take k ++ bs.drop (k + 1)) ≤ tot3 bs := by
  induction bs generalizing k with
  | nil => simp [tot3]
  | cons b bs ih =>
    cases k with
    | zero => simp only [List.take_zero, List.nil_append, List.drop_succ_cons, List.drop_zero, tot3]; omega
    | succ k =>
      have := ih k
      simp only [List.take_succ_cons, List.cons_append, List.drop_succ_cons, tot3]
      omega
theorem set3L_len (bs : List (Nat × List Nat)) (k i w : Nat) : (set3L bs k i w).length = bs.length := by unfold set3L; simp
theorem tot3_set (bs : List (Nat × List Nat)) {k : Nat} {b : Nat × List Nat} (hk : k < bs.length) (h : b.2.length = (blk3 bs k).2.length) : tot3 (bs.set k b) = tot3 bs := by
  induction bs generalizing k with
  | nil => simp at hk
  | cons c bs ih =>
    cases k with
    | zero =>
      simp only [blk3, List.getD_cons_zero] at h
      simp only [List.set_cons_zero, tot3, h]
    | succ k =>
      simp only [blk3, List.getD_cons_succ] at h
      simp only [List.set_cons_succ, tot3]
      rw [ih (by simpa using hk) h]
theorem set3L_tot (bs : List (Nat × List Nat)) {k : Nat} (i w : Nat) (hk : k < bs.length) : tot3 (set3L bs k i w) = tot3 bs := tot3_set bs hk (by simp)
theorem BlkRow.set {W W' : World} {a a' : Option Addr} {len k i w : Nat} {bs : List (Nat × List Nat)} (h : BlkRow W a len bs) (g : Grow W W') (hk : k < len) (ha : a'.isSome = true) (hw : w < 18446744073709551616) {wa : Option Addr} {wc : Nat} (hwa : wa.isSome = true)
    (hold : ∀ j, j < len → j ≠ k → ∀ c u, (seenVals W (addOpt a (j * 2)) 0 k3)[c]? = some u → CellAt W' a' (j * 2 + c) u)
    (hnew : ∀ c u, ([.int .u64 ((blk3 bs k).1 : Nat), .slice wa (blk3 bs k).2.length wc] : List Value)[c]? = some u → CellAt W' a' (k * 2 + c) u)
    (hword : ∀ j, j < (blk3 bs k).2.length → CellAt W' wa j (.int .u64 (if j = i then (w : Int) else seenInt .u64 W (addOpt (seenSli W (addOpt (addOpt a (k * 2)) 1)).1 j)))) : BlkRow W' a' len (set3L bs k i w) := by
  have hlen := h.num
  refine ⟨by rw [set3L_len]; exact hlen, fun _ => ha, fun j b hj => ?_⟩
  have hjl : j < len := by
    rcases Nat.lt_or_ge j len with h' | h'
    · exact h'
    · rw [List.getElem?_eq_none (by rw [set3L_len]; omega)] at hj; cases hj
  by_cases e : j = k
  · subst e
    unfold set3L at hj
    rw [List.getElem?_set_self (by omega)] at hj
    cases hj
    obtain ⟨hsl, hws⟩ := h.slice hk
    refine ⟨hnew 0 _ rfl, h.small hk, wa, wc, ?_, ⟨fun _ => hwa, fun q u hq => ?_⟩⟩
    · have := hnew 1 _ rfl
      simpa using this
    · have hql : q < (blk3 bs j).2.length := by
        rcases Nat.lt_or_ge q (blk3 bs j).2.length with h' | h'
        · exact h'
        · rw [List.getElem?_eq_none (by simpa using h')] at hq; cases hq
      have h1 := hword q hql
      by_cases e : q = i
      · subst e
        rw [if_pos rfl] at h1
        rw [List.getElem?_set_self hql] at hq
        cases hq
        exact ⟨h1, hw⟩
      · rw [if_neg e] at h1
        rw [List.getElem?_set_ne (by omega)] at hq
        obtain ⟨h2, h3⟩ := hws.at' q u hq
        have h4 := (CellAt.int (k := .u64) h2 (Int.natCast_nonneg _) (show (u : Int) ≤ 18446744073709551615 by omega)).2
        rw [h4] at h1
        exact ⟨h1, h3⟩
  · unfold set3L at hj
    rw [List.getElem?_set_ne (by omega), blk3_some (by omega)] at hj
    cases hj
    exact h.copy g hjl (hold j hjl e)
end Go.Proofs.Ytnkikhhiaecebaa

/- The arena's Swap at a word that there is (layer 3). -/
namespace Go.Proofs.Ytnkikhhiaecebaa
open Go.RowKit

set_option maxHeartbeats 1600000 in
theorem swapY_block (p h i x : Nat) (y : Nat) (A : Ar) (b : Blk) (w : World) {R : Assn} (H : Sat w (arAt p A * R)) (hh : h < TW) (h0 : h ≠ 0) (hf : A.find h = some b) (hx : b.ws[i]? = some x) (hy : y < TW) :
    Calls Try.prog 16 #[.pointer (some ⟨p, 0, none⟩), .agg #[.int .u64 h, .int .i64 i], .int .u64 x, .int .u64 y] w fun e w' => e = .returned (.tuple #[.bool true, .int .i64 0]) ∧ Sat w' (arAt p ((A.set h i y).tick fun t => { t with swaps := t.swaps + 1 }) * R) ∧ Kept w w' := by
  have hil : i < b.ws.length := by
    rcases Nat.lt_or_ge i b.ws.length with h1 | h1
    · exact h1
    · rw [List.getElem?_eq_none h1] at hx; cases hx
  have H0 := H.alloc (.cells #[.int .u64 h, .int .i64 i] 34)
  obtain ⟨ps, pb, l1, l2, g, c, cur, hi, hl, hv, h4, h5, h6, h7, hsee, H1⟩ := ar_block H0.swap (Ar.find_mem hf).1
  have hbh := (Ar.find_mem hf).2
  have Hat := Lib.hid (at_block p h i g _ c A b _ hsee hh h0 hf hv hil)
  have hgp : g ≠ p := H1.ne.symm
  have hB : Go.RowKit.Hid (∀ w1, Below (w.alloc (.cells #[.int .u64 h, .int .i64 i] 34)).heap.size (w.alloc (.cells #[.int .u64 h, .int .i64 i] 34)) w1 → w1.cell? ⟨w.heap.size, 1, none⟩ = some (.int .i64 i) ∧ w1.cell? ⟨p, 20, none⟩ = some (.int .i64 (wr64 A.t.swaps)) ∧ w1.frozen? ⟨p, 20, none⟩ = false ∧ w1.cell? ⟨g, i, none⟩ = some (.int .u64 x) ∧ (w1.setCell ⟨p, 20, none⟩ (.int .i64 (wrap64 (wr64 A.t.swaps + 1)))).frozen? ⟨g, i, none⟩ = false ∧
      Sat ((w1.setCell ⟨p, 20, none⟩ (.int .i64 (wrap64 (wr64 A.t.swaps + 1)))).setCell ⟨g, i, none⟩ (.int .u64 y)) (arAt p ((A.set h i y).tick fun t => { t with swaps := t.swaps + 1 }) * R) ∧ Kept w w1) := by
    intro w1 hb1
    have H2 := H1.below hb1
    refine ⟨?_, H2.cell 20, H2.free 20, row_at H2.swap h7 hx, (World.frozen?_setCell _ _ _ _).trans (H2.swap.free i), ?_, ((Kept.refl w).alloc _).below hb1⟩
    · exact (hb1.cell (p := ⟨w.heap.size, 1, none⟩) (by simp)).trans (by rw [World.cell?_alloc_at _ _ _ _ rfl]; rfl)
    · have H3 := (H2.set 20 (.int .i64 (wr64 (A.t.swaps + 1)))).swap.set i (.int .u64 y)
      rw [wr64_succ]
      have e1 : (A.set h i y).bs = l1 ++ { b with ws := b.ws.set i y } :: l2 := by
        rw [← hbh]; unfold Ar.set; rw [if_neg (by rw [hbh]; exact h0)]; exact set_mid hi hl i _
      have e2 : (A.set h i y).bs.map ent = A.bs.map ent := by unfold Ar.set; rw [if_neg h0]; exact set_ent _ _ _ _
      have e3 : (A.set h i y).s = A.s := by unfold Ar.set; split <;> rfl
      have e4 : arCells ((A.set h i y).tick fun t => { t with swaps := t.swaps + 1 }) ps pb = (arCells A ps pb).setIfInBounds 20 (.int .i64 (wr64 (A.t.swaps + 1))) := by unfold Ar.set; rw [if_neg h0]; rfl
      have H4 : Sat ((w1.setCell ⟨p, 20, none⟩ (.int .i64 (wr64 (A.t.swaps + 1)))).setCell ⟨g, i, none⟩ (.int .u64 y)) (arAt p ((A.set h i y).tick fun t => { t with swaps := t.swaps + 1 }) * (own w.heap.size (.cells #[.int .u64 h, .int .i64 i] 34) * R)) := by
       refine (ar_block_shut (A := (A.set h i y).tick _) (b := { b with ws := b.ws.set i y }) (cur := cur.setIfInBounds i (.int .u64 y)) (ps := ps) (pb := pb) ((hi.set h i _ (hy)).tick _) e1 (by simpa using hv) (by simpa using h4) h5 (by simpa using h6) (row_set h7 i _) ?_)
       rw [e4, show ((A.set h i y).tick fun t => { t with swaps := t.swaps + 1 }).s = A.s from e3, show ((A.set h i y).tick fun t => { t with swaps := t.swaps + 1 }).bs = (A.set h i y).bs from rfl, e2]
       exact H3.swap
      exact H4.swap.right
  clear H0 H1 H hsee hl hv h4 h5 h6 h7 hf hx hi hbh
  go_enter Try.func16, Try.ntmps16
  go_wp2_with fail
  refine Hat.out.mono ?_; rintro e w1 ⟨rfl, hb1⟩
  obtain ⟨c1, c2, c3, c4, c5, hS, hK⟩ := hB.out w1 hb1
  have HS := Lib.hid hS
  clear hS hb1
  go_wp2
  go_ret2
  exact ⟨rfl, HS.out, by repeat first | exact hK | refine Kept.setCell ?_ _ _⟩

set_option maxHeartbeats 1600000 in
theorem swapY_fixed (p i x : Nat) (y : Nat) (A : Ar) (w : World) {R : Assn} (H : Sat w (arAt p A * R)) (hi9 : i < 9) (hx : A.fixed i = x) (hy : y < TW) :
    Calls Try.prog 16 #[.pointer (some ⟨p, 0, none⟩), .agg #[.int .u64 0, .int .i64 i], .int .u64 x, .int .u64 y] w fun e w' => e = .returned (.tuple #[.bool true, .int .i64 0]) ∧ Sat w' (arAt p ((A.set 0 i y).tick fun t => { t with swaps := t.swaps + 1 }) * R) ∧ Kept w w' := by
  have H0 := H.alloc (.cells #[.int .u64 0, .int .i64 i] 34)
  obtain ⟨ps, pb, hi, H1⟩ := arAt_open H0.swap
  have Hat := Lib.hid (at_fixed p i _ H1.lt hi9)
  have hB : Go.RowKit.Hid (∀ w1, Below (w.alloc (.cells #[.int .u64 0, .int .i64 i] 34)).heap.size (w.alloc (.cells #[.int .u64 0, .int .i64 i] 34)) w1 → w1.cell? ⟨w.heap.size, 1, none⟩ = some (.int .i64 i) ∧ w1.cell? ⟨p, 20, none⟩ = some (.int .i64 (wr64 A.t.swaps)) ∧ w1.frozen? ⟨p, 20, none⟩ = false ∧ w1.cell? ⟨p, 5 + i, none⟩ = some (.int .u64 x) ∧ (w1.setCell ⟨p, 20, none⟩ (.int .i64 (wrap64 (wr64 A.t.swaps + 1)))).frozen? ⟨p, 5 + i, none⟩ = false ∧
      Sat ((w1.setCell ⟨p, 20, none⟩ (.int .i64 (wrap64 (wr64 A.t.swaps + 1)))).setCell ⟨p, 5 + i, none⟩ (.int .u64 y)) (arAt p ((A.set 0 i y).tick fun t => { t with swaps := t.swaps + 1 }) * R) ∧ Kept w w1) := by
    intro w1 hb1
    have H2 := H1.below hb1
    refine ⟨?_, H2.cell 20, H2.free 20, (H2.cell (5 + i)).trans (by rw [fixed_cell _ _ _ hi9, hx]), (World.frozen?_setCell _ _ _ _).trans (H2.free (5 + i)), ?_, ((Kept.refl w).alloc _).below hb1⟩
    · exact (hb1.cell (p := ⟨w.heap.size, 1, none⟩) (by simp)).trans (by rw [World.cell?_alloc_at _ _ _ _ rfl]; rfl)
    · have H3 := (H2.set 20 (.int .i64 (wr64 (A.t.swaps + 1)))).set (5 + i) (.int .u64 y)
      rw [wr64_succ]
      rw [show (arCells A ps pb).setIfInBounds 20 (.int .i64 (wr64 (A.t.swaps + 1))) = arCells (A.tick fun t => { t with swaps := t.swaps + 1 }) ps pb from rfl, fixed_set _ _ _ hi9] at H3
      exact (fixed_shut _ ((hi.set 0 i _ (hy)).tick _) H3).swap.right
  clear H0 H1 H hx hi
  go_enter Try.func16, Try.ntmps16
  go_wp2_with fail
  refine Hat.out.mono ?_; rintro e w1 ⟨rfl, hb1⟩
  obtain ⟨c1, c2, c3, c4, c5, hS, hK⟩ := hB.out w1 hb1
  have HS := Lib.hid hS
  clear hS hb1
  go_wp2
  go_ret2
  exact ⟨rfl, HS.out, by repeat first | exact hK | refine Kept.setCell ?_ _ _⟩

set_option maxHeartbeats 1600000 in
theorem swapN_block (p h i x : Nat) (o y : Nat) (A : Ar) (b : Blk) (w : World) {R : Assn} (H : Sat w (arAt p A * R)) (hh : h < TW) (h0 : h ≠ 0) (hf : A.find h = some b) (hx : b.ws[i]? = some x) (ho : x ≠ o) :
    Calls Try.prog 16 #[.pointer (some ⟨p, 0, none⟩), .agg #[.int .u64 h, .int .i64 i], .int .u64 o, .int .u64 y] w fun e w' => e = .returned (.tuple #[.bool false, .int .i64 0]) ∧ Sat w' (arAt p (A.tick fun t => { t with swaps := t.swaps + 1 }) * R) ∧ Kept w w' := by
  have hil : i < b.ws.length := by
    rcases Nat.lt_or_ge i b.ws.length with h1 | h1
    · exact h1
    · rw [List.getElem?_eq_none h1] at hx; cases hx
  have H0 := H.alloc (.cells #[.int .u64 h, .int .i64 i] 34)
  obtain ⟨ps, pb, l1, l2, g, c, cur, hi, hl, hv, h4, h5, h6, h7, hsee, H1⟩ := ar_block H0.swap (Ar.find_mem hf).1
  have hbh := (Ar.find_mem hf).2
  have Hat := Lib.hid (at_block p h i g _ c A b _ hsee hh h0 hf hv hil)
  have hgp : g ≠ p := H1.ne.symm
  have hB : Go.RowKit.Hid (∀ w1, Below (w.alloc (.cells #[.int .u64 h, .int .i64 i] 34)).heap.size (w.alloc (.cells #[.int .u64 h, .int .i64 i] 34)) w1 → w1.cell? ⟨w.heap.size, 1, none⟩ = some (.int .i64 i) ∧ w1.cell? ⟨p, 20, none⟩ = some (.int .i64 (wr64 A.t.swaps)) ∧ w1.frozen? ⟨p, 20, none⟩ = false ∧ w1.cell? ⟨g, i, none⟩ = some (.int .u64 x) ∧
      Sat (w1.setCell ⟨p, 20, none⟩ (.int .i64 (wrap64 (wr64 A.t.swaps + 1)))) (arAt p (A.tick fun t => { t with swaps := t.swaps + 1 }) * R) ∧ Kept w w1) := by
    intro w1 hb1
    have H2 := H1.below hb1
    refine ⟨?_, H2.cell 20, H2.free 20, row_at H2.swap h7 hx, ?_, ((Kept.refl w).alloc _).below hb1⟩
    · exact (hb1.cell (p := ⟨w.heap.size, 1, none⟩) (by simp)).trans (by rw [World.cell?_alloc_at _ _ _ _ rfl]; rfl)
    · have H3 := H2.set 20 (.int .i64 (wr64 (A.t.swaps + 1)))
      rw [wr64_succ]
      exact (ar_block_shut (A := A.tick _) (hi.tick _) hl hv h4 h5 h6 h7 H3).swap.right
  have hxo : ((x : Int) != (o : Int)) = true := by rw [bne_iff_ne]; omega
  clear H0 H1 H hsee hl hv h4 h5 h6 h7 hf hx hi hbh
  go_enter Try.func16, Try.ntmps16
  go_wp2_with fail
  refine Hat.out.mono ?_; rintro e w1 ⟨rfl, hb1⟩
  obtain ⟨c1, c2, c3, c4, hS, hK⟩ := hB.out w1 hb1
  have HS := Lib.hid hS
  clear hS hb1
  go_wp2
  go_ret2
  exact ⟨rfl, HS.out, by repeat first | exact hK | refine Kept.setCell ?_ _ _⟩

set_option maxHeartbeats 1600000 in
theorem swapN_fixed (p i x : Nat) (o y : Nat) (A : Ar) (w : World) {R : Assn} (H : Sat w (arAt p A * R)) (hi9 : i < 9) (hx : A.fixed i = x) (ho : x ≠ o) :
    Calls Try.prog 16 #[.pointer (some ⟨p, 0, none⟩), .agg #[.int .u64 0, .int .i64 i], .int .u64 o, .int .u64 y] w fun e w' => e = .returned (.tuple #[.bool false, .int .i64 0]) ∧ Sat w' (arAt p (A.tick fun t => { t with swaps := t.swaps + 1 }) * R) ∧ Kept w w' := by
  have H0 := H.alloc (.cells #[.int .u64 0, .int .i64 i] 34)
  obtain ⟨ps, pb, hi, H1⟩ := arAt_open H0.swap
  have Hat := Lib.hid (at_fixed p i _ H1.lt hi9)
  have hB : Go.RowKit.Hid (∀ w1, Below (w.alloc (.cells #[.int .u64 0, .int .i64 i] 34)).heap.size (w.alloc (.cells #[.int .u64 0, .int .i64 i] 34)) w1 → w1.cell? ⟨w.heap.size, 1, none⟩ = some (.int .i64 i) ∧ w1.cell? ⟨p, 20, none⟩ = some (.int .i64 (wr64 A.t.swaps)) ∧ w1.frozen? ⟨p, 20, none⟩ = false ∧ w1.cell? ⟨p, 5 + i, none⟩ = some (.int .u64 x) ∧
      Sat (w1.setCell ⟨p, 20, none⟩ (.int .i64 (wrap64 (wr64 A.t.swaps + 1)))) (arAt p (A.tick fun t => { t with swaps := t.swaps + 1 }) * R) ∧ Kept w w1) := by
    intro w1 hb1
    have H2 := H1.below hb1
    refine ⟨?_, H2.cell 20, H2.free 20, (H2.cell (5 + i)).trans (by rw [fixed_cell _ _ _ hi9, hx]), ?_, ((Kept.refl w).alloc _).below hb1⟩
    · exact (hb1.cell (p := ⟨w.heap.size, 1, none⟩) (by simp)).trans (by rw [World.cell?_alloc_at _ _ _ _ rfl]; rfl)
    · have H3 := H2.set 20 (.int .i64 (wr64 (A.t.swaps + 1)))
      rw [wr64_succ]
      exact (arAt_shut (A := A.tick _) (hi.tick _) H3).swap.right
  have hxo : ((x : Int) != (o : Int)) = true := by rw [bne_iff_ne]; omega
  clear H0 H1 H hx hi
  go_enter Try.func16, Try.ntmps16
  go_wp2_with fail
  refine Hat.out.mono ?_; rintro e w1 ⟨rfl, hb1⟩
  obtain ⟨c1, c2, c3, c4, hS, hK⟩ := hB.out w1 hb1
  have HS := Lib.hid hS
  clear hS hb1
  go_wp2
  go_ret2
  exact ⟨rfl, HS.out, by repeat first | exact hK | refine Kept.setCell ?_ _ _⟩
end Go.Proofs.Ytnkikhhiaecebaa

/- arena.Lay of an arena of which nothing was freed. -/
namespace Go.Proofs.Ytnkikhhiaecebaa
open Go.RowKit

theorem least_new (ps hi cap : Nat) (g : Option Addr) (w : World) (h0 : w.cell? ⟨ps, 0, none⟩ = some (.int .i64 65535)) (h1 : w.cell? ⟨ps, 1, none⟩ = some (.int .i64 hi)) (h2 : w.cell? ⟨ps, 2, none⟩ = some (.slice g 0 cap))
    (hz : w.frozen? ⟨ps, 1, none⟩ = false) (hh : hi < 65535) :
    Calls Try.prog 158 #[.pointer (some ⟨ps, 0, none⟩)] w fun e w' => e = .returned (.int .i64 ((hi : Int) + 1)) ∧ ∃ n, w' = (w.drewN n).setCell ⟨ps, 1, none⟩ (.int .i64 ((hi : Int) + 1)) := by
  have hlt : ((hi : Int) < 65535) := by omega
  go_enter Try.func158, Try.ntmps158
  go_wp2
  go_quiet (fail)
  go_wp2
  go_ret
  exact ⟨rfl, nq, rfl⟩

def Stk.take (S : Stk) : Stk := { S with high := S.high + 1, used := S.used ++ [S.high + 1] }
theorem stk_take (ps : Nat) (S : Stk) (w : World) {R : Assn} (H : Sat w (stkAt ps S * R)) (hb : S.back = []) (hh : S.high < 65535) (hn : S.high + 1 ∉ S.used) :
    Calls Try.prog 89 #[.pointer (some ⟨ps, 0, none⟩)] w fun e w' => e = .returned (.tuple #[.int .i64 ((S.high : Int) + 1), .int .i64 0]) ∧ Sat w' (stkAt ps S.take * R) ∧ Kept w w' := by
  obtain ⟨⟨pm, sv⟩, H1⟩ := H.ex_mul
  obtain ⟨g, cap, rfl⟩ : ∃ g cap, sv = .slice g 0 cap := by
    rw [hb] at H1
    have H2 := H1.cast (Q := rowAt 3 sv [] * (own ps (.cells #[.int .i64 65535, .int .i64 S.high, sv, .map (some pm)] 272 (0, 0)) * (mapAt pm (S.used.map fun n : Nat => ((n : Int), Value.int .i64 1)) * R))) (by simp only [intv, List.map_nil]; ac_rfl)
    rcases rowAt_open H2 with ⟨h, _, _⟩ | ⟨g, cap, cur, h, _, _, _, _, _⟩
    · exact ⟨_, _, h⟩
    · exact ⟨_, _, h⟩
  have H2 := H1.cast (Q := own ps (.cells #[.int .i64 65535, .int .i64 S.high, .slice g 0 cap, .map (some pm)] 272 (0, 0)) * (mapAt pm (S.used.map fun n : Nat => ((n : Int), Value.int .i64 1)) * (rowAt 3 (.slice g 0 cap) (intv S.back) * R))) (by ac_rfl)
  have HL := Lib.hid (least_new ps S.high cap g w (H2.cell 0) (H2.cell 1) (H2.cell 2) (H2.free 1) hh)
  have HH := Lib.hid H2
  clear H H1 H2
  have hS : S.take.used.map (fun n : Nat => ((n : Int), Value.int .i64 1)) = (S.used.map fun n : Nat => ((n : Int), Value.int .i64 1)) ++ [((S.high : Int) + 1, .int .i64 1)] := by simp [Stk.take]
  have hlk : look (S.used.map fun n : Nat => ((n : Int), Value.int .i64 1)) ((S.high : Int) + 1) = none := by
    simp only [look, Option.map_eq_none_iff, List.find?_eq_none]
    intro x hx
    obtain ⟨n, hn', rfl⟩ := List.mem_map.1 hx
    simp only [beq_iff_eq]
    intro e
    exact hn (by have : n = S.high + 1 := by omega
                 exact this ▸ hn')
  have HS := Lib.hid (And.intro hS hlk)
  clear hS hlk hn
  go_enter Try.func89, Try.ntmps89
  go_wp2_with fail
  refine HL.out.mono ?_; rintro e w1 ⟨rfl, n, rfl⟩
  have HS1 := (HH.out.draws n).set 1 (.int .i64 ((S.high : Int) + 1))
  have hc3 := HS1.cell 3
  simp at hc3
  obtain ⟨es, clock, hl, HM⟩ := mapAt_open HS1.swap
  have hlt := HM.lt
  have hmb := HM.block
  obtain ⟨w2, es', clock', hup, hl', hb', hoth, hk, hsz⟩ := update_new (P := Try.prog) hmb hl Try.underlying240 Try.underlying3 ((S.high : Int) + 1) (.int .i64 1) HS.out.2
  have HU := HM.upd hb' (fun i hi _ => hoth i hi)
  have HF := Lib.hid (And.intro HU (And.intro hl' hk))
  clear HM HS1 hl hmb hl' hoth hk hsz hb' HU
  generalize hhi : S.high = hi at *
  have hne0 : ((hi : Int) + 1 == 0) = false := by simp; omega
  go_wp2_with fail
  go_ret2
  obtain ⟨HU, hl', hk⟩ := HF.out
  refine ⟨by rw [hhi]; rfl, ?_, ((Kept.refl w).draws n |>.setCell _ _).trans hk⟩
  have HX := mapAt_shut hl' HU
  rw [← HS.out.1] at HX
  refine Sat.mk_ex_mul (pm, .slice g 0 cap) ?_
  refine HX.cast ?_
  simp only [Stk.take]
  rw [hhi]
  simp
  ac_rfl

theorem bs_le (bs : List Blk) (h : ∀ b ∈ bs, 1 ≤ b.ws.length) : bs.length ≤ (bs.map fun b => b.ws.length).sum := by
  induction bs with
  | nil => simp
  | cons b l ih =>
    have := ih fun c hc => h c (by simp [hc])
    have := h b (by simp)
    simp; omega
theorem ArInv.high_le {A : Ar} (hi : ArInv A) (hb : A.s.back = []) : A.s.high ≤ A.used := by
  have h1 := bs_le A.bs fun b hb => (hi.range b hb).2.2.2.2.2.1
  have h2 := hi.high
  rw [hb] at h2
  rw [hi.sum, h2]; simpa using h1
theorem ArInv.fresh {A : Ar} (hi : ArInv A) : A.s.high + 1 ∉ A.s.used := by
  intro h
  replace h := hi.nums.mem_iff.1 h
  obtain ⟨b, hb, e⟩ := List.mem_map.1 h
  have := (hi.range b hb).2.1
  omega
end Go.Proofs.Ytnkikhhiaecebaa

/- The walk of arena.Lay. -/
namespace Go.Proofs.Ytnkikhhiaecebaa
open Go.RowKit

end Go.Proofs.Ytnkikhhiaecebaa

/- The arena's Read at a word that there is (layer 3). -/
namespace Go.Proofs.Ytnkikhhiaecebaa
open Go.RowKit

set_option maxHeartbeats 1600000 in
theorem read_block (p h i x : Nat) (A : Ar) (b : Blk) (w : World) {R : Assn} (H : Sat w (arAt p A * R)) (hh : h < TW) (h0 : h ≠ 0) (hf : A.find h = some b) (hx : b.ws[i]? = some x) :
    Calls Try.prog 15 #[.pointer (some ⟨p, 0, none⟩), .agg #[.int .u64 h, .int .i64 i]] w fun e w' => e = .returned (.tuple #[.int .u64 x, .int .i64 0]) ∧ Sat w' (arAt p (A.tick fun t => { t with reads := t.reads + 1 }) * R) ∧ Kept w w' := by
  have hil : i < b.ws.length := by
    rcases Nat.lt_or_ge i b.ws.length with h1 | h1
    · exact h1
    · rw [List.getElem?_eq_none h1] at hx; cases hx
  have H0 := H.alloc (.cells #[.int .u64 h, .int .i64 i] 34)
  obtain ⟨ps, pb, l1, l2, g, c, cur, hi, hl, hv, h4, h5, h6, h7, hsee, H1⟩ := ar_block H0.swap (Ar.find_mem hf).1
  have hbh := (Ar.find_mem hf).2
  have Hat := Lib.hid (at_block p h i g _ c A b _ hsee hh h0 hf hv hil)
  have hgp : g ≠ p := H1.ne.symm
  have hB : Go.RowKit.Hid (∀ w1, Below (w.alloc (.cells #[.int .u64 h, .int .i64 i] 34)).heap.size (w.alloc (.cells #[.int .u64 h, .int .i64 i] 34)) w1 → w1.cell? ⟨w.heap.size, 1, none⟩ = some (.int .i64 i) ∧ w1.cell? ⟨p, 18, none⟩ = some (.int .i64 (wr64 A.t.reads)) ∧ w1.frozen? ⟨p, 18, none⟩ = false ∧ w1.cell? ⟨g, i, none⟩ = some (.int .u64 x) ∧
      Sat (w1.setCell ⟨p, 18, none⟩ (.int .i64 (wrap64 (wr64 A.t.reads + 1)))) (arAt p (A.tick fun t => { t with reads := t.reads + 1 }) * R) ∧ Kept w w1) := by
    intro w1 hb1
    have H2 := H1.below hb1
    refine ⟨?_, H2.cell 18, H2.free 18, row_at H2.swap h7 hx, ?_, ((Kept.refl w).alloc _).below hb1⟩
    · exact (hb1.cell (p := ⟨w.heap.size, 1, none⟩) (by simp)).trans (by rw [World.cell?_alloc_at _ _ _ _ rfl]; rfl)
    · have H3 := H2.set 18 (.int .i64 (wr64 (A.t.reads + 1)))
      rw [wr64_succ]
      exact (ar_block_shut (A := A.tick _) (hi.tick _) hl hv h4 h5 h6 h7 H3).swap.right
  clear H0 H1 H hsee hl hv h4 h5 h6 h7 hf hx hi hbh
  go_enter Try.func15, Try.ntmps15
  go_wp2_with fail
  refine Hat.out.mono ?_; rintro e w1 ⟨rfl, hb1⟩
  obtain ⟨c1, c2, c3, c4, hS, hK⟩ := hB.out w1 hb1
  have HS := Lib.hid hS
  clear hS hb1
  go_wp2
  go_ret2
  exact ⟨rfl, HS.out, by repeat first | exact hK | refine Kept.setCell ?_ _ _⟩

set_option maxHeartbeats 1600000 in
theorem read_fixed (p i x : Nat) (A : Ar) (w : World) {R : Assn} (H : Sat w (arAt p A * R)) (hi9 : i < 9) (hx : A.fixed i = x) :
    Calls Try.prog 15 #[.pointer (some ⟨p, 0, none⟩), .agg #[.int .u64 0, .int .i64 i]] w fun e w' => e = .returned (.tuple #[.int .u64 x, .int .i64 0]) ∧ Sat w' (arAt p (A.tick fun t => { t with reads := t.reads + 1 }) * R) ∧ Kept w w' := by
  have H0 := H.alloc (.cells #[.int .u64 0, .int .i64 i] 34)
  obtain ⟨ps, pb, hi, H1⟩ := arAt_open H0.swap
  have Hat := Lib.hid (at_fixed p i _ H1.lt hi9)
  have hB : Go.RowKit.Hid (∀ w1, Below (w.alloc (.cells #[.int .u64 0, .int .i64 i] 34)).heap.size (w.alloc (.cells #[.int .u64 0, .int .i64 i] 34)) w1 → w1.cell? ⟨w.heap.size, 1, none⟩ = some (.int .i64 i) ∧ w1.cell? ⟨p, 18, none⟩ = some (.int .i64 (wr64 A.t.reads)) ∧ w1.frozen? ⟨p, 18, none⟩ = false ∧ w1.cell? ⟨p, 5 + i, none⟩ = some (.int .u64 x) ∧
      Sat (w1.setCell ⟨p, 18, none⟩ (.int .i64 (wrap64 (wr64 A.t.reads + 1)))) (arAt p (A.tick fun t => { t with reads := t.reads + 1 }) * R) ∧ Kept w w1) := by
    intro w1 hb1
    have H2 := H1.below hb1
    refine ⟨?_, H2.cell 18, H2.free 18, (H2.cell (5 + i)).trans (by rw [fixed_cell _ _ _ hi9, hx]), ?_, ((Kept.refl w).alloc _).below hb1⟩
    · exact (hb1.cell (p := ⟨w.heap.size, 1, none⟩) (by simp)).trans (by rw [World.cell?_alloc_at _ _ _ _ rfl]; rfl)
    · have H3 := H2.set 18 (.int .i64 (wr64 (A.t.reads + 1)))
      rw [wr64_succ]
      exact (arAt_shut (A := A.tick _) (hi.tick _) H3).swap.right
  clear H0 H1 H hx hi
  go_enter Try.func15, Try.ntmps15
  go_wp2_with fail
  refine Hat.out.mono ?_; rintro e w1 ⟨rfl, hb1⟩
  obtain ⟨c1, c2, c3, c4, hS, hK⟩ := hB.out w1 hb1
  have HS := Lib.hid hS
  clear hS hb1
  go_wp2
  go_ret2
  exact ⟨rfl, HS.out, by repeat first | exact hK | refine Kept.setCell ?_ _ _⟩
end Go.Proofs.Ytnkikhhiaecebaa

/- The arena's Write at a word that there is (layer 3). -/
namespace Go.Proofs.Ytnkikhhiaecebaa
open Go.RowKit

set_option maxHeartbeats 1600000 in
theorem write_block (p h i x : Nat) (y : Nat) (A : Ar) (b : Blk) (w : World) {R : Assn} (H : Sat w (arAt p A * R)) (hh : h < TW) (h0 : h ≠ 0) (hf : A.find h = some b) (hx : b.ws[i]? = some x) (hy : y < TW) :
    Calls Try.prog 19 #[.pointer (some ⟨p, 0, none⟩), .agg #[.int .u64 h, .int .i64 i], .int .u64 y] w fun e w' => e = .returned (.int .i64 0) ∧ Sat w' (arAt p ((A.set h i y).tick fun t => { t with writes := t.writes + 1 }) * R) ∧ Kept w w' := by
  have hil : i < b.ws.length := by
    rcases Nat.lt_or_ge i b.ws.length with h1 | h1
    · exact h1
    · rw [List.getElem?_eq_none h1] at hx; cases hx
  have H0 := H.alloc (.cells #[.int .u64 h, .int .i64 i] 34)
  obtain ⟨ps, pb, l1, l2, g, c, cur, hi, hl, hv, h4, h5, h6, h7, hsee, H1⟩ := ar_block H0.swap (Ar.find_mem hf).1
  have hbh := (Ar.find_mem hf).2
  have Hat := Lib.hid (at_block p h i g _ c A b _ hsee hh h0 hf hv hil)
  have hgp : g ≠ p := H1.ne.symm
  have hB : Go.RowKit.Hid (∀ w1, Below (w.alloc (.cells #[.int .u64 h, .int .i64 i] 34)).heap.size (w.alloc (.cells #[.int .u64 h, .int .i64 i] 34)) w1 → w1.cell? ⟨w.heap.size, 1, none⟩ = some (.int .i64 i) ∧ w1.cell? ⟨p, 19, none⟩ = some (.int .i64 (wr64 A.t.writes)) ∧ w1.frozen? ⟨p, 19, none⟩ = false ∧ w1.cell? ⟨g, i, none⟩ = some (.int .u64 x) ∧ (w1.setCell ⟨p, 19, none⟩ (.int .i64 (wrap64 (wr64 A.t.writes + 1)))).frozen? ⟨g, i, none⟩ = false ∧
      Sat ((w1.setCell ⟨p, 19, none⟩ (.int .i64 (wrap64 (wr64 A.t.writes + 1)))).setCell ⟨g, i, none⟩ (.int .u64 y)) (arAt p ((A.set h i y).tick fun t => { t with writes := t.writes + 1 }) * R) ∧ Kept w w1) := by
    intro w1 hb1
    have H2 := H1.below hb1
    refine ⟨?_, H2.cell 19, H2.free 19, row_at H2.swap h7 hx, (World.frozen?_setCell _ _ _ _).trans (H2.swap.free i), ?_, ((Kept.refl w).alloc _).below hb1⟩
    · exact (hb1.cell (p := ⟨w.heap.size, 1, none⟩) (by simp)).trans (by rw [World.cell?_alloc_at _ _ _ _ rfl]; rfl)
    · have H3 := (H2.set 19 (.int .i64 (wr64 (A.t.writes + 1)))).swap.set i (.int .u64 y)
      rw [wr64_succ]
      have e1 : (A.set h i y).bs = l1 ++ { b with ws := b.ws.set i y } :: l2 := by
        rw [← hbh]; unfold Ar.set; rw [if_neg (by rw [hbh]; exact h0)]; exact set_mid hi hl i _
      have e2 : (A.set h i y).bs.map ent = A.bs.map ent := by unfold Ar.set; rw [if_neg h0]; exact set_ent _ _ _ _
      have e3 : (A.set h i y).s = A.s := by unfold Ar.set; split <;> rfl
      have e4 : arCells ((A.set h i y).tick fun t => { t with writes := t.writes + 1 }) ps pb = (arCells A ps pb).setIfInBounds 19 (.int .i64 (wr64 (A.t.writes + 1))) := by unfold Ar.set; rw [if_neg h0]; rfl
      have H4 : Sat ((w1.setCell ⟨p, 19, none⟩ (.int .i64 (wr64 (A.t.writes + 1)))).setCell ⟨g, i, none⟩ (.int .u64 y)) (arAt p ((A.set h i y).tick fun t => { t with writes := t.writes + 1 }) * (own w.heap.size (.cells #[.int .u64 h, .int .i64 i] 34) * R)) := by
       refine (ar_block_shut (A := (A.set h i y).tick _) (b := { b with ws := b.ws.set i y }) (cur := cur.setIfInBounds i (.int .u64 y)) (ps := ps) (pb := pb) ((hi.set h i _ (hy)).tick _) e1 (by simpa using hv) (by simpa using h4) h5 (by simpa using h6) (row_set h7 i _) ?_)
       rw [e4, show ((A.set h i y).tick fun t => { t with writes := t.writes + 1 }).s = A.s from e3, show ((A.set h i y).tick fun t => { t with writes := t.writes + 1 }).bs = (A.set h i y).bs from rfl, e2]
       exact H3.swap
      exact H4.swap.right
  clear H0 H1 H hsee hl hv h4 h5 h6 h7 hf hx hi hbh
  go_enter Try.func19, Try.ntmps19
  go_wp2_with fail
  refine Hat.out.mono ?_; rintro e w1 ⟨rfl, hb1⟩
  obtain ⟨c1, c2, c3, c4, c5, hS, hK⟩ := hB.out w1 hb1
  have HS := Lib.hid hS
  clear hS hb1
  go_wp2
  go_ret
  exact ⟨rfl, HS.out, by repeat first | exact hK | refine Kept.setCell ?_ _ _⟩

set_option maxHeartbeats 1600000 in
theorem write_fixed (p i x : Nat) (y : Nat) (A : Ar) (w : World) {R : Assn} (H : Sat w (arAt p A * R)) (hi9 : i < 9) (hx : A.fixed i = x) (hy : y < TW) :
    Calls Try.prog 19 #[.pointer (some ⟨p, 0, none⟩), .agg #[.int .u64 0, .int .i64 i], .int .u64 y] w fun e w' => e = .returned (.int .i64 0) ∧ Sat w' (arAt p ((A.set 0 i y).tick fun t => { t with writes := t.writes + 1 }) * R) ∧ Kept w w' := by
  have H0 := H.alloc (.cells #[.int .u64 0, .int .i64 i] 34)
  obtain ⟨ps, pb, hi, H1⟩ := arAt_open H0.swap
  have Hat := Lib.hid (at_fixed p i _ H1.lt hi9)
  have hB : Go.RowKit.Hid (∀ w1, Below (w.alloc (.cells #[.int .u64 0, .int .i64 i] 34)).heap.size (w.alloc (.cells #[.int .u64 0, .int .i64 i] 34)) w1 → w1.cell? ⟨w.heap.size, 1, none⟩ = some (.int .i64 i) ∧ w1.cell? ⟨p, 19, none⟩ = some (.int .i64 (wr64 A.t.writes)) ∧ w1.frozen? ⟨p, 19, none⟩ = false ∧ w1.cell? ⟨p, 5 + i, none⟩ = some (.int .u64 x) ∧ (w1.setCell ⟨p, 19, none⟩ (.int .i64 (wrap64 (wr64 A.t.writes + 1)))).frozen? ⟨p, 5 + i, none⟩ = false ∧
      Sat ((w1.setCell ⟨p, 19, none⟩ (.int .i64 (wrap64 (wr64 A.t.writes + 1)))).setCell ⟨p, 5 + i, none⟩ (.int .u64 y)) (arAt p ((A.set 0 i y).tick fun t => { t with writes := t.writes + 1 }) * R) ∧ Kept w w1) := by
    intro w1 hb1
    have H2 := H1.below hb1
    refine ⟨?_, H2.cell 19, H2.free 19, (H2.cell (5 + i)).trans (by rw [fixed_cell _ _ _ hi9, hx]), (World.frozen?_setCell _ _ _ _).trans (H2.free (5 + i)), ?_, ((Kept.refl w).alloc _).below hb1⟩
    · exact (hb1.cell (p := ⟨w.heap.size, 1, none⟩) (by simp)).trans (by rw [World.cell?_alloc_at _ _ _ _ rfl]; rfl)
    · have H3 := (H2.set 19 (.int .i64 (wr64 (A.t.writes + 1)))).set (5 + i) (.int .u64 y)
      rw [wr64_succ]
      rw [show (arCells A ps pb).setIfInBounds 19 (.int .i64 (wr64 (A.t.writes + 1))) = arCells (A.tick fun t => { t with writes := t.writes + 1 }) ps pb from rfl, fixed_set _ _ _ hi9] at H3
      exact (fixed_shut _ ((hi.set 0 i _ (hy)).tick _) H3).swap.right
  clear H0 H1 H hx hi
  go_enter Try.func19, Try.ntmps19
  go_wp2_with fail
  refine Hat.out.mono ?_; rintro e w1 ⟨rfl, hb1⟩
  obtain ⟨c1, c2, c3, c4, c5, hS, hK⟩ := hB.out w1 hb1
  have HS := Lib.hid hS
  clear hS hb1
  go_wp2
  go_ret
  exact ⟨rfl, HS.out, by repeat first | exact hK | refine Kept.setCell ?_ _ _⟩
end Go.Proofs.Ytnkikhhiaecebaa

/- The arena's Add at a word that there is (layer 3). -/
namespace Go.Proofs.Ytnkikhhiaecebaa
open Go.RowKit

set_option maxHeartbeats 1600000 in
theorem add_block (p h i x : Nat) (y : Nat) (A : Ar) (b : Blk) (w : World) {R : Assn} (H : Sat w (arAt p A * R)) (hh : h < TW) (h0 : h ≠ 0) (hf : A.find h = some b) (hx : b.ws[i]? = some x) :
    Calls Try.prog 17 #[.pointer (some ⟨p, 0, none⟩), .agg #[.int .u64 h, .int .i64 i], .int .u64 y] w fun e w' => e = .returned (.tuple #[.int .u64 x, .int .i64 0]) ∧ Sat w' (arAt p ((A.set h i (addW x y)).tick fun t => { t with adds := t.adds + 1 }) * R) ∧ Kept w w' := by
  have hil : i < b.ws.length := by
    rcases Nat.lt_or_ge i b.ws.length with h1 | h1
    · exact h1
    · rw [List.getElem?_eq_none h1] at hx; cases hx
  have H0 := H.alloc (.cells #[.int .u64 h, .int .i64 i] 34)
  obtain ⟨ps, pb, l1, l2, g, c, cur, hi, hl, hv, h4, h5, h6, h7, hsee, H1⟩ := ar_block H0.swap (Ar.find_mem hf).1
  have hbh := (Ar.find_mem hf).2
  have Hat := Lib.hid (at_block p h i g _ c A b _ hsee hh h0 hf hv hil)
  have hgp : g ≠ p := H1.ne.symm
  have hB : Go.RowKit.Hid (∀ w1, Below (w.alloc (.cells #[.int .u64 h, .int .i64 i] 34)).heap.size (w.alloc (.cells #[.int .u64 h, .int .i64 i] 34)) w1 → w1.cell? ⟨w.heap.size, 1, none⟩ = some (.int .i64 i) ∧ w1.cell? ⟨p, 21, none⟩ = some (.int .i64 (wr64 A.t.adds)) ∧ w1.frozen? ⟨p, 21, none⟩ = false ∧ w1.cell? ⟨g, i, none⟩ = some (.int .u64 x) ∧ (w1.setCell ⟨p, 21, none⟩ (.int .i64 (wrap64 (wr64 A.t.adds + 1)))).frozen? ⟨g, i, none⟩ = false ∧
      Sat ((w1.setCell ⟨p, 21, none⟩ (.int .i64 (wrap64 (wr64 A.t.adds + 1)))).setCell ⟨g, i, none⟩ (.int .u64 (IntKind.u64.wrap ((x : Int) + (y : Int))))) (arAt p ((A.set h i (addW x y)).tick fun t => { t with adds := t.adds + 1 }) * R) ∧ Kept w w1) := by
    intro w1 hb1
    have H2 := H1.below hb1
    refine ⟨?_, H2.cell 21, H2.free 21, row_at H2.swap h7 hx, (World.frozen?_setCell _ _ _ _).trans (H2.swap.free i), ?_, ((Kept.refl w).alloc _).below hb1⟩
    · exact (hb1.cell (p := ⟨w.heap.size, 1, none⟩) (by simp)).trans (by rw [World.cell?_alloc_at _ _ _ _ rfl]; rfl)
    · have H3 := (H2.set 21 (.int .i64 (wr64 (A.t.adds + 1)))).swap.set i (.int .u64 (addW x y))
      rw [wr64_succ, addW_eq]
      have e1 : (A.set h i (addW x y)).bs = l1 ++ { b with ws := b.ws.set i (addW x y) } :: l2 := by
        rw [← hbh]; unfold Ar.set; rw [if_neg (by rw [hbh]; exact h0)]; exact set_mid hi hl i _
      have e2 : (A.set h i (addW x y)).bs.map ent = A.bs.map ent := by unfold Ar.set; rw [if_neg h0]; exact set_ent _ _ _ _
      have e3 : (A.set h i (addW x y)).s = A.s := by unfold Ar.set; split <;> rfl
      have e4 : arCells ((A.set h i (addW x y)).tick fun t => { t with adds := t.adds + 1 }) ps pb = (arCells A ps pb).setIfInBounds 21 (.int .i64 (wr64 (A.t.adds + 1))) := by unfold Ar.set; rw [if_neg h0]; rfl
      have H4 : Sat ((w1.setCell ⟨p, 21, none⟩ (.int .i64 (wr64 (A.t.adds + 1)))).setCell ⟨g, i, none⟩ (.int .u64 (addW x y))) (arAt p ((A.set h i (addW x y)).tick fun t => { t with adds := t.adds + 1 }) * (own w.heap.size (.cells #[.int .u64 h, .int .i64 i] 34) * R)) := by
       refine (ar_block_shut (A := (A.set h i (addW x y)).tick _) (b := { b with ws := b.ws.set i (addW x y) }) (cur := cur.setIfInBounds i (.int .u64 (addW x y))) (ps := ps) (pb := pb) ((hi.set h i _ (addW_lt x y)).tick _) e1 (by simpa using hv) (by simpa using h4) h5 (by simpa using h6) (row_set h7 i _) ?_)
       rw [e4, show ((A.set h i (addW x y)).tick fun t => { t with adds := t.adds + 1 }).s = A.s from e3, show ((A.set h i (addW x y)).tick fun t => { t with adds := t.adds + 1 }).bs = (A.set h i (addW x y)).bs from rfl, e2]
       exact H3.swap
      exact H4.swap.right
  clear H0 H1 H hsee hl hv h4 h5 h6 h7 hf hx hi hbh
  go_enter Try.func17, Try.ntmps17
  go_wp2_with fail
  refine Hat.out.mono ?_; rintro e w1 ⟨rfl, hb1⟩
  obtain ⟨c1, c2, c3, c4, c5, hS, hK⟩ := hB.out w1 hb1
  have HS := Lib.hid hS
  clear hS hb1
  go_wp2
  go_ret2
  exact ⟨rfl, HS.out, by repeat first | exact hK | refine Kept.setCell ?_ _ _⟩

set_option maxHeartbeats 1600000 in
theorem add_fixed (p i x : Nat) (y : Nat) (A : Ar) (w : World) {R : Assn} (H : Sat w (arAt p A * R)) (hi9 : i < 9) (hx : A.fixed i = x) :
    Calls Try.prog 17 #[.pointer (some ⟨p, 0, none⟩), .agg #[.int .u64 0, .int .i64 i], .int .u64 y] w fun e w' => e = .returned (.tuple #[.int .u64 x, .int .i64 0]) ∧ Sat w' (arAt p ((A.set 0 i (addW x y)).tick fun t => { t with adds := t.adds + 1 }) * R) ∧ Kept w w' := by
  have H0 := H.alloc (.cells #[.int .u64 0, .int .i64 i] 34)
  obtain ⟨ps, pb, hi, H1⟩ := arAt_open H0.swap
  have Hat := Lib.hid (at_fixed p i _ H1.lt hi9)
  have hB : Go.RowKit.Hid (∀ w1, Below (w.alloc (.cells #[.int .u64 0, .int .i64 i] 34)).heap.size (w.alloc (.cells #[.int .u64 0, .int .i64 i] 34)) w1 → w1.cell? ⟨w.heap.size, 1, none⟩ = some (.int .i64 i) ∧ w1.cell? ⟨p, 21, none⟩ = some (.int .i64 (wr64 A.t.adds)) ∧ w1.frozen? ⟨p, 21, none⟩ = false ∧ w1.cell? ⟨p, 5 + i, none⟩ = some (.int .u64 x) ∧ (w1.setCell ⟨p, 21, none⟩ (.int .i64 (wrap64 (wr64 A.t.adds + 1)))).frozen? ⟨p, 5 + i, none⟩ = false ∧
      Sat ((w1.setCell ⟨p, 21, none⟩ (.int .i64 (wrap64 (wr64 A.t.adds + 1)))).setCell ⟨p, 5 + i, none⟩ (.int .u64 (IntKind.u64.wrap ((x : Int) + (y : Int))))) (arAt p ((A.set 0 i (addW x y)).tick fun t => { t with adds := t.adds + 1 }) * R) ∧ Kept w w1) := by
    intro w1 hb1
    have H2 := H1.below hb1
    refine ⟨?_, H2.cell 21, H2.free 21, (H2.cell (5 + i)).trans (by rw [fixed_cell _ _ _ hi9, hx]), (World.frozen?_setCell _ _ _ _).trans (H2.free (5 + i)), ?_, ((Kept.refl w).alloc _).below hb1⟩
    · exact (hb1.cell (p := ⟨w.heap.size, 1, none⟩) (by simp)).trans (by rw [World.cell?_alloc_at _ _ _ _ rfl]; rfl)
    · have H3 := (H2.set 21 (.int .i64 (wr64 (A.t.adds + 1)))).set (5 + i) (.int .u64 (addW x y))
      rw [wr64_succ, addW_eq]
      rw [show (arCells A ps pb).setIfInBounds 21 (.int .i64 (wr64 (A.t.adds + 1))) = arCells (A.tick fun t => { t with adds := t.adds + 1 }) ps pb from rfl, fixed_set _ _ _ hi9] at H3
      exact (fixed_shut _ ((hi.set 0 i _ (addW_lt x y)).tick _) H3).swap.right
  clear H0 H1 H hx hi
  go_enter Try.func17, Try.ntmps17
  go_wp2_with fail
  refine Hat.out.mono ?_; rintro e w1 ⟨rfl, hb1⟩
  obtain ⟨c1, c2, c3, c4, c5, hS, hK⟩ := hB.out w1 hb1
  have HS := Lib.hid hS
  clear hS hb1
  go_wp2
  go_ret2
  exact ⟨rfl, HS.out, by repeat first | exact hK | refine Kept.setCell ?_ _ _⟩
end Go.Proofs.Ytnkikhhiaecebaa

/- Package count (layer 12): a slot's path is counted, one node at a step. -/
namespace Go.Proofs.Ytnkikhhiaecebaa
open Go.RowKit

structure Cnt where
  sg : Nat
  s : Nat
  first : Nat
  last : Nat
  by' : Nat
def cntNext (c f l : Nat) : Value := if f < l then .func (.func 13) #[.pointer (some ⟨c, 0, none⟩)] #[] else .nilFunc
def cntGear (c : Nat) (st : Cnt) : Value := cntNext c st.first st.last
def cntCells (gear : Value) (p : Nat) (st : Cnt) (pv : Value) : Array Value :=
  #[gear, .pointer (some ⟨p, 0, none⟩), .int .u64 st.sg, .int .i64 st.s, .int .i64 (segG st.s), pv, .int .i64 st.first, .int .i64 st.last, .int .u64 st.by']
def cntAt (c p : Nat) (st : Cnt) : Assn := Assn.ex fun pv : Value => own c (.cells (cntCells (cntGear c st) p st pv) 3 (0, 0)) * rowAt 3 pv (ints (pathOf st.s))

end Go.Proofs.Ytnkikhhiaecebaa
/- Package count: made, stepped, done. -/
namespace Go.Proofs.Ytnkikhhiaecebaa
open Go.RowKit

end Go.Proofs.Ytnkikhhiaecebaa
/- The arena's faults (layer 3): handles that lead nowhere, words that there aren't. -/
namespace Go.Proofs.Ytnkikhhiaecebaa
open Go.RowKit
set_option maxRecDepth 100000

theorem rows_slices : ∀ {bs : List Blk} {w : World} {R : Assn}, Sat w (rowsAt bs * R) → ∀ b ∈ bs, ∃ g n c, b.v = .slice g n c
  | [], _, _, _, _, hb => by cases hb
  | a :: l, w, R, H, b, hb => by
    have H1 : Sat w (rowAt 29 a.v (u64s a.ws) * (rowsAt l * R)) := H.cast (by simp only [rowsAt]; ac_rfl)
    rcases List.mem_cons.1 hb with rfl | hb
    · rcases rowAt_open H1 with ⟨h, _, _⟩ | ⟨g, cap, cur, h, _⟩
      · exact ⟨_, _, _, h⟩
      · exact ⟨_, _, _, h⟩
    · exact rows_slices H1.right b hb
theorem ar_slices {p : Nat} {A : Ar} {w : World} {R : Assn} (H : Sat w (arAt p A * R)) : ∀ b ∈ A.bs, ∃ g n c, b.v = .slice g n c := by
  obtain ⟨ps, pb, hi, H1⟩ := arAt_open H
  exact rows_slices (H1.cast (Q := rowsAt A.bs * (own p (.cells (arCells A ps pb) 172 (0, 0)) * (stkAt ps A.s * (mapAt pb (A.bs.map ent) * R)))) (by ac_rfl))
set_option maxHeartbeats 800000 in
theorem find_none (p h : Nat) (A : Ar) (w : World) (hs : Sees w p A) (hv : ∀ b ∈ A.bs, ∃ g n c, b.v = .slice g n c) (hh : h < TW) (hf : A.find h = none) :
    Calls Try.prog 93 #[.pointer (some ⟨p, 0, none⟩), .int .u64 h] w fun e w' => e = .returned (.tuple #[.slice none 0 0, .bool false]) ∧ Below w.heap.size w w' := by
  obtain ⟨pb, es, clock, hc, hm, hl⟩ := hs.look
  have hp := hs.lt
  have hwr : IntKind.i64.wrap ((h : Int) % 65536) = (h : Int) % 65536 := IntWalk.i64_in _ (by omega)
  have hlt : pb < w.heap.size := heap_lt hm
  have hcase : look (A.bs.map ent) ((h % 65536 : Nat) : Int) = none ∨ ∃ b : Blk, b.h ≠ h ∧ look (A.bs.map ent) ((h % 65536 : Nat) : Int) = some (.agg #[.int .u64 b.h, b.v]) := by
    rcases find_look hs.inv h with ⟨b', h1, _⟩ | ⟨_, h2⟩
    · rw [hf] at h1; cases h1
    · exact h2
  have hr1 : (Instr.lookup 170 (.map (some pb)) (.int .i64 ((h : Int) % 65536)) true).run Try.prog w.drew = .ok (.tuple #[(look (A.bs.map ent) ((h % 65536 : Nat) : Int)).getD (.agg #[.int .u64 0, .slice none 0 0]), .bool (look (A.bs.map ent) ((h % 65536 : Nat) : Int)).isSome]) w.drew := by
    have := lookup_ok (P := Try.prog) (w := w.drew) hm hl Try.underlying170 Try.underlying3 (zero_block _) ((h % 65536 : Nat) : Int)
    simpa using this
  have hr2 : (Instr.lookup 170 (.map (some pb)) (.int .i64 ((h : Int) % 65536)) true).run Try.prog (w.alloc (.cells #[.int .u64 0, .slice none 0 0] 179)).drew = .ok (.tuple #[(look (A.bs.map ent) ((h % 65536 : Nat) : Int)).getD (.agg #[.int .u64 0, .slice none 0 0]), .bool (look (A.bs.map ent) ((h % 65536 : Nat) : Int)).isSome]) (w.alloc (.cells #[.int .u64 0, .slice none 0 0] 179)).drew := by
    have := lookup_ok (P := Try.prog) (w := (w.alloc (.cells #[.int .u64 0, .slice none 0 0] 179)).drew) ((Below.heap_alloc _ _ _ hlt).trans hm) hl Try.underlying170 Try.underlying3 (zero_block _) ((h % 65536 : Nat) : Int)
    simpa using this
  clear hl hm hf hs
  rcases hcase with hn | ⟨b, hne, hb⟩
  · rw [hn] at hr1 hr2
    simp only [Option.getD_none, Option.isSome_none] at hr1 hr2
    clear hn hv
    go_enter Try.func93, Try.ntmps93
    go_wp2
    go_region_with (go_at_call 95; refine (block_any h _ hh).mono ?_; rintro e w' ⟨rfl, rfl⟩)
    all_goals (go_wp2; go_ret2; exact ⟨rfl, ((Below.refl _ _).alloc (Nat.le_refl _) _).drew⟩)
  · rw [hb] at hr1 hr2
    simp only [Option.getD_some, Option.isSome_some] at hr1 hr2
    have hneq : ((b.h : Int) != (h : Int)) = true := by rw [bne_iff_ne]; omega
    obtain ⟨g, n, c, hgv⟩ : ∃ g n c, b.v = .slice g n c := by
      unfold look at hb
      cases hf : (A.bs.map ent).find? (fun y => y.1 == ((h % 65536 : Nat) : Int)) with
      | none => rw [hf] at hb; cases hb
      | some y =>
        rw [hf] at hb
        obtain ⟨b', hb', rfl⟩ := List.mem_map.1 (List.mem_of_find?_eq_some hf)
        simp only [Option.map_some, ent, Option.some.injEq, Value.agg.injEq] at hb
        obtain ⟨g, n, c, e⟩ := hv b' hb'
        have e2 : b'.v = b.v := by
          have := congrArg (fun a : Array Value => a.toList) hb
          simp only [List.cons.injEq] at this
          exact this.2.1
        exact ⟨g, n, c, by rw [← e2, e]⟩
    rw [hgv] at hr1 hr2
    clear hb hgv hv
    go_enter Try.func93, Try.ntmps93
    go_wp2
    go_region_with (go_at_call 95; refine (block_any h _ hh).mono ?_; rintro e w' ⟨rfl, rfl⟩)
    all_goals (go_wp2; go_ret2; exact ⟨rfl, ((Below.refl _ _).alloc (Nat.le_refl _) _).drew⟩)

def Ar.fault (A : Ar) : Ar := { A with faults := A.faults + 1 }
theorem ArInv.fault {A : Ar} (hi : ArInv A) : ArInv A.fault :=
  ⟨hi.cap, hi.used, hi.peak, hi.births, hi.fixed, hi.nums, hi.range, hi.words, hi.apart, hi.births', hi.sum, hi.backs, hi.high, hi.bnd, hi.hmax⟩
theorem fault_any (p : Nat) (c : Int) (A : Ar) (w : World) {R : Assn} (H : Sat w (arAt p A * R)) :
    Calls Try.prog 94 #[.pointer (some ⟨p, 0, none⟩), .int .i64 c] w fun e w' => e = .returned (.int .i64 c) ∧ Sat w' (arAt p A.fault * R) ∧ Kept w w' := by
  obtain ⟨ps, pb, hi, H1⟩ := arAt_open H
  have c3 : w.cell? ⟨p, 3, none⟩ = some (.int .i64 (wr64 A.faults)) := H1.cell 3
  have z3 := H1.free 3
  have hS : Go.RowKit.Hid (Sat (w.setCell ⟨p, 3, none⟩ (.int .i64 (wrap64 (wr64 A.faults + 1)))) (arAt p A.fault * R)) := by
    rw [wr64_succ]
    exact arAt_shut (A := A.fault) hi.fault (H1.set 3 (.int .i64 (wr64 (A.faults + 1))))
  clear H H1 hi
  go_enter Try.func94, Try.ntmps94
  go_wp2
  go_ret
  exact ⟨rfl, hS.out, (Kept.refl w).setCell _ _⟩
theorem at_gone (p h : Nat) (i : Int) (A : Ar) (w : World) {R : Assn} (H : Sat w (arAt p A * R)) (hh : h < TW) (h0 : h ≠ 0) (hf : A.find h = none) :
    Calls Try.prog 92 #[.pointer (some ⟨p, 0, none⟩), .agg #[.int .u64 h, .int .i64 i]] w fun e w' => e = .returned (.tuple #[.slice none 0 0, .int .i64 23]) ∧ Sat w' (arAt p A.fault * R) ∧ Kept w w' := by
  have hne : ((h : Int) != 0) = true := by rw [bne_iff_ne]; omega
  have H0 := H.alloc (.cells #[.int .u64 h, .int .i64 i] 34)
  have HK : Go.RowKit.Hid (Kept w (w.alloc (.cells #[.int .u64 h, .int .i64 i] 34))) := (Kept.refl w).alloc _
  obtain ⟨ps, pb, hi, H1⟩ := arAt_open H0.swap
  have hsee := sees_of hi H1
  have hp := H1.lt
  have HF := Lib.hid (find_none p h A _ hsee (ar_slices H) hh hf)
  have HS : Go.RowKit.Hid (∀ w1, Below (w.alloc (.cells #[.int .u64 h, .int .i64 i] 34)).heap.size (w.alloc (.cells #[.int .u64 h, .int .i64 i] 34)) w1 → Calls Try.prog 94 #[.pointer (some ⟨p, 0, none⟩), .int .i64 23] w1 fun e w' => e = .returned (.int .i64 23) ∧ Sat w' (arAt p A.fault * R) ∧ Kept w1 w') := by
    intro w1 hb
    exact fault_any p 23 A w1 (H0.right.below hb)
  have HK2 : Go.RowKit.Hid (∀ w1 w2, Below (w.alloc (.cells #[.int .u64 h, .int .i64 i] 34)).heap.size (w.alloc (.cells #[.int .u64 h, .int .i64 i] 34)) w1 → Kept w1 w2 → Kept w w2) := fun w1 w2 hb hk => (HK.out.below hb).trans hk
  clear H H0 H1 hi hsee hf HK
  go_enter Try.func92, Try.ntmps92
  go_wp2_with fail
  refine (HF.out).mono ?_; rintro e w1 ⟨rfl, hb1⟩
  go_wp2_with fail
  refine (HS.out w1 hb1).mono ?_; rintro e w2 ⟨rfl, hs2, hk2⟩
  have hk3 := HK2.out w1 w2 hb1 hk2
  have Hs2 := Lib.hid hs2
  clear hs2 hk2 hb1
  go_wp2
  go_ret2
  exact ⟨rfl, Hs2.out, hk3⟩
theorem at_range_fixed (p : Nat) (i : Int) (A : Ar) (w : World) {R : Assn} (H : Sat w (arAt p A * R)) (hi : i < 0 ∨ 9 ≤ i) :
    Calls Try.prog 92 #[.pointer (some ⟨p, 0, none⟩), .agg #[.int .u64 0, .int .i64 i]] w fun e w' => e = .returned (.tuple #[.slice none 0 0, .int .i64 24]) ∧ Sat w' (arAt p A.fault * R) ∧ Kept w w' := by
  have H0 := (H.alloc (.cells #[.int .u64 0, .int .i64 i] 34)).right
  have HS := Lib.hid (fun n => fault_any p 24 A _ (H0.draws n))
  have HK : Go.RowKit.Hid (Kept w (w.alloc (.cells #[.int .u64 0, .int .i64 i] 34))) := (Kept.refl w).alloc _
  clear H H0
  rcases hi with hi | hi
  · have hd : decide (i < 0) = true := by simpa using hi
    go_enter Try.func92, Try.ntmps92
    go_wp2_with fail
    refine (HS.out 0).mono ?_; rintro e w2 ⟨rfl, hs2, hk2⟩
    have hk3 := HK.out.trans hk2
    have Hs2 := Lib.hid hs2
    clear hs2 hk2
    go_wp2
    go_ret2
    exact ⟨rfl, Hs2.out, hk3⟩
  · have hd : decide (i < 0) = false := by simp; omega
    have hd2 : decide (9 ≤ i) = true := by simpa using hi
    go_enter Try.func92, Try.ntmps92
    go_wp2_with fail
    refine (HS.out 0).mono ?_; rintro e w2 ⟨rfl, hs2, hk2⟩
    have hk3 := HK.out.trans hk2
    have Hs2 := Lib.hid hs2
    clear hs2 hk2
    go_wp2
    go_ret2
    exact ⟨rfl, Hs2.out, hk3⟩
theorem at_range_block (p h g n c : Nat) (i : Int) (A : Ar) (b : Blk) (w : World) {R : Assn} (H : Sat w (arAt p A * R)) (hh : h < TW) (h0 : h ≠ 0) (hf : A.find h = some b) (hv : b.v = .slice (some ⟨g, 0, none⟩) n c) (hi : i < 0 ∨ n ≤ i) :
    Calls Try.prog 92 #[.pointer (some ⟨p, 0, none⟩), .agg #[.int .u64 h, .int .i64 i]] w fun e w' => e = .returned (.tuple #[.slice none 0 0, .int .i64 24]) ∧ Sat w' (arAt p A.fault * R) ∧ Kept w w' := by
  have hne : ((h : Int) != 0) = true := by rw [bne_iff_ne]; omega
  have H0 := H.alloc (.cells #[.int .u64 h, .int .i64 i] 34)
  have HK : Go.RowKit.Hid (Kept w (w.alloc (.cells #[.int .u64 h, .int .i64 i] 34))) := (Kept.refl w).alloc _
  obtain ⟨ps, pb, hin, H1⟩ := arAt_open H0.swap
  have hsee := sees_of hin H1
  have hp := H1.lt
  have HF := Lib.hid (find_yes p h g n c A b _ hsee hh hf hv)
  have HS : Go.RowKit.Hid (∀ w1, Below (w.alloc (.cells #[.int .u64 h, .int .i64 i] 34)).heap.size (w.alloc (.cells #[.int .u64 h, .int .i64 i] 34)) w1 → Calls Try.prog 94 #[.pointer (some ⟨p, 0, none⟩), .int .i64 24] w1 fun e w' => e = .returned (.int .i64 24) ∧ Sat w' (arAt p A.fault * R) ∧ Kept w1 w') := by
    intro w1 hb
    exact fault_any p 24 A w1 (H0.right.below hb)
  have HK2 : Go.RowKit.Hid (∀ w1 w2, Below (w.alloc (.cells #[.int .u64 h, .int .i64 i] 34)).heap.size (w.alloc (.cells #[.int .u64 h, .int .i64 i] 34)) w1 → Kept w1 w2 → Kept w w2) := fun w1 w2 hb hk => (HK.out.below hb).trans hk
  clear H H0 H1 hin hsee hf HK hv
  rcases hi with hi | hi
  · have hd : decide (i < 0) = true := by simpa using hi
    go_enter Try.func92, Try.ntmps92
    go_wp2_with fail
    refine (HF.out).mono ?_; rintro e w1 ⟨rfl, hb1⟩
    have e1 := (hb1.cell (p := ⟨w.heap.size, 1, none⟩) (by simp)).trans (show (w.alloc (.cells #[.int .u64 h, .int .i64 i] 34)).cell? ⟨w.heap.size, 1, none⟩ = some (.int .i64 i) by go_simp)
    go_wp2_with fail
    refine (HS.out w1 hb1).mono ?_; rintro e w2 ⟨rfl, hs2, hk2⟩
    have hk3 := HK2.out w1 w2 hb1 hk2
    have Hs2 := Lib.hid hs2
    clear hs2 hk2 hb1
    go_wp2
    go_ret2
    exact ⟨rfl, Hs2.out, hk3⟩
  · have hd : decide (i < 0) = false := by simp; omega
    have hd2 : decide ((n : Int) ≤ i) = true := by simpa using hi
    go_enter Try.func92, Try.ntmps92
    go_wp2_with fail
    refine (HF.out).mono ?_; rintro e w1 ⟨rfl, hb1⟩
    have e1 := (hb1.cell (p := ⟨w.heap.size, 1, none⟩) (by simp)).trans (show (w.alloc (.cells #[.int .u64 h, .int .i64 i] 34)).cell? ⟨w.heap.size, 1, none⟩ = some (.int .i64 i) by go_simp)
    go_wp2_with fail
    refine (HS.out w1 hb1).mono ?_; rintro e w2 ⟨rfl, hs2, hk2⟩
    have hk3 := HK2.out w1 w2 hb1 hk2
    have Hs2 := Lib.hid hs2
    clear hs2 hk2 hb1
    go_wp2
    go_ret2
    exact ⟨rfl, Hs2.out, hk3⟩
end Go.Proofs.Ytnkikhhiaecebaa

/- A copy of an arena. -/
namespace Go.Proofs.Ytnkikhhiaecebaa
open Go.RowKit

theorem valSetAll_eq : ∀ (vs cs : List Value) (o : Nat), cs.length = o + vs.length → valSetAll cs o vs = cs.take o ++ vs
  | [], cs, o, h => by simp only [valSetAll, List.append_nil]; rw [List.take_of_length_le (by simp at h; omega)]
  | v :: vs, cs, o, h => by
    simp only [List.length_cons] at h
    simp only [valSetAll]
    rw [valSetAll_eq vs _ (o + 1) (by simp; omega)]
    have ho : o < cs.length := by omega
    rw [List.take_set, List.take_succ_eq_append_getElem ho, List.set_append_right _ _ (by simp; omega)]
    simp [Nat.min_eq_left (Nat.le_of_lt ho)]
def key3 (b : Blk) : Nat × Nat × List Nat := (b.n, b.h, b.ws)
def cloAt (p : Nat) (A : Ar) (bs : List Blk) : Assn := Assn.ex fun d : Nat × Nat =>
  own p (.cells (arCells A d.1 d.2) 172 (0, 0)) * (stkAt d.1 A.s * (mapAt d.2 (bs.map ent) * rowsAt bs))
theorem dbs_perm {A : Ar} (hi : ArInv A) {dbs : List Blk} (hs : ∀ b ∈ dbs, b ∈ A.bs) (hp : (dbs.map ent).Perm (A.bs.map ent)) : dbs.Perm A.bs := by
  have hn : (dbs.map (·.n)).Perm (A.bs.map (·.n)) := by
    have := hp.map fun x : Int × Value => x.1.toNat
    simpa [List.map_map, Function.comp_def, ent] using this
  have hnd : (dbs.map (·.n)).Nodup := hn.nodup_iff.2 hi.apart
  have hnd1 : dbs.Nodup := List.Pairwise.of_map _ (fun a b (h : a.n ≠ b.n) e => h (congrArg Blk.n e)) hnd
  have hnd2 : A.bs.Nodup := List.Pairwise.of_map _ (fun a b (h : a.n ≠ b.n) e => h (congrArg Blk.n e)) hi.apart
  refine (List.perm_ext_iff_of_nodup hnd1 hnd2).2 fun b => ⟨hs b, fun hb => ?_⟩
  obtain ⟨c, hc, e⟩ := List.mem_map.1 (hn.mem_iff.2 (List.mem_map.2 ⟨b, hb, rfl⟩))
  have h1 := hi.range b hb
  have h2 := hi.range c (hs c hc)
  have hap := hi.apart
  have : c = b := by
    have h3 := hs c hc
    generalize A.bs = bs at hap hb h3
    induction bs with
    | nil => cases hb
    | cons a l ih =>
      simp only [List.map_cons, List.nodup_cons, List.mem_map] at hap
      rcases List.mem_cons.1 hb with rfl | hb'
      · rcases List.mem_cons.1 h3 with rfl | h3'
        · rfl
        · exact absurd ⟨c, h3', e⟩ hap.1
      · rcases List.mem_cons.1 h3 with rfl | h3'
        · exact absurd ⟨b, hb', e.symm⟩ hap.1
        · exact ih hap.2 hb' h3'
  exact this ▸ hc

set_option maxHeartbeats 3200000 in
set_option maxRecDepth 100000 in
theorem ar_clone (p : Nat) (A : Ar) (w : World) {R : Assn} (H : Sat w (arAt p A * R)) (hl : A.s.back.length ≤ 70000) :
    Calls Try.prog 29 #[.pointer (some ⟨p, 0, none⟩)] w fun e w' => ∃ q bs, e = .returned (.pointer (some ⟨q, 0, none⟩)) ∧ (bs.map key3).Perm (A.bs.map key3) ∧ Sat w' (cloAt q A bs * (arAt p A * R)) ∧ Kept w w' := by
  obtain ⟨ps, pb, hi, H1⟩ := arAt_open H
  have HH := Lib.hid H1
  have HI := Lib.hid hi
  have hb := H1.block
  have c14 := H1.cell 14
  have c15 := H1.cell 15
  simp [arCells] at c14 c15
  have hlt := H1.lt
  have hinfo : (Try.prog.info? 172).map (·.size) = some (arCells A ps pb).size := by
    rw [show (arCells A ps pb).size = 22 from rfl]; kernel_rfl
  have Hst := Lib.hid H1
  obtain ⟨X, hX⟩ : ∃ X, X = arCells A ps pb := ⟨_, rfl⟩
  have hXs : X.size = 22 := by rw [hX]; rfl
  have hX1 : X.all (·.oneCell') = true := by rw [hX]; simp [arCells, Value.oneCell']
  rw [← hX] at hb hinfo Hst
  have hx14 : X[14]? = some (.pointer (some ⟨ps, 0, none⟩)) := by rw [hX]; rfl
  have hx15 : X[15]? = some (.map (some pb)) := by rw [hX]; rfl
  have HX := Lib.hid hX
  have Hst := Lib.hid Hst.out
  obtain ⟨Z, hZ⟩ : ∃ Z : Array Value, Z = #[Value.int .i64 0, .int .i64 0, .int .i64 0, .int .i64 0, .int .u64 0, .int .u64 0, .int .u64 0, .int .u64 0, .int .u64 0, .int .u64 0, .int .u64 0, .int .u64 0, .int .u64 0, .int .u64 0, .pointer none, .map none, .int .i64 0, .int .i64 0, .int .i64 0, .int .i64 0, .int .i64 0, .int .i64 0] := ⟨_, rfl⟩
  have hZs : Z.size = 22 := by rw [hZ]; rfl
  have Hst2 : Go.RowKit.Hid (Sat ((w.alloc (.cells Z 172)).setCells w.heap.size 0 X.toList) (own w.heap.size (.cells X 172 (0, 0)) * (own p (.cells X 172 (0, 0)) * (stkAt ps A.s * (mapAt pb (A.bs.map ent) * (rowsAt A.bs * R)))))) := by
    have h1 := Hst.out.alloc (.cells Z 172)
    have h2 := Sat.setCells X.toList Z.toList 0 _ (by simpa using h1)
    refine h2.cast ?_
    rw [valSetAll_eq X.toList Z.toList 0 (by simp [hZs, hXs]), List.take_zero, List.nil_append, Array.toArray_toList]
  have Hk2 : Go.RowKit.Hid (Kept w ((w.alloc (.cells Z 172)).setCells w.heap.size 0 X.toList)) := Kept.setCells _ _ _ ((Kept.refl w).alloc _)
  have Hth : Go.RowKit.Hid ((w.alloc (.cells Z 172)).there w.heap.size 0 X.size) := by
    intro j hj
    have h1 := Hst.out.alloc (.cells Z 172)
    have hj' : j < Z.size := by omega
    rw [h1.cell, h1.free]
    simp [hj']
  have HZ := Lib.hid hZ
  clear H H1 hX
  rw [hZ] at Hst2 Hk2 Hth
  go_enter Try.func29, Try.ntmps29
  go_wp2_with (first | (refine wpList_load_row rfl 172 (.tmp 9) rfl p rfl 172 X (0, 0) _ hb Try.underlying172 rfl hinfo ?_) | (refine wpList_store_mid rfl 172 (.tmp 3) (.tmp 10) rfl w.heap.size 0 X rfl rfl Hth.out hinfo hX1 ?_; generalize hw2 : World.setCells _ _ _ _ = w2; rw [hw2] at Hst2 Hk2; clear hw2 Hth c14 c15 hb; have c14 := Hst2.out.swap.cell 14; rw [hx14] at c14))
  have hmm := @run_makeMap Try.prog
  have Hs3 := Hst2.out.cast (Q := stkAt ps A.s * (own w.heap.size (.cells X 172 (0, 0)) * (own p (.cells X 172 (0, 0)) * (mapAt pb (A.bs.map ent) * (rowsAt A.bs * R))))) (by ac_rfl)
  clear Hst Hst2 HZ hZ
  generalize w.heap.size = q at *
  refine (stk_clone ps A.s w2 Hs3 hl).mono ?_; rintro e w3 ⟨pc, rfl, hs3, hk3⟩
  have hs3 := hs3.cast (Q := own q (.cells X 172 (0, 0)) * (own p (.cells X 172 (0, 0)) * (stkAt pc A.s * (stkAt ps A.s * (mapAt pb (A.bs.map ent) * (rowsAt A.bs * R)))))) (by ac_rfl)
  have c15 := hs3.swap.cell 15
  have y14 := hs3.cell 14
  have y15 := hs3.cell 15
  have z14 := hs3.free 14
  have z15 := hs3.free 15
  rw [hx15] at c15 y15
  rw [hx14] at y14
  have hq3 := hs3.lt
  have hp3 := hs3.swap.lt
  have hqp := hs3.ne
  have Hs4 : Go.RowKit.Hid (Sat (((w3.setCell ⟨q, 14, none⟩ (.pointer (some ⟨pc, 0, none⟩))).setCell ⟨q, 15, none⟩ (.map (some w3.heap.size))).alloc (.map #[] 0))
      (mapAt pb (A.bs.map ent) * (own q (.cells (arCells A pc w3.heap.size) 172 (0, 0)) * (stkAt pc A.s * (mapAt w3.heap.size (([] : List Blk).map ent) * (rowsAt [] * (own p (.cells X 172 (0, 0)) * (stkAt ps A.s * (rowsAt A.bs * R))))))))) := by
    have h1 := ((hs3.set 14 (.pointer (some ⟨pc, 0, none⟩))).set 15 (.map (some w3.heap.size))).alloc (.map #[] 0)
    have e1 : ((X.setIfInBounds 14 (.pointer (some ⟨pc, 0, none⟩))).setIfInBounds 15 (.map (some w3.heap.size))) = arCells A pc w3.heap.size := by rw [HX.out]; simp [arCells]
    rw [e1] at h1
    simp only [World.size_setCell] at h1
    have h2 := mapAt_shut mapL_nil h1
    refine h2.cast ?_
    show _ = _ * (_ * (_ * (mapAt _ [] * (1 * _))))
    rw [Assn.one_mul]
    ac_rfl
  have Hk4 : Go.RowKit.Hid (Kept w (((w3.setCell ⟨q, 14, none⟩ (.pointer (some ⟨pc, 0, none⟩))).setCell ⟨q, 15, none⟩ (.map (some w3.heap.size))).alloc (.map #[] 0))) := (((Hk2.out.trans hk3).setCell ⟨q, 14, none⟩ (.pointer (some ⟨pc, 0, none⟩))).setCell _ _).alloc _
  clear hs3 hk3 Hk2 hinfo hX1
  go_wp2_with (at_range; refine wpList_range_at _ rfl (.tmp 22) 170 _ _ rfl Try.underlying170 pb (A.bs.map ent) rfl Hs4.out ?_; intro w5 hs5 hk5 hb5)
  have Hk5 := Lib.hid (Hk4.out.trans hk5)
  clear Hs4 Hk4 c15 y14 y15 z14 z15 hk5 hb5 hmm
  generalize Array.size (World.heap (World.alloc _ _)) = r at *
  generalize w3.heap.size = pq at *
  go_frame
  clear Hst hXs hx14 hx15 Hs3 hs3 c14
  go_loopw [4, 5] (fun _ _ wr => ∃ (dbs bs : List Blk), (∀ b ∈ dbs, b ∈ A.bs) ∧ bs.map key3 = dbs.map key3 ∧ Kept w wr ∧
      Sat wr (rangingAt r pb (A.bs.map ent) (dbs.map ent) * (own q (.cells (arCells A pc pq) 172 (0, 0)) * (stkAt pc A.s * (mapAt pq (bs.map ent) * (rowsAt bs * (own p (.cells X 172 (0, 0)) * (stkAt ps A.s * (rowsAt A.bs * R)))))))))
    (fun _ _ wr => rLeft wr pb r)
  case atStart => exact ⟨[], [], by simp, rfl, Hk5.out, hs5⟩
  case round =>
    obtain ⟨dbs, bs, hsub, hkey, hk, hs⟩ := hrel
    go_wp2_with (at_next; refine wpList_next_at _ rfl (.tmp 23) rfl r pb (A.bs.map ent) (dbs.map ent) rfl hs ?_ ?_)
    · intro hperm
      have hd := dbs_perm HI.out hsub hperm
      have hfin : Sat wr (cloAt q A bs * (arAt p A * R)) := by
        have h1 := rangingAt_map hs
        refine Sat.mk_ex_mul (pc, pq) ?_
        refine Sat.cast (P := arAt p A * (own q (.cells (arCells A pc pq) 172 (0, 0)) * (stkAt pc A.s * (mapAt pq (bs.map ent) * rowsAt bs)) * R)) ?_ (by ac_rfl)
        refine arAt_shut (ps := ps) (pb := pb) HI.out ?_
        rw [← HX.out]
        exact h1.cast (by ac_rfl)
      have hkf : (bs.map key3).Perm (A.bs.map key3) := by rw [hkey]; exact hd.map key3
      clear hs hs5
      go_wp2
      go_ret
      exact ⟨q, bs, rfl, hkf, hfin, hk⟩
    · intro x v w6 b hb hent hs6 hk6 hz6 hlt6 hen6
      obtain ⟨l1, l2, hl12⟩ := List.append_of_mem hb
      have hrows := rows_mid l1 l2 b
      rw [← hl12] at hrows
      have e1 : x = b.n ∧ v = .agg #[.int .u64 b.h, b.v] := by
        have := hent
        simp only [ent, Prod.mk.injEq] at this
        exact ⟨this.1.symm, this.2.symm⟩
      obtain ⟨rfl, rfl⟩ := e1
      obtain ⟨va, vn, vc, hv⟩ := rowAt_slice (hs6.cast (Q := rowAt 29 b.v (u64s b.ws) * (rangingAt r pb (A.bs.map ent) (dbs.map ent ++ [((b.n : Int), .agg #[.int .u64 b.h, b.v])]) * (own q (.cells (arCells A pc pq) 172 (0, 0)) * (stkAt pc A.s * (mapAt pq (bs.map ent) * (rowsAt bs * (own p (.cells X 172 (0, 0)) * (stkAt ps A.s * (rowsAt (l1 ++ l2) * R))))))))) (by rw [hrows]; ac_rfl))
      rw [hv] at hs6 hen6 hrows
      obtain ⟨Y, hY⟩ : ∃ Y : Assn, Y = rangingAt r pb (A.bs.map ent) (dbs.map ent ++ [((b.n : Int), .agg #[.int .u64 b.h, .slice va vn vc])]) * (stkAt pc A.s * (rowsAt bs * (own p (.cells X 172 (0, 0)) * (stkAt ps A.s * (rowsAt (l1 ++ l2) * R))))) := ⟨_, rfl⟩
      obtain ⟨Rw, hRw⟩ : ∃ Rw : Value → Assn, Rw = fun v => rowAt 29 v (u64s b.ws) := ⟨_, rfl⟩
      obtain ⟨P0, hP0⟩ : ∃ P0 : Assn, P0 = own q (.cells (arCells A pc pq) 172 (0, 0)) := ⟨_, rfl⟩
      have Hs6 : Go.RowKit.Hid (Sat w6 (P0 * (Rw (.slice va vn vc) * (mapAt pq (bs.map ent) * Y)))) := by
        rw [hY, hRw, hP0]
        show Sat _ _
        refine hs6.cast ?_
        rw [hrows]
        simp only []
        ac_rfl
      have hbr := HI.out.range b hb
      have HC : Go.RowKit.Hid (∀ w (R : Assn), Sat w (Rw (.slice va vn vc) * R) → Calls Try.prog 91 #[.slice va vn vc] w fun e w' => ∃ a n c, e = .returned (.slice a n c) ∧ Sat w' (Rw (.slice a n c) * (Rw (.slice va vn vc) * R)) ∧ Below w.heap.size w w') := by
        subst hRw
        intro w R h
        refine (clone_u64 _ b.ws w h hbr.2.2.2.2.2.1 hbr.2.2.2.2.2.2).mono ?_
        rintro e w' ⟨v', rfl, h1, h2⟩
        obtain ⟨a, n, c, rfl⟩ := rowAt_slice h1
        exact ⟨a, n, c, rfl, h1, h2⟩
      have hPc : Go.RowKit.Hid (∀ w X, Sat w (P0 * X) → w.cell? ⟨q, 15, none⟩ = some (.map (some pq))) := by
        subst hP0
        exact fun w X h => h.cell 15
      have hnew : Go.RowKit.Hid (look (bs.map ent) (b.n : Int) = none) := by
        have h1 := ranging_once hs6
        rw [List.map_append, List.map_map, List.nodup_append] at h1
        show look _ _ = none
        simp only [look, Option.map_eq_none_iff, List.find?_eq_none]
        intro x hx e
        obtain ⟨c, hc, rfl⟩ := List.mem_map.1 hx
        have hc3 : key3 c ∈ dbs.map key3 := by rw [← hkey]; exact List.mem_map.2 ⟨c, hc, rfl⟩
        obtain ⟨d, hd, ed⟩ := List.mem_map.1 hc3
        simp only [key3, Prod.mk.injEq] at ed
        refine h1.2.2 (d.n : Int) (List.mem_map.2 ⟨d, hd, rfl⟩) (b.n : Int) (by simp) ?_
        have e' : ((c.n : Int) == (b.n : Int)) = true := e
        rw [ed.1]
        exact eq_of_beq e'
      clear hz6
      have d15 := hPc.out _ _ Hs6.out
      have hyq : q < w6.heap.size := by
        have := Hs6.out
        rw [hP0] at this
        exact this.lt
      have HRw := Lib.hid hRw
      have hleft := rLeft_eq hs
      rw [List.length_map, List.length_map] at hleft
      clear hs hs5 hs6 hRw
      go_wp2_with fail
      have Hs7 := Lib.hid (Hs6.out.alloc (.cells #[.int .u64 b.h, .slice va vn vc] 179))
      have Hk7 := Lib.hid ((hk.trans hk6).alloc (.cells #[.int .u64 b.h, .slice va vn vc] 179))
      generalize World.alloc w6 _ = w7 at *
      generalize w6.heap.size = y at *
      obtain ⟨P1, hP1⟩ : ∃ P1 : Assn, P1 = own y (.cells #[.int .u64 b.h, .slice va vn vc] 179 (0, 0)) := ⟨_, rfl⟩
      rw [← hP1] at Hs7
      have Hs7 : Go.RowKit.Hid (Sat w7 (P1 * (P0 * (Rw (.slice va vn vc) * (mapAt pq (bs.map ent) * Y))))) := Hs7
      have hS : Go.RowKit.Hid (∀ w X, Sat w (P1 * (P0 * X)) → w.cell? ⟨q, 15, none⟩ = some (.map (some pq)) ∧ w.cell? ⟨y, 0, none⟩ = some (.int .u64 b.h) ∧ w.cell? ⟨y, 1, none⟩ = some (.slice va vn vc)) := by
        subst hP1
        exact fun w X h => ⟨hPc.out _ _ h.swap, h.cell 0, h.cell 1⟩
      have HM : Go.RowKit.Hid (∀ w8 ca cn cc, Sat w8 (Rw (.slice ca cn cc) * (Rw (.slice va vn vc) * (P1 * (P0 * (mapAt pq (bs.map ent) * Y))))) →
          ∃ w9, (Instr.mapUpdate 170 (.map (some pq)) (.int .i64 b.n) (.agg #[.int .u64 b.h, .slice ca cn cc])).run Try.prog w8 = .ok () w9 ∧
            Sat w9 (mapAt pq (bs.map ent ++ [((b.n : Int), .agg #[.int .u64 b.h, .slice ca cn cc])]) * (Rw (.slice ca cn cc) * (Rw (.slice va vn vc) * (P1 * (P0 * Y))))) ∧ Kept w8 w9) := by
        intro w8 ca cn cc h
        have h := h.cast (Q := mapAt pq (bs.map ent) * (Rw (.slice ca cn cc) * (Rw (.slice va vn vc) * (P1 * (P0 * Y))))) (by ac_rfl)
        obtain ⟨es, clock, hl, h5⟩ := mapAt_open h
        obtain ⟨w9, es', clock', hup, hl', hb', hoth, hk, hsz⟩ := update_new (P := Try.prog) h5.block hl Try.underlying170 Try.underlying3 (b.n : Int) (.agg #[.int .u64 b.h, .slice ca cn cc]) hnew.out
        exact ⟨w9, hup, mapAt_shut hl' (h5.upd hb' (fun i hi _ => hoth i hi)), hk⟩
      obtain ⟨d15, y0, y1⟩ := hS.out _ _ Hs7.out
      clear Hs6 hP1 hyq
      go_region_held3 (fun w' => w'.cell? ⟨q, 15, none⟩ = some (.map (some pq)) ∧ w'.cell? ⟨y, 0, none⟩ = some (.int .u64 b.h) ∧ w'.cell? ⟨y, 1, none⟩ = some (.slice va vn vc))
        (first | go_keep | exact hS.out _ _ (HS9.cast (Q := P1 * (P0 * (mapAt pq (bs.map ent ++ [((b.n : Int), .agg #[.int .u64 b.h, .slice ca cn cc])]) * (Rw (.slice ca cn cc) * (Rw (.slice va vn vc) * Y))))) (by ac_rfl)) | exact hS.out _ _ (hs8.cast (Q := P1 * (P0 * (Rw (.slice ca cn cc) * (Rw (.slice va vn vc) * (mapAt pq (bs.map ent) * Y))))) (by ac_rfl)) | exact hS.out _ _ (Sat.drew Hs7.out))
        (first | (go_at_call 91; refine (HC.out w7.drew _ (Sat.cast (Q := Rw (.slice va vn vc) * (P1 * (P0 * (mapAt pq (bs.map ent) * Y)))) (Sat.drew Hs7.out) (by ac_rfl))).mono ?_; rintro e w8 ⟨ca, cn, cc, rfl, hs8, hb8⟩; obtain ⟨w9, hup, HS9, HK9⟩ := HM.out w8 ca cn cc hs8))
      have HR9 : Sat w9 (rangingAt r pb (A.bs.map ent) ((dbs ++ [b]).map ent) * (own q (.cells (arCells A pc pq) 172 (0, 0)) * (stkAt pc A.s * (mapAt pq ((bs ++ [Blk.mk b.n b.h b.ws (.slice ca cn cc)]).map ent) * (rowsAt (bs ++ [Blk.mk b.n b.h b.ws (.slice ca cn cc)]) * (own p (.cells X 172 (0, 0)) * (stkAt ps A.s * (rowsAt A.bs * R)))))))) := by
        have h1 := (HS9.cast (Q := P1 * (P0 * (mapAt pq (bs.map ent ++ [((b.n : Int), .agg #[.int .u64 b.h, .slice ca cn cc])]) * (Rw (.slice ca cn cc) * (Rw (.slice va vn vc) * Y))))) (by ac_rfl)).right
        refine h1.cast ?_
        have e2 : rowsAt (bs ++ [Blk.mk b.n b.h b.ws (.slice ca cn cc)]) = rowAt 29 (.slice ca cn cc) (u64s b.ws) * rowsAt bs := by
          have := rows_mid bs [] (Blk.mk b.n b.h b.ws (.slice ca cn cc))
          simpa using this
        have e3 : (bs ++ [Blk.mk b.n b.h b.ws (.slice ca cn cc)]).map ent = bs.map ent ++ [((b.n : Int), .agg #[.int .u64 b.h, .slice ca cn cc])] := by simp [ent]
        have e4 : (dbs ++ [b]).map ent = dbs.map ent ++ [((b.n : Int), .agg #[.int .u64 b.h, .slice va vn vc])] := by simp [ent, hv]
        rw [e2, e3, e4, hrows, hY, HRw.out, hP0]
        simp only []
        ac_rfl
      have hkey' : (bs ++ [Blk.mk b.n b.h b.ws (.slice ca cn cc)]).map key3 = (dbs ++ [b]).map key3 := by rw [List.map_append, List.map_append, hkey]; rfl
      have hm : rLeft w9 pb r < rLeft wr pb r := by
        rw [hleft, rLeft_eq HR9]
        simp
        omega
      have hsub' : ∀ c ∈ dbs ++ [b], c ∈ A.bs := by
        intro c hc
        rcases List.mem_append.1 hc with hc | hc
        · exact hsub c hc
        · simp only [List.mem_singleton] at hc; exact hc ▸ hb
      have hk9 := (Hk7.out.drew.below hb8).trans HK9
      clear HS9 hs8 hup
      go_roundw
      case rel => exact ⟨_, _, _, _, _, _, _, _, _, _, _, _, _, _, _, _, ⟨dbs ++ [b], _, hsub', hkey', hk9, HR9⟩, rfl⟩
      case measure => exact hm
end Go.Proofs.Ytnkikhhiaecebaa

/- The document's arena's calls: from runs of the executor at the old memory to summaries. -/
namespace Go.Proofs.Ytnkikhhiaecebaa
open Go Go.RowKit
set_option maxRecDepth 100000
inductive RV where
  | num (k : IntKind) (n : Int)
  | flg (c : Bool)
def RV.part : RV → Bool × List SC
  | .num k n => (false, [.int false k n])
  | .flg c => (false, [.boo false c])
def resP : List (Bool × List SC) → List RV → Prop
  | [], [] => True
  | (false, [.int _ k n _]) :: l, .num k' n' :: r => if k = k' then (n = n' ∧ resP l r) else Stuck 664
  | (false, [.boo _ c]) :: l, .flg c' :: r => c = c' ∧ resP l r
  | _, _ => Stuck 665
theorem resP_den : ∀ {l : List (Bool × List SC)} {r : List RV}, resP l r → (l.flatMap fun p => SC.namesL p.2) = [] ∧ ∀ ν, l.map (partDen ν) = (r.map RV.part).map (partDen ν)
  | [], r, h => by
    cases r with
    | nil => exact ⟨rfl, fun _ => rfl⟩
    | cons a r => exact h.elim
  | (c, l0) :: l, r, h => by
    unfold resP at h
    split at h
    · rename_i e; cases e
    · rename_i l1 k n bd l2 k' n' r2 e
      cases e
      split at h
      · rename_i ek
        subst ek
        obtain ⟨rfl, h⟩ := h
        obtain ⟨h1, h2⟩ := resP_den h
        refine ⟨?_, fun ν => ?_⟩
        · simp only [List.flatMap_cons, h1]; rfl
        · simp only [List.map_cons, h2, partDen, RV.part, SC.den]
      · exact h.elim
    · rename_i l1 b l2 b' r2 e
      cases e
      obtain ⟨rfl, h⟩ := h
      obtain ⟨h1, h2⟩ := resP_den h
      refine ⟨?_, fun ν => ?_⟩
      · simp only [List.flatMap_cons, h1]; rfl
      · simp only [List.map_cons, h2, partDen, RV.part, SC.den]
    · exact h.elim
def docV (tup : Bool) (y : D3) (a : Option Addr) (len cp : Nat) (r : List RV) : SV := match tup with
  | true => .tup ((true, d3C y (.sliv a false len cp)) :: r.map RV.part)
  | false => .agg (d3C y (.sliv a false len cp))
def docP3 (l : List SC) (m : Mem XV) (P : World → D3 → Option Addr → Nat → Nat → Prop) : Prop := match d3Of l, seenOf m.hp with
  | some (y, L), some W' => match L with
    | .sliv a' _ len' cp' => P W' y a' len' cp'
    | .nls => P W' y none 0 0
    | _ => Stuck 661
  | _, _ => Stuck 660
def docOut (tup : Bool) (W : World) (bs' : List (Nat × List Nat)) (y' : D3) (R : List RV) (v : SV) (m : Mem XV) : Prop := match v with
  | .tup ((true, l) :: r) => match tup with
    | true => docP3 l m fun W' y a len cp => Grow W W' ∧ DocAt W' a len cp bs' ∧ y = y' ∧ resP r R
    | false => Stuck 666
  | .agg l => match tup with
    | false => docP3 l m fun W' y a len cp => Grow W W' ∧ DocAt W' a len cp bs' ∧ y = y'
    | true => Stuck 666
  | _ => Stuck 666
theorem docP3_den {l : List SC} {m : Mem XV} {P : World → D3 → Option Addr → Nat → Nat → Prop} (h : docP3 l m P) : ∃ W' y a len cp, P W' y a len cp ∧ seenOf m.hp = some W' ∧ SC.namesL l = [] ∧ ∀ ν, SC.denL ν l = SC.denL ν (d3C y (.sliv a false len cp)) := by
  unfold docP3 at h
  split at h <;> try exact h.elim
  rename_i y L W' hl hs
  obtain ⟨hd, hn⟩ := d3Of_sound hl
  split at h <;> try exact h.elim
  · rename_i a' ll len' cp'
    exact ⟨_, _, _, _, _, h, hs, hn, fun ν => (hd ν).trans (by simp only [d3C, SC.denL, SC.den])⟩
  · exact ⟨_, _, _, _, _, h, hs, hn, fun ν => (hd ν).trans (by simp only [d3C, SC.denL, SC.den])⟩
theorem docOut_den {tup : Bool} {W : World} {bs' : List (Nat × List Nat)} {y' : D3} {R : List RV} {v : SV} {m : Mem XV} (h : docOut tup W bs' y' R v m) :
    ∃ W' a len cp, Grow W W' ∧ DocAt W' a len cp bs' ∧ seenOf m.hp = some W' ∧ v.names = [] ∧ ∀ ν, v.den ν = (docV tup y' a len cp R).den ν := by
  unfold docOut at h
  split at h <;> try exact h.elim
  · rename_i l r
    split at h <;> try exact h.elim
    obtain ⟨W', y, a, len, cp, ⟨h1, h2, rfl, h4⟩, hs, hn, hd⟩ := docP3_den h
    obtain ⟨h5, h6⟩ := resP_den h4
    refine ⟨W', a, len, cp, h1, h2, hs, ?_, fun ν => ?_⟩
    · simp only [SV.names, List.flatMap_cons, hn, h5, List.append_nil]
    · simp only [docV, SV.den, List.map_cons, h6, partDen, hd]
  · rename_i l
    split at h <;> try exact h.elim
    obtain ⟨W', y, a, len, cp, ⟨h1, h2, rfl⟩, hs, hn, hd⟩ := docP3_den h
    refine ⟨W', a, len, cp, h1, h2, hs, hn, fun ν => ?_⟩
    simp only [docV, SV.den, hd]
structure DArg where
  h : Int
  i : Int
  o : Int
  w : Int
structure DocOp where
  g : FuncId
  tup : Bool
  sh : List SV → Option DArg
  norm : DArg → List SV
  shOk : ∀ xs x, sh xs = some x → ∀ ν, xs.map (SV.den ν) = (norm x).map (SV.den ν)
  cond : DArg → D3 → List (Nat × List Nat) → Prop
  Y : DArg → D3 → List (Nat × List Nat) → D3
  B : DArg → D3 → List (Nat × List Nat) → List (Nat × List Nat)
  R : DArg → D3 → List (Nat × List Nat) → List RV
  run : ∀ (W : World) (x : DArg) (y : D3) (a : Option Addr) (len cp : Nat) (bs : List (Nat × List Nat)), DocAt W a len cp bs → cond x y bs →
    ∃ xs : List SV, (∀ ν, xs.map (SV.den ν) = (norm x).map (SV.den ν)) ∧ (∀ v ∈ xs, v.names = []) ∧
    ∃ (T : List (Smry Try.prog XV)) (wr : FuncId → Nat → Bool) (LF k : Nat) (s : Scr XV), Run (callN Try.prog T wr LF k g (.agg (d3C y (.sliv a false len cp)) :: xs) ⟨[(0, .seen W)], 100⟩ s fun v m _ => docOut tup W (B x y bs) (Y x y bs) (R x y bs) v m)
section
variable {E : EXT}
theorem DocOp.calls (S : DocOp) {W : World} {x : DArg} {y : D3} {a : Option Addr} {len cp : Nat} {bs : List (Nat × List Nat)} (hd : DocAt W a len cp bs) (hc : S.cond x y bs) {hp : SH E} (hW : hp.get 0 = some (.seen W)) {ν : Nat → Nat} {w w0 : World} {R : Assn} (H : Sat w (hp.den ν * R)) (HK : Kept w0 w) :
    Calls Try.prog S.g ((SV.agg (d3C y (.sliv a false len cp)) :: S.norm x).map (SV.den ν)).toArray w fun e w' => ∃ W' a' len' cp', Grow W W' ∧ DocAt W' a' len' cp' (S.B x y bs) ∧ e = .returned ((docV S.tup (S.Y x y bs) a' len' cp' (S.R x y bs)).den ν) ∧ Sat w' ((hp.set 0 (.seen W')).den ν * R) ∧ Kept w0 w' := by
  obtain ⟨xs, hxs, hnm, T, wr, LF, k, s, run⟩ := S.run W x y a len cp bs hd hc
  have ea : (SV.agg (d3C y (.sliv a false len cp)) :: S.norm x).map (SV.den ν) = (SV.agg (d3C y (.sliv a false len cp)) :: xs).map (SV.den ν) := by rw [List.map_cons, List.map_cons, hxs]
  rw [ea]
  refine (seen_calls (post := fun v m => docOut S.tup W (S.B x y bs) (S.Y x y bs) (S.R x y bs) v m) run (fun v m h => ?_) (fun v hv => ?_) hW H HK).mono ?_
  · obtain ⟨W', a', len', cp', _, _, hs, hn, _⟩ := docOut_den h
    exact ⟨W', hs, hn⟩
  · rcases List.mem_cons.1 hv with rfl | hv
    · rfl
    · exact hnm v hv
  · rintro e w' ⟨v, m, W', hv, hs, he, hsat, hk⟩
    obtain ⟨W2, a', len', cp', g, hat, hs2, hn, hden⟩ := docOut_den hv
    rw [hs2] at hs
    cases hs
    refine ⟨W', a', len', cp', g, hat, ?_, hsat, hk⟩
    rw [he, hden]
def DocOp.go (S : DocOp) (x : DArg) (y : D3) (W : World) (bs : List (Nat × List Nat)) (K : World → SV → Prop) : Prop :=
  ∀ y0, y0 = y → S.cond x y0 bs ∧ ∀ W' a' len' cp' y' bs', Grow W W' → DocAt W' a' len' cp' bs' → y' = S.Y x y0 bs → bs' = S.B x y0 bs → K W' (docV S.tup y' a' len' cp' (S.R x y0 bs))
def DocOp.S (S : DocOp) : Smry Try.prog E where
  g := S.g
  run := fun args m K => match args with
    | .agg l :: xs => match m.hp.get 0, d3Of l, S.sh xs with
      | some (.seen W), some (y, L), some x => match L with
        | .sliv a _ len cp => ∃ bs, DocAt W a len cp bs ∧ S.go x y W bs fun W' v => K v ⟨m.hp.set 0 (.seen W'), m.nx⟩
        | .nls => S.go x y W [] fun W' v => K v ⟨m.hp.set 0 (.seen W'), m.nx⟩
        | _ => Stuck 667
      | _, _, _ => Stuck 668
    | _ => Stuck 669
  ok := fun args m K hr => by
    split at hr <;> try exact hr.elim
    rename_i l xs
    split at hr <;> try exact hr.elim
    rename_i W y L x hW hl hx
    obtain ⟨hd, hn⟩ := d3Of_sound hl
    intro ν w R w0 H HK
    have key : ∀ a len cp bs, SC.denL ν l = SC.denL ν (d3C y (.sliv a false len cp)) → DocAt W a len cp bs → (S.go x y W bs fun W' v => K v ⟨m.hp.set 0 (.seen W'), m.nx⟩) → Calls Try.prog S.g ((SV.agg l :: xs).map (SV.den ν)).toArray w fun e w' => ∃ v m' μ, K v m' ∧ Agree m.nx ν μ ∧ m.nx ≤ m'.nx ∧ e = .returned (v.den μ) ∧ Sat w' (m'.hp.den μ * R) ∧ Kept w0 w' := by
      intro a len cp bs hd hat hr
      obtain ⟨hc, hr⟩ := hr y rfl
      have ea : (SV.agg l :: xs).map (SV.den ν) = (SV.agg (d3C y (.sliv a false len cp)) :: S.norm x).map (SV.den ν) := by simp only [List.map_cons, SV.den, hd, S.shOk xs x hx]
      rw [ea]
      refine (S.calls hat hc hW H HK).mono ?_
      rintro e w' ⟨W', a', len', cp', g, hat', he, hs, hk⟩
      exact ⟨_, _, ν, hr W' a' len' cp' _ _ g hat' rfl rfl, Agree.refl _ _, Nat.le_refl _, he, hs, hk⟩
    split at hr <;> try exact hr.elim
    · rename_i a ll len cp
      obtain ⟨bs, hat, hr⟩ := hr
      exact key a len cp bs ((hd ν).trans (by simp only [d3C, SC.denL, SC.den])) hat hr
    · exact key none 0 0 [] ((hd ν).trans (by simp only [d3C, SC.denL, SC.den])) (DocAt.nil W) hr
end
def shA : List SV → Option DArg
  | [.agg [.int _ .u64 h _, .int _ .i64 i _]] => some ⟨h, i, 0, 0⟩
  | _ => none
def mkA (x : DArg) : List SV := [.agg [.int false .u64 x.h, .int false .i64 x.i]]
theorem shA_ok : ∀ xs x, shA xs = some x → ∀ ν, xs.map (SV.den ν) = (mkA x).map (SV.den ν) := fun xs x h ν => by
  unfold shA at h
  split at h <;> cases h
  rfl
theorem mkA_names : ∀ x, ∀ v ∈ mkA x, v.names = [] := fun x v hv => by
  simp only [mkA, List.mem_singleton] at hv; subst hv; rfl
def shAW : List SV → Option DArg
  | [.agg [.int _ .u64 h _, .int _ .i64 i _], .c (.int _ .u64 w _)] => some ⟨h, i, 0, w⟩
  | _ => none
def mkAW (x : DArg) : List SV := [.agg [.int false .u64 x.h, .int false .i64 x.i], .c (.int false .u64 x.w)]
theorem shAW_ok : ∀ xs x, shAW xs = some x → ∀ ν, xs.map (SV.den ν) = (mkAW x).map (SV.den ν) := fun xs x h ν => by
  unfold shAW at h
  split at h <;> cases h
  rfl
theorem mkAW_names : ∀ x, ∀ v ∈ mkAW x, v.names = [] := fun x v hv => by
  simp only [mkAW, List.mem_cons, List.not_mem_nil, or_false] at hv; rcases hv with rfl | rfl <;> rfl
def shAOW : List SV → Option DArg
  | [.agg [.int _ .u64 h _, .int _ .i64 i _], .c (.int _ .u64 o _), .c (.int _ .u64 w _)] => some ⟨h, i, o, w⟩
  | _ => none
def mkAOW (x : DArg) : List SV := [.agg [.int false .u64 x.h, .int false .i64 x.i], .c (.int false .u64 x.o), .c (.int false .u64 x.w)]
theorem shAOW_ok : ∀ xs x, shAOW xs = some x → ∀ ν, xs.map (SV.den ν) = (mkAOW x).map (SV.den ν) := fun xs x h ν => by
  unfold shAOW at h
  split at h <;> cases h
  rfl
theorem mkAOW_names : ∀ x, ∀ v ∈ mkAOW x, v.names = [] := fun x v hv => by
  simp only [mkAOW, List.mem_cons, List.not_mem_nil, or_false] at hv; rcases hv with rfl | rfl | rfl <;> rfl
def shH : List SV → Option DArg
  | [.c (.int _ .u64 h _)] => some ⟨h, 0, 0, 0⟩
  | _ => none
def mkH (x : DArg) : List SV := [.c (.int false .u64 x.h)]
theorem shH_ok : ∀ xs x, shH xs = some x → ∀ ν, xs.map (SV.den ν) = (mkH x).map (SV.den ν) := fun xs x h ν => by
  unfold shH at h
  split at h <;> cases h
  rfl
theorem mkH_names : ∀ x, ∀ v ∈ mkH x, v.names = [] := fun x v hv => by
  simp only [mkH, List.mem_singleton] at hv; subst hv; rfl
end Go.Proofs.Ytnkikhhiaecebaa

/- Rows of values and rows of objects told otherwise: steps of the proof alone. No program in sight. -/
namespace Go.Proofs.Ytnkikhhiaecebaa
open Go Go.RowKit
section
variable {E : EXT}
theorem sat_row_1 {m : SH E} {n : Nat} {o : SO E} (h : m.get n = some o) (ν : Nat → Nat) {w : World} {R : Assn} (hs : Sat w (m.den ν * R)) : Sat w (o.den ν (ν n) * ((m.del n).den ν * R)) := by
  rw [SH.den_get ν h, Assn.mul_assoc] at hs
  exact hs
def arrRun (ts ti : Nat) (f : SF) (m : Mem E) (K : Mem E → Prop) : Prop :=
  match rowAt? f ts, numAt? f ti with
  | some n, some z => match m.hp.get n with
    | some (.vals t k N cap g) => (0 ≤ z ∧ z < (N : Int)) ∧ K ⟨(n, .arr t k N cap g z.toNat ((g z.toNat).map SC.ofR)) :: m.hp.del n, m.nx⟩
    | _ => Stuck 863
  | _, _ => Stuck 864
theorem arr_ok (ts ti : Nat) (f : SF) (m : Mem E) (K : Mem E → Prop) (h : arrRun ts ti f m K) (ν : Nat → Nat) (w : World) (R : Assn) (hs : Sat w (m.hp.den ν * R)) :
    ∃ m' μ, K m' ∧ Agree m.nx ν μ ∧ m.nx ≤ m'.nx ∧ Sat w (m'.hp.den μ * R) := by
  unfold arrRun at h
  split at h <;> try exact h.elim
  rename_i n z hn hz
  split at h <;> try exact h.elim
  rename_i t k N cap g hg
  obtain ⟨⟨h0, h1⟩, hk⟩ := h
  have H1 := sat_row_1 hg ν hs
  simp only [SO.den] at H1
  rw [Assn.mul_assoc] at H1
  obtain ⟨hl, H1⟩ := H1.pure_mul
  refine ⟨_, ν, hk, Agree.refl _ _, Nat.le_refl _, ?_⟩
  simp only [SH.den, SO.den]
  rw [Assn.mul_assoc, Assn.mul_assoc]
  refine Sat.mk_pure_mul ⟨by omega, by rw [List.length_map]; exact hl _ (by omega), hl⟩ ?_
  have e : (valsOf N fun j => if j = z.toNat then SC.denL ν ((g z.toNat).map SC.ofR) else g j) = valsOf N g := valsOf_congr fun j _ => by
    by_cases hj : j = z.toNat
    · rw [if_pos hj, denL_ofR, hj]
    · rw [if_neg hj]
  rw [e]
  exact H1
def arrG (ts ti : Nat) : Ghost E := ⟨arrRun ts ti, arr_ok ts ti⟩
def seqG (G1 G2 : Ghost E) : Ghost E where
  run := fun f m K => G1.run f m fun m1 => G2.run f m1 K
  ok := fun f m K h ν w R hs => by
    obtain ⟨m1, μ, h1, a1, n1, s1⟩ := G1.ok f m _ h ν w R hs
    obtain ⟨m2, ξ, h2, a2, n2, s2⟩ := G2.ok f m1 K h1 μ w R s1
    exact ⟨m2, ξ, h2, fun k hk => (a2 k (Nat.lt_of_lt_of_le hk n1)).trans (a1 k hk), Nat.le_trans n1 n2, s2⟩
def rawsC (k : Nat) (g : List Value) : List SC := (List.range k).map fun c => .raw (g.getD c undef)
theorem rawsC_den {k : Nat} {g : List Value} (h : g.length = k) (ν : Nat → Nat) : SC.denL ν (rawsC k g) = g := by
  rw [denL_map]
  unfold rawsC
  rw [List.map_map]
  refine List.ext_getElem (by simp [h]) fun i h1 h2 => ?_
  simp only [List.getElem_map, List.getElem_range, Function.comp, SC.den]
  rw [List.getD_eq_getElem?_getD, List.getElem?_eq_getElem h2]
  rfl
def arhRun (ts ti : Nat) (f : SF) (m : Mem E) (K : Mem E → Prop) : Prop :=
  match rowAt? f ts, numAt? f ti with
  | some n, some z => match m.hp.get n with
    | some (.vals t k N cap g) => (0 ≤ z ∧ z < (N : Int)) ∧ K ⟨(n, .arr t k N cap g z.toNat (rawsC k (g z.toNat))) :: m.hp.del n, m.nx⟩
    | _ => Stuck 815
  | _, _ => Stuck 816
theorem arh_ok (ts ti : Nat) (f : SF) (m : Mem E) (K : Mem E → Prop) (h : arhRun ts ti f m K) (ν : Nat → Nat) (w : World) (R : Assn) (hs : Sat w (m.hp.den ν * R)) :
    ∃ m' μ, K m' ∧ Agree m.nx ν μ ∧ m.nx ≤ m'.nx ∧ Sat w (m'.hp.den μ * R) := by
  unfold arhRun at h
  split at h <;> try exact h.elim
  rename_i n z hn hz
  split at h <;> try exact h.elim
  rename_i t k N cap g hg
  obtain ⟨⟨h0, h1⟩, hk⟩ := h
  have H1 := sat_row_1 hg ν hs
  simp only [SO.den] at H1
  rw [Assn.mul_assoc] at H1
  obtain ⟨hl, H1⟩ := H1.pure_mul
  have hz : (g z.toNat).length = k := hl _ (by omega)
  refine ⟨_, ν, hk, Agree.refl _ _, Nat.le_refl _, ?_⟩
  simp only [SH.den, SO.den]
  rw [Assn.mul_assoc, Assn.mul_assoc]
  refine Sat.mk_pure_mul ⟨by omega, by simp [rawsC], hl⟩ ?_
  have e : (valsOf N fun j => if j = z.toNat then SC.denL ν (rawsC k (g z.toNat)) else g j) = valsOf N g := valsOf_congr fun j _ => by
    by_cases hj : j = z.toNat
    · rw [if_pos hj, rawsC_den hz, hj]
    · rw [if_neg hj]
  rw [e]
  exact H1
def arhG (ts ti : Nat) : Ghost E := ⟨arhRun ts ti, arh_ok ts ti⟩
def cellsRun (tw ts : Nat) (f : SF) (m : Mem E) (K : Mem E → Prop) : Prop :=
  match rowAt? f tw, rowAt? f ts with
  | some n, some s => match m.hp.get s with
    | some (.row _ _ c _ _) => match m.hp.get n with
      | some (.vals t k N cap g) => N = c ∧ K ⟨(n, .row t k c cap ((valsOf c g).map SC.ofR)) :: m.hp.del n, m.nx⟩
      | _ => Stuck 811
    | _ => Stuck 812
  | _, _ => Stuck 813
theorem cells_ok (tw ts : Nat) (f : SF) (m : Mem E) (K : Mem E → Prop) (h : cellsRun tw ts f m K) (ν : Nat → Nat) (w : World) (R : Assn) (hs : Sat w (m.hp.den ν * R)) :
    ∃ m' μ, K m' ∧ Agree m.nx ν μ ∧ m.nx ≤ m'.nx ∧ Sat w (m'.hp.den μ * R) := by
  unfold cellsRun at h
  split at h <;> try exact h.elim
  rename_i n s hn hs'
  split at h <;> try exact h.elim
  rename_i t0 k0 c cap0 l0 _
  split at h <;> try exact h.elim
  rename_i t k N cap g hg
  obtain ⟨rfl, hk⟩ := h
  have H1 := sat_row_1 hg ν hs
  simp only [SO.den] at H1
  rw [Assn.mul_assoc] at H1
  obtain ⟨_, H1⟩ := H1.pure_mul
  refine ⟨_, ν, hk, Agree.refl _ _, Nat.le_refl _, ?_⟩
  simp only [SH.den, SO.den]
  rw [denL_ofR, Assn.mul_assoc]
  exact H1
def cellsG (tw ts : Nat) : Ghost E := ⟨cellsRun tw ts, cells_ok tw ts⟩
def valRun (ts : Nat) (f : SF) (m : Mem E) (K : Mem E → Prop) : Prop :=
  match rowAt? f ts with
  | some n => match m.hp.get n with
    | some (.arr t k N cap g i l) => match closedL l with
      | some vs => K ⟨(n, .vals t k N cap fun j => if j = i then vs else g j) :: m.hp.del n, m.nx⟩
      | none => Stuck 865
    | some (.cells l t) => match closedL l with
      | some vs => K ⟨(n, .vals t l.length 1 1 fun _ => vs) :: m.hp.del n, m.nx⟩
      | none => Stuck 865
    | _ => Stuck 866
  | none => Stuck 867
theorem closedL_len : ∀ {l : List SC} {vs : List Value}, closedL l = some vs → vs.length = l.length := fun {l vs} h => by
  have := closedL_den h (fun _ => 0)
  rw [← this, denL_map, List.length_map]
theorem one_head {w : World} {R : Assn} {b : Nat} {t : TypeId} {vs : List Value} (h : Sat w (own b (.cells vs.toArray t (0, 0)) * R)) : Sat w (rowHead b t vs.length 1 1 (valsOf 1 fun _ => vs) * R) := by
  unfold rowHead
  refine Sat.mk_ex_mul vs.toArray ?_
  rw [Assn.mul_assoc]
  refine Sat.mk_pure_mul ⟨by simp [valsOf], Nat.le_refl _, by unfold maxLen; omega, by simp, by simp [valsOf]⟩ h
theorem val_ok (ts : Nat) (f : SF) (m : Mem E) (K : Mem E → Prop) (h : valRun ts f m K) (ν : Nat → Nat) (w : World) (R : Assn) (hs : Sat w (m.hp.den ν * R)) :
    ∃ m' μ, K m' ∧ Agree m.nx ν μ ∧ m.nx ≤ m'.nx ∧ Sat w (m'.hp.den μ * R) := by
  unfold valRun at h
  split at h <;> try exact h.elim
  rename_i n hn
  split at h <;> try exact h.elim
  · rename_i t k N cap g i l hg
    split at h <;> try exact h.elim
    rename_i vs hv
    have H1 := arr_facts (sat_row_1 hg ν hs)
    obtain ⟨⟨hi, hlk, hl⟩, H1⟩ := H1
    refine ⟨_, ν, h, Agree.refl _ _, Nat.le_refl _, ?_⟩
    simp only [SH.den, SO.den]
    rw [Assn.mul_assoc, Assn.mul_assoc]
    refine Sat.mk_pure_mul (fun j hj => ?_) ?_
    · by_cases e : j = i
      · rw [if_pos e, closedL_len hv, hlk]
      · rw [if_neg e, hl j hj]
    · rw [closedL_den hv] at H1
      exact H1
  · rename_i l t hg
    split at h <;> try exact h.elim
    rename_i vs hv
    have H1 := sat_row_1 hg ν hs
    simp only [SO.den] at H1
    rw [closedL_den hv] at H1
    refine ⟨_, ν, h, Agree.refl _ _, Nat.le_refl _, ?_⟩
    simp only [SH.den, SO.den]
    rw [Assn.mul_assoc, Assn.mul_assoc]
    have e := closedL_len hv
    refine Sat.mk_pure_mul (fun j hj => e) ?_
    rw [← e]
    exact one_head H1
def valG (ts : Nat) : Ghost E := ⟨valRun ts, val_ok ts⟩
end
section
variable {E : EXT} {H : Hid E}
def focsRun (ts ti : Nat) (f : SF) (m : Mem (E.hid H)) (K : Mem (E.hid H) → Prop) : Prop :=
  match rowAt? f ts, numAt? f ti with
  | some n, some z => match m.hp.get n with
    | some (.ext (HO.all ns t N cap x)) =>
      bif (m.hp.names.all fun k => Nat.blt k m.nx) && ns.all fun k => Nat.blt k m.nx then
        ((0 ≤ z ∧ z < (N : Int)) ∧ (x z.toNat).isSome = true) ∧ ∀ (g : Nat → List Value) (y : H.X), x z.toNat = some y → K ⟨(n, .arr t 1 N cap g z.toNat [.ptr (m.nx + 1) 0]) :: (m.nx, .ext (HO.rest ns N x z.toNat g)) :: (m.nx + 1, .ext (HO.obj ns y)) :: m.hp.del n, m.nx + 2⟩
      else Stuck 850
    | _ => Stuck 851
  | _, _ => Stuck 852
theorem focs_ok (ts ti : Nat) (f : SF) (m : Mem (E.hid H)) (K : Mem (E.hid H) → Prop) (h : focsRun ts ti f m K) (ν : Nat → Nat) (w : World) (R : Assn) (hs : Sat w (m.hp.den ν * R)) :
    ∃ m' μ, K m' ∧ Agree m.nx ν μ ∧ m.nx ≤ m'.nx ∧ Sat w (m'.hp.den μ * R) := by
  refine focus_ok ts ti f m K ?_ ν w R hs
  unfold focsRun at h
  unfold focusRun
  split at h <;> try exact h.elim
  rename_i n z hn hz
  split at h <;> try exact h.elim
  rename_i ns t N cap x hg
  rw [hn, hz]
  simp only [hg]
  cases hb : ((m.hp.names.all fun k => Nat.blt k m.nx) && ns.all fun k => Nat.blt k m.nx) <;> rw [hb] at h
  · exact h.elim
  simp only [cond_true] at h ⊢
  obtain ⟨⟨hz, hs⟩, hk⟩ := h
  exact ⟨hz, fun g => ⟨fun e => (by rw [e] at hs; cases hs), fun y hy => hk g y hy⟩⟩
def focsG (ts ti : Nat) : Ghost (E.hid H) := ⟨focsRun ts ti, focs_ok ts ti⟩
def oneRun (ts : Nat) (f : SF) (m : Mem (E.hid H)) (K : Mem (E.hid H) → Prop) : Prop :=
  match rowAt? f ts with
  | some n => match m.hp.get n with
    | some (.cells [.ptr p 0] t) => match (m.hp.del n).get p with
      | some (.ext (HO.obj ns y)) => K ⟨(n, .ext (HO.all ns t 1 1 fun _ => some y)) :: (m.hp.del n).del p, m.nx⟩
      | _ => Stuck 868
    | _ => Stuck 869
  | none => Stuck 848
theorem one_ok (ts : Nat) (f : SF) (m : Mem (E.hid H)) (K : Mem (E.hid H) → Prop) (h : oneRun ts f m K) (ν : Nat → Nat) (w : World) (R : Assn) (hs : Sat w (m.hp.den ν * R)) :
    ∃ m' μ, K m' ∧ Agree m.nx ν μ ∧ m.nx ≤ m'.nx ∧ Sat w (m'.hp.den μ * R) := by
  unfold oneRun at h
  split at h <;> try exact h.elim
  rename_i n hn
  split at h <;> try exact h.elim
  rename_i p t hg
  split at h <;> try exact h.elim
  rename_i ns y hp
  have H1 := sat_row_first hg ν hs
  simp only [SO.den] at H1
  have H2 : Sat w (SH.den ν (m.hp.del n) * (own (ν n) (.cells (SC.denL ν [SC.ptr p 0]).toArray t (0, 0)) * R)) := H1.cast (by ac_rfl)
  have H3 := sat_row_first hp ν H2
  refine ⟨_, ν, h, Agree.refl _ _, Nat.le_refl _, ?_⟩
  simp only [SH.den, SO.den]
  rw [Assn.mul_assoc]
  show Sat w ((HO.all ns t 1 1 fun _ => some y : HO E H).den ν (ν n) * _)
  simp only [HO.den]
  refine Sat.mk_ex_mul (fun _ => ν p) ?_
  have e : (valsOf 1 fun _ => ptrO (some y) (ν p)) = valsOf 1 fun _ => ([.pointer (some ⟨ν p, 0, none⟩)] : List Value) := rfl
  have e2 : starN 1 (fun _ => optDen H ν (ν p) ns (some y)) = hidDen H ν (ν p) ns y := by
    simp only [starN, optDen]
    rw [Assn.mul_comm, Assn.one_mul]
  rw [e, e2, Assn.mul_assoc]
  have H4 : Sat w (own (ν n) (.cells ([.pointer (some ⟨ν p, 0, none⟩)] : List Value).toArray t (0, 0)) * (hidDen H ν (ν p) ns y * (SH.den ν ((m.hp.del n).del p) * R))) := by
    refine H3.cast ?_
    have e3 : (SO.ext (HO.obj ns y) : SO (E.hid H)).den ν (ν p) = hidDen H ν (ν p) ns y := rfl
    rw [e3]
    show _ * (_ * (own (ν n) (.cells ([.pointer (some ⟨ν p, 0, none⟩)] : List Value).toArray t (0, 0)) * R)) = _
    ac_rfl
  exact one_head H4
def oneG (ts : Nat) : Ghost (E.hid H) := ⟨oneRun ts, one_ok ts⟩
def tiedAt : SH (E.hid H) → Option Nat
  | [] => none
  | (r, .ext (HO.tied _ _ _ _ _ _)) :: _ => some r
  | _ :: h => tiedAt h
def hideRun (ts : Nat) (f : SF) (m : Mem (E.hid H)) (K : Mem (E.hid H) → Prop) : Prop :=
  match rowAt? f ts, restAt m.hp with
  | some n, some r => match m.hp.get n with
    | some (.arr t 1 N cap g i [.ptr p 0]) => match (m.hp.del n).get r with
      | some (.ext (HO.rest ns N' x i' g')) => (N = N' ∧ i = i' ∧ g = g') ∧ ∀ g2 : Nat → List Value, K ⟨(n, .vals t 1 N cap g2) :: (r, .ext (HO.tied ns N x i g2 p)) :: (m.hp.del n).del r, m.nx⟩
      | _ => Stuck 830
    | _ => Stuck 831
  | _, _ => Stuck 832
theorem hide_ok (ts : Nat) (f : SF) (m : Mem (E.hid H)) (K : Mem (E.hid H) → Prop) (h : hideRun ts f m K) (ν : Nat → Nat) (w : World) (R : Assn) (hs : Sat w (m.hp.den ν * R)) :
    ∃ m' μ, K m' ∧ Agree m.nx ν μ ∧ m.nx ≤ m'.nx ∧ Sat w (m'.hp.den μ * R) := by
  unfold hideRun at h
  split at h <;> try exact h.elim
  rename_i n r hn hr
  split at h <;> try exact h.elim
  rename_i t N cap g i p hg
  split at h <;> try exact h.elim
  rename_i ns N' x i' g' hrest
  obtain ⟨⟨rfl, rfl, rfl⟩, hk⟩ := h
  obtain ⟨⟨hi, _, hl⟩, H1⟩ := arr_facts (sat_row_first hg ν hs)
  have H2 : Sat w (SH.den ν (m.hp.del n) * (rowHead (ν n) t 1 N cap (valsOf N fun j => if j = i then SC.denL ν [.ptr p 0] else g j) * R)) := H1.cast (by ac_rfl)
  have H3 := sat_row_first hrest ν H2
  have H4 : Sat w ((HO.rest ns N x i g : HO E H).den ν (ν r) * (rowHead (ν n) t 1 N cap (valsOf N fun j => if j = i then SC.denL ν [.ptr p 0] else g j) * (SH.den ν ((m.hp.del n).del r) * R))) := by
    refine H3.cast ?_
    have e3 : (SO.ext (HO.rest ns N x i g) : SO (E.hid H)).den ν (ν r) = (HO.rest ns N x i g : HO E H).den ν (ν r) := rfl
    rw [e3]; ac_rfl
  simp only [HO.den] at H4
  obtain ⟨bs, H4⟩ := H4.ex_mul
  rw [Assn.mul_assoc] at H4
  obtain ⟨hbs, H4⟩ := H4.pure_mul
  refine ⟨_, ν, hk (fun j => if j = i then [.pointer (some ⟨ν p, 0, none⟩)] else g j), Agree.refl _ _, Nat.le_refl _, ?_⟩
  simp only [SH.den, SO.den]
  rw [Assn.mul_assoc, Assn.mul_assoc]
  refine Sat.mk_pure_mul (fun j hj => ?_) ?_
  · by_cases e : j = i
    · rw [if_pos e]; rfl
    · rw [if_neg e]; exact hl j hj
  have e3 : (E.hid H).den ν (ν r) (HO.tied ns N x i (fun j => if j = i then [.pointer (some ⟨ν p, 0, none⟩)] else g j) p) = (HO.tied ns N x i (fun j => if j = i then [.pointer (some ⟨ν p, 0, none⟩)] else g j) p : HO E H).den ν (ν r) := rfl
  rw [e3]
  have H5 : Sat w ((HO.tied ns N x i (fun j => if j = i then [.pointer (some ⟨ν p, 0, none⟩)] else g j) p : HO E H).den ν (ν r) * (rowHead (ν n) t 1 N cap (valsOf N fun j => if j = i then [.pointer (some ⟨ν p, 0, none⟩)] else g j) * (SH.den ν ((m.hp.del n).del r) * R))) := by
    simp only [HO.den]
    refine Sat.mk_ex_mul bs ?_
    rw [Assn.mul_assoc]
    refine Sat.mk_pure_mul (fun j hj => ?_) ?_
    · by_cases e : j = i
      · rw [if_pos e, if_pos e]
      · rw [if_neg e, if_neg e]; exact hbs j hj
    · exact H4
  exact H5.cast (by ac_rfl)
def hideG (ts : Nat) : Ghost (E.hid H) := ⟨hideRun ts, hide_ok ts⟩
def pushTRun (ts : Nat) (f : SF) (m : Mem (E.hid H)) (K : Mem (E.hid H) → Prop) : Prop :=
  match rowAt? f ts, tiedAt m.hp with
  | some n, some r => match m.hp.get n with
    | some (.arr t 1 M cap g' i0 [.ptr q 0]) => match (m.hp.del n).get r with
      | some (.ext (HO.tied ns N x i g p)) => match ((m.hp.del n).del r).get q with
        | some (.ext (HO.obj ms y')) => match (((m.hp.del n).del r).del q).get p with
          | some (.ext (HO.obj ks y)) => bif eqNs ns ms && eqNs ns ks then (M = N + 1 ∧ i0 = N ∧ i < N ∧ ∀ j, j < N → g' j = g j) ∧
              K ⟨(n, .ext (HO.all ns t M cap fun j => if j = N then some y' else if j = i then some y else x j)) :: (((m.hp.del n).del r).del q).del p, m.nx⟩ else Stuck 820
          | _ => Stuck 821
        | _ => Stuck 822
      | _ => Stuck 823
    | _ => Stuck 824
  | _, _ => Stuck 825
theorem pushT_ok (ts : Nat) (f : SF) (m : Mem (E.hid H)) (K : Mem (E.hid H) → Prop) (h : pushTRun ts f m K) (ν : Nat → Nat) (w : World) (R : Assn) (hs : Sat w (m.hp.den ν * R)) :
    ∃ m' μ, K m' ∧ Agree m.nx ν μ ∧ m.nx ≤ m'.nx ∧ Sat w (m'.hp.den μ * R) := by
  unfold pushTRun at h
  split at h <;> try exact h.elim
  rename_i n r hn hr
  split at h <;> try exact h.elim
  rename_i t M cap g' i0 q hg
  split at h <;> try exact h.elim
  rename_i ns N x i g p hrest
  split at h <;> try exact h.elim
  rename_i ms y' hobj
  split at h <;> try exact h.elim
  rename_i ks y hobj2
  cases hb : eqNs ns ms && eqNs ns ks <;> rw [hb] at h
  · exact h.elim
  simp only [cond_true] at h
  simp only [Bool.and_eq_true] at hb
  have ens := eqNs_eq hb.1
  have ens2 := eqNs_eq hb.2
  subst ens ens2
  obtain ⟨⟨eM, ei0, hi, hgg⟩, hk⟩ := h
  subst eM
  have H1 := (arr_facts (sat_row_first hg ν hs)).2
  rw [ei0] at H1
  have H2 : Sat w (SH.den ν (m.hp.del n) * (rowHead (ν n) t 1 (N + 1) cap (valsOf (N + 1) fun j => if j = N then SC.denL ν [.ptr q 0] else g' j) * R)) := H1.cast (by ac_rfl)
  have H3 := sat_row_first hrest ν H2
  have H4 : Sat w (SH.den ν ((m.hp.del n).del r) * ((HO.tied ns N x i g p : HO E H).den ν (ν r) * (rowHead (ν n) t 1 (N + 1) cap (valsOf (N + 1) fun j => if j = N then SC.denL ν [.ptr q 0] else g' j) * R))) := by
    refine H3.cast ?_
    have e3 : (SO.ext (HO.tied ns N x i g p) : SO (E.hid H)).den ν (ν r) = (HO.tied ns N x i g p : HO E H).den ν (ν r) := rfl
    rw [e3]; ac_rfl
  have H5 := sat_row_first hobj ν H4
  have H5' : Sat w (SH.den ν (((m.hp.del n).del r).del q) * (hidDen H ν (ν q) ns y' * ((HO.tied ns N x i g p : HO E H).den ν (ν r) * (rowHead (ν n) t 1 (N + 1) cap (valsOf (N + 1) fun j => if j = N then SC.denL ν [.ptr q 0] else g' j) * R)))) := by
    refine H5.cast ?_
    have e3 : (SO.ext (HO.obj ns y') : SO (E.hid H)).den ν (ν q) = hidDen H ν (ν q) ns y' := rfl
    rw [e3]; ac_rfl
  have H6 := sat_row_first hobj2 ν H5'
  have H7 : Sat w ((HO.tied ns N x i g p : HO E H).den ν (ν r) * (hidDen H ν (ν p) ns y * (hidDen H ν (ν q) ns y' * (rowHead (ν n) t 1 (N + 1) cap (valsOf (N + 1) fun j => if j = N then SC.denL ν [.ptr q 0] else g' j) * (SH.den ν ((((m.hp.del n).del r).del q).del p) * R))))) := by
    refine H6.cast ?_
    have e3 : (SO.ext (HO.obj ns y) : SO (E.hid H)).den ν (ν p) = hidDen H ν (ν p) ns y := rfl
    rw [e3]; ac_rfl
  simp only [HO.den] at H7
  obtain ⟨bs, H7⟩ := H7.ex_mul
  rw [Assn.mul_assoc] at H7
  obtain ⟨hbs, H7⟩ := H7.pure_mul
  refine ⟨_, ν, hk, Agree.refl _ _, Nat.le_refl _, ?_⟩
  simp only [SH.den, SO.den]
  rw [Assn.mul_assoc]
  show Sat w ((HO.all ns t (N + 1) cap fun j => if j = N then some y' else if j = i then some y else x j : HO E H).den ν (ν n) * _)
  simp only [HO.den]
  refine Sat.mk_ex_mul (fun j => if j = N then ν q else if j = i then ν p else bs j) ?_
  have e1 : (valsOf (N + 1) fun j => ptrO (if j = N then some y' else if j = i then some y else x j) (if j = N then ν q else if j = i then ν p else bs j)) = valsOf (N + 1) fun j => if j = N then SC.denL ν [.ptr q 0] else g' j := valsOf_congr fun j hj => by
    by_cases e : j = N
    · rw [if_pos e, if_pos e, if_pos e]; rfl
    · rw [if_neg e, if_neg e, if_neg e, hgg j (by omega), hbs j (by omega)]
      by_cases e2 : j = i
      · rw [if_pos e2, if_pos e2, if_pos e2]; rfl
      · rw [if_neg e2, if_neg e2, if_neg e2]
  have e2 : (starN (N + 1) fun j => optDen H ν (if j = N then ν q else if j = i then ν p else bs j) ns (if j = N then some y' else if j = i then some y else x j)) = hidDen H ν (ν q) ns y' * (hidDen H ν (ν p) ns y * starN N fun j => if j = i then 1 else optDen H ν (bs j) ns (x j)) := by
    simp only [starN, if_true]
    congr 1
    rw [starN_take hi]
    rw [if_neg (by omega), if_pos rfl, if_neg (by omega), if_pos rfl]
    congr 1
    exact starN_congr fun j hj => by
      by_cases e : j = i
      · rw [if_pos e, if_pos e]
      · rw [if_neg e, if_neg e, if_neg (by omega), if_neg e, if_neg (by omega), if_neg e]
  rw [e1, e2]
  exact H7.cast (by ac_rfl)
def pushTG (ts : Nat) : Ghost (E.hid H) := ⟨pushTRun ts, pushT_ok ts⟩
def expK (ns : List Nat) (x : Nat → Option H.X) (base : Nat) : Nat → SH (E.hid H) → (SH (E.hid H) → Prop) → Prop
  | 0, h, K => K h
  | c + 1, h, K => ∀ y, x c = some y → expK ns x base c ((base + c, .ext (HO.obj ns y)) :: h) K
def ptrsC (base : Nat) : Nat → List SC
  | 0 => []
  | c + 1 => ptrsC base c ++ [.ptr (base + c) 0]
theorem ptrsC_den {μ : Nat → Nat} {base : Nat} {bs : Nat → Nat} {x : Nat → Option H.X} : ∀ {c : Nat}, (∀ j, j < c → μ (base + j) = bs j ∧ (x j).isSome = true) → SC.denL μ (ptrsC base c) = valsOf c fun j => ptrO (x j) (bs j)
  | 0, _ => rfl
  | c + 1, h => by
    have ih := ptrsC_den (c := c) fun j hj => h j (Nat.lt_succ_of_lt hj)
    obtain ⟨h1, h2⟩ := h c (Nat.lt_succ_self c)
    rw [valsOf_succ, ← ih]
    simp only [ptrsC, denL_map, List.map_append, List.map_cons, List.map_nil, SC.den, h1]
    cases hx : x c with
    | none => rw [hx] at h2; cases h2
    | some y => rfl
theorem expK_ok {ns : List Nat} {x : Nat → Option H.X} {base : Nat} {bs : Nat → Nat} {μ : Nat → Nat} {w : World} {R : Assn} : ∀ {c : Nat} {h : SH (E.hid H)} {K : SH (E.hid H) → Prop}, expK ns x base c h K → (∀ j, j < c → μ (base + j) = bs j ∧ (x j).isSome = true) →
    Sat w ((starN c fun j => optDen H μ (bs j) ns (x j)) * (h.den μ * R)) → ∃ h', K h' ∧ Sat w (h'.den μ * R)
  | 0, h, K, hk, _, hs => ⟨h, hk, by simp only [starN] at hs; rw [Assn.one_mul] at hs; exact hs⟩
  | c + 1, h, K, hk, hm, hs => by
    obtain ⟨h1, h2⟩ := hm c (Nat.lt_succ_self c)
    cases hx : x c with
    | none => rw [hx] at h2; cases h2
    | some y =>
      refine expK_ok (c := c) (hk y hx) (fun j hj => hm j (Nat.lt_succ_of_lt hj)) ?_
      simp only [starN] at hs
      rw [hx] at hs
      simp only [SH.den, SO.den]
      have e : (E.hid H).den μ (μ (base + c)) (HO.obj ns y) = optDen H μ (bs c) ns (some y) := by rw [h1]; rfl
      rw [e]
      exact hs.cast (by ac_rfl)
def expRun (ts : Nat) (f : SF) (m : Mem (E.hid H)) (K : Mem (E.hid H) → Prop) : Prop :=
  match rowAt? f ts with
  | some n => match m.hp.get n with
    | some (.ext (HO.all ns t N cap x)) => bif (m.hp.names.all fun k => Nat.blt k m.nx) && ns.all fun k => Nat.blt k m.nx then
        (1 ≤ N ∧ N ≤ 4 ∧ ∀ j, j < N → (x j).isSome = true) ∧
          (N = 1 → expK ns x m.nx 1 ((n, .row t 1 1 cap (ptrsC m.nx 1)) :: m.hp.del n) fun h => K ⟨h, m.nx + 1⟩) ∧
          (N = 2 → expK ns x m.nx 2 ((n, .row t 1 2 cap (ptrsC m.nx 2)) :: m.hp.del n) fun h => K ⟨h, m.nx + 2⟩) ∧
          (N = 3 → expK ns x m.nx 3 ((n, .row t 1 3 cap (ptrsC m.nx 3)) :: m.hp.del n) fun h => K ⟨h, m.nx + 3⟩) ∧
          (N = 4 → expK ns x m.nx 4 ((n, .row t 1 4 cap (ptrsC m.nx 4)) :: m.hp.del n) fun h => K ⟨h, m.nx + 4⟩)
      else Stuck 835
    | _ => Stuck 836
  | none => Stuck 837
theorem get_names {n : Nat} : ∀ {l : SH E} {o : SO E}, l.get n = some o → n ∈ l.names
  | [], _, h => by cases h
  | (j, o') :: l, o, h => by
    simp only [SH.get] at h
    simp only [SH.names, List.mem_cons, List.mem_append]
    split at h
    · rename_i e; exact .inl e.symm
    · exact .inr (.inr (get_names h))
theorem exp_ok (ts : Nat) (f : SF) (m : Mem (E.hid H)) (K : Mem (E.hid H) → Prop) (h : expRun ts f m K) (ν : Nat → Nat) (w : World) (R : Assn) (hs : Sat w (m.hp.den ν * R)) :
    ∃ m' μ, K m' ∧ Agree m.nx ν μ ∧ m.nx ≤ m'.nx ∧ Sat w (m'.hp.den μ * R) := by
  unfold expRun at h
  split at h <;> try exact h.elim
  rename_i n hn
  split at h <;> try exact h.elim
  rename_i ns t N cap x hg
  cases hb : ((m.hp.names.all fun k => Nat.blt k m.nx) && ns.all fun k => Nat.blt k m.nx) <;> rw [hb] at h
  · exact h.elim
  simp only [cond_true] at h
  simp only [Bool.and_eq_true] at hb
  obtain ⟨⟨h1, h4, hx⟩, hk⟩ := h
  have hk2 : expK ns x m.nx N ((n, .row t 1 N cap (ptrsC m.nx N)) :: m.hp.del n) fun h => K ⟨h, m.nx + N⟩ := by
    obtain ⟨k1, k2, k3, k4⟩ := hk
    rcases (show N = 1 ∨ N = 2 ∨ N = 3 ∨ N = 4 by omega) with e | e | e | e
    · have := k1 e; subst e; exact this
    · have := k2 e; subst e; exact this
    · have := k3 e; subst e; exact this
    · have := k4 e; subst e; exact this
  have H1 := sat_row_first hg ν hs
  replace H1 : Sat w ((HO.all ns t N cap x : HO E H).den ν (ν n) * ((m.hp.del n).den ν * R)) := H1
  simp only [HO.den] at H1
  obtain ⟨bs, H1⟩ := H1.ex_mul
  let μ : Nat → Nat := fun k => if k < m.nx then ν k else bs (k - m.nx)
  have hlow : ∀ k, k < m.nx → ν k = μ k := fun k hk => (if_pos hk).symm
  have hup : ∀ j, μ (m.nx + j) = bs j := fun j => by
    show (if m.nx + j < m.nx then _ else bs (m.nx + j - m.nx)) = _
    rw [if_neg (by omega), Nat.add_sub_cancel_left]
  have hnn : n < m.nx := by
    have := List.all_eq_true.1 hb.1 n (get_names hg)
    simpa [Nat.blt_eq] using this
  have e1 : SH.den ν (m.hp.del n) = SH.den μ (m.hp.del n) := SH.den_eq _ fun k hk => all_lt hb.1 hlow k (names_del k hk)
  have e2 : (starN N fun j => optDen H ν (bs j) ns (x j)) = starN N fun j => optDen H μ (bs j) ns (x j) := starN_congr fun j _ => optDen_law fun k hk => all_lt hb.2 hlow k hk
  have e3 : SC.denL μ (ptrsC m.nx N) = valsOf N fun j => ptrO (x j) (bs j) := ptrsC_den fun j hj => ⟨hup j, hx j hj⟩
  rw [Assn.mul_assoc, e1, e2, hlow n hnn, ← e3] at H1
  obtain ⟨h', hk', hs'⟩ := expK_ok (R := R) (μ := μ) (bs := bs) hk2 (fun j hj => ⟨hup j, hx j hj⟩) (H1.cast (by
    simp only [SH.den, SO.den]
    ac_rfl))
  exact ⟨_, μ, hk', fun k hk => (hlow k hk).symm, by show m.nx ≤ m.nx + N; omega, hs'⟩
def expG (ts : Nat) : Ghost (E.hid H) := ⟨expRun ts, exp_ok ts⟩
end
end Go.Proofs.Ytnkikhhiaecebaa

/- The document's arena: a word is looked up; a block is given back. -/
namespace Go.Proofs.Ytnkikhhiaecebaa
open Go Go.RowKit
set_option maxRecDepth 1000000
set_option maxHeartbeats 0
def tblG3 : List (Smry Try.prog XV) := [at3S]
def faultsOk (y : D3) : Prop := 0 ≤ y.faults ∧ y.faults ≤ 1000000000
theorem doc_row {W : World} {a : Option Addr} {len cp : Nat} {bs : List (Nat × List Nat)} (h : DocAt W a len cp bs) : BlkRow W a len bs ∧ len ≤ 1000000 := ⟨h.row, Nat.le_trans h.few (by omega)⟩
theorem pl3_eq {W : World} {a : Option Addr} {len cp : Nat} {bs : List (Nat × List Nat)} (h : DocAt W a len cp bs) (k : Int) : at3F bs k len 0 = pl3 bs k := by unfold pl3; rw [h.len]
def get3_1 (y : D3) (W : World) (a : Option Addr) (len cp : Nat) (bs : List (Nat × List Nat)) (h i : Int) : Prop := ((-9223372036854775808 : Int) ≤ y.faults + (1 : Int) ∧ y.faults +
 (1 : Int) ≤ (9223372036854775807 : Int)) ∧ Grow W W ∧ DocAt W a len cp bs ∧ D3.mk y.cap y.births y.peak (y.faults + (1 : Int)) y.x0 y.x1 y.x2 y.x3 y.x4 y.x5 y.x6 y.x7 y.x8 y.t0 y.t1
 y.t2 y.t3 y.t4 y.t5 = get3Y y bs h i ∧ (0 : Int) = get3W y bs h i ∧ (24 : Int) = get3E y bs h i ∧ True
theorem get3_vc (W : World) (y : D3) (a : Option Addr) (len cp : Nat) (bs : List (Nat × List Nat)) (h i : Int) : (callN Try.prog (tblG3 : List (Smry Try.prog XV)) (fun _ _ => false) 100 20 105 [.agg (d3C y (.sliv a false len cp)), .agg [.int false .u64 h, .int false .i64 i]] ⟨[(0, .seen W)], 100⟩ (.nil) (fun v m _ => docOut true W bs (get3Y y bs h i) [.num .u64 (get3W y bs h i), .num .i64 (get3E y bs h i)] v m)) = (
 ((h != (0 : Int)) = true → ∃ (bs_1 : List (Nat × List Nat)), (BlkRow W a len bs_1 ∧ len ≤ 1000000) ∧ (decide (at3F bs_1 h len 0 < (0 : Int)) = true → ((-9223372036854775808 : Int) ≤
 y.faults + (1 : Int) ∧ y.faults + (1 : Int) ≤ (9223372036854775807 : Int)) ∧ Grow W W ∧ DocAt W a len cp bs ∧ D3.mk y.cap y.births y.peak (y.faults + (1 : Int)) y.x0 y.x1 y.x2 y.x3
 y.x4 y.x5 y.x6 y.x7 y.x8 y.t0 y.t1 y.t2 y.t3 y.t4 y.t5 = get3Y y bs h i ∧ (0 : Int) = get3W y bs h i ∧ (23 : Int) = get3E y bs h i ∧ True) ∧ (decide (at3F bs_1 h len 0 < (0 : Int))
 = false → ((0 : Int) ≤ at3F bs_1 h len 0 ∧ at3F bs_1 h len 0 < (↑len : Int) ∧ a.isSome = true) ∧ (addOpt a ((at3F bs_1 h len 0).toNat * 2)).isSome = true ∧ (∃ (x : Addr), addOpt
 (addOpt a ((at3F bs_1 h len 0).toNat * 2)) #[Field.mk "H" 29 0 false "" "" 0, Field.mk "W" 42 1 false "" "" 8][1].offset = some x ∧ W.cell? x = some (Value.slice (seenSli W (addOpt
 (addOpt a ((at3F bs_1 h len 0).toNat * 2)) #[Field.mk "H" 29 0 false "" "" 0, Field.mk "W" 42 1 false "" "" 8][1].offset)).fst (seenSli W (addOpt (addOpt a ((at3F bs_1 h len
 0).toNat * 2)) 1)).snd.fst (seenSli W (addOpt (addOpt a ((at3F bs_1 h len 0).toNat * 2)) 1)).snd.snd)) ∧ (decide (i < (0 : Int)) = true → get3_1 y W a len cp bs h i) ∧ (decide (i <
 (0 : Int)) = false → (decide (i ≥ (↑(seenSli W (addOpt (addOpt a ((at3F bs_1 h len 0).toNat * 2)) 1)).snd.fst : Int)) = true → get3_1 y W a len cp bs h i) ∧ (decide (i ≥ (↑(seenSli
 W (addOpt (addOpt a ((at3F bs_1 h len 0).toNat * 2)) 1)).snd.fst : Int)) = false → ((0 : Int) ≤ i ∧ i < (↑(seenSli W (addOpt (addOpt a ((at3F bs_1 h len 0).toNat * 2)) 1)).snd.fst :
 Int) ∧ (seenSli W (addOpt (addOpt a ((at3F bs_1 h len 0).toNat * 2)) 1)).fst.isSome = true) ∧ (∃ (x : Addr), addOpt (seenSli W (addOpt (addOpt a ((at3F bs_1 h len 0).toNat * 2))
 #[Field.mk "H" 29 0 false "" "" 0, Field.mk "W" 42 1 false "" "" 8][1].offset)).fst i.toNat = some x ∧ W.cell? x = some (Value.int .u64 (seenInt .u64 W (addOpt (seenSli W (addOpt
 (addOpt a ((at3F bs_1 h len 0).toNat * 2)) 1)).fst i.toNat)))) ∧ (W = W ∧ y.cap = y.cap ∧ y.births = y.births ∧ y.peak = y.peak ∧ y.faults = y.faults ∧ y.x0 = y.x0 ∧ y.x1 = y.x1 ∧
 y.x2 = y.x2 ∧ y.x3 = y.x3 ∧ y.x4 = y.x4 ∧ y.x5 = y.x5 ∧ y.x6 = y.x6 ∧ y.x7 = y.x7 ∧ y.x8 = y.x8 ∧ a = a ∧ len = len ∧ cp = cp ∧ y.t0 = y.t0 ∧ y.t1 = y.t1 ∧ y.t2 = y.t2 ∧ y.t3 = y.t3
 ∧ y.t4 = y.t4 ∧ y.t5 = y.t5 ∧ h = h ∧ i = i ∧ Grow W W ∧ DocAt W a len cp bs ∧ D3.mk y.cap y.births y.peak y.faults y.x0 y.x1 y.x2 y.x3 y.x4 y.x5 y.x6 y.x7 y.x8 y.t0 y.t1 y.t2 y.t3
 y.t4 y.t5 = get3Y y bs h i ∧ seenInt .u64 W (addOpt (seenSli W (addOpt (addOpt a ((at3F bs_1 h len 0).toNat * 2)) 1)).fst i.toNat) = get3W y bs h i ∧ (0 : Int) = get3E y bs h i ∧
 True) ∧ True)))) ∧ ((h != (0 : Int)) = false → (decide (i < (0 : Int)) = true → get3_1 y W a len cp bs h i) ∧ (decide (i < (0 : Int)) = false → (decide (i ≥ (9 : Int)) = true →
 get3_1 y W a len cp bs h i) ∧ (decide (i ≥ (9 : Int)) = false → ((0 : Int) ≤ i ∧ i < (9 : Int)) ∧ addO true 4 i.toNat < 4 ∧ (W = W ∧ y.cap = y.cap ∧ y.births = y.births ∧ y.peak =
 y.peak ∧ y.faults = y.faults ∧ y.x0 = y.x0 ∧ y.x1 = y.x1 ∧ y.x2 = y.x2 ∧ y.x3 = y.x3 ∧ y.x4 = y.x4 ∧ y.x5 = y.x5 ∧ y.x6 = y.x6 ∧ y.x7 = y.x7 ∧ y.x8 = y.x8 ∧ a = a ∧ len = len ∧ cp =
 cp ∧ y.t0 = y.t0 ∧ y.t1 = y.t1 ∧ y.t2 = y.t2 ∧ y.t3 = y.t3 ∧ y.t4 = y.t4 ∧ y.t5 = y.t5 ∧ h = h ∧ i = i ∧ Grow W W ∧ DocAt W a len cp bs ∧ D3.mk y.cap y.births y.peak y.faults y.x0
 y.x1 y.x2 y.x3 y.x4 y.x5 y.x6 y.x7 y.x8 y.t0 y.t1 y.t2 y.t3 y.t4 y.t5 = get3Y y bs h i ∧ Stuck 664) ∧ True)))) := by
  kernel_rfl
theorem get3_run (W : World) (y : D3) (a : Option Addr) (len cp : Nat) (bs : List (Nat × List Nat)) (h i : Int) (hc : DocAt W a len cp bs ∧ faultsOk y ∧ ¬ (h = 0 ∧ 0 ≤ i ∧ i < 9)) : Run (callN Try.prog (tblG3 : List (Smry Try.prog XV)) (fun _ _ => false) 100 20 105 [.agg (d3C y (.sliv a false len cp)), .agg [.int false .u64 h, .int false .i64 i]] ⟨[(0, .seen W)], 100⟩ (.nil) (fun v m _ => docOut true W bs (get3Y y bs h i) [.num .u64 (get3W y bs h i), .num .i64 (get3E y bs h i)] v m)) := by
  constructor
  rw [get3_vc]
  delta get3_1
  obtain ⟨hd, ⟨hf0, hf1⟩, hno⟩ := hc
  have row := hd.row
  have hfew := hd.few
  have epl := pl3_eq hd h
  have fin : ∀ (c : Int), word3 y bs h i = none → err3 bs h = c → (((-9223372036854775808 : Int) ≤ y.faults + 1 ∧ y.faults + 1 ≤ 9223372036854775807) ∧ Grow W W ∧ DocAt W a len cp bs ∧ D3.mk y.cap y.births y.peak (y.faults + 1) y.x0 y.x1 y.x2 y.x3 y.x4 y.x5 y.x6 y.x7 y.x8 y.t0 y.t1 y.t2 y.t3 y.t4 y.t5 = get3Y y bs h i ∧ (0 : Int) = get3W y bs h i ∧ c = get3E y bs h i ∧ True) := fun c hw he => by
    simp only [get3Y, get3W, get3E, hw, he]
    refine ⟨⟨by omega, by omega⟩, Grow.refl W, hd, ?_⟩
    repeat' first | exact trivial | exact rfl | apply And.intro
  refine ⟨fun hne => ⟨bs, doc_row hd, ?_, ?_⟩, fun heq => ?_⟩
  · rw [epl]
    intro hlt
    have hne : ¬ h = 0 := by simpa using hne
    have hlt := of_decide_eq_true hlt
    exact fin 23 (by unfold word3; rw [if_neg hne, if_pos hlt]) (by unfold err3; rw [if_neg hne, if_pos hlt])
  · rw [epl]
    intro hge
    have hne : ¬ h = 0 := by simpa using hne
    have hge := of_decide_eq_false hge
    rcases pl3_cases bs h with e | ⟨k, e, hk, hb⟩
    · omega
    have hkl : k < len := by rw [← hd.len]; exact hk
    obtain ⟨hsl, hws⟩ := row.slice hkl
    have hks := row.kinds hkl
    have hsm := row.sm (by omega)
    have eer : err3 bs h = 24 := by unfold err3; rw [if_neg hne, if_neg (by omega)]
    have ewd : word3 y bs h i = if 0 ≤ i ∧ i < ((blk3 bs k).2.length : Int) then some (((blk3 bs k).2.getD i.toNat 0 : Nat) : Int) else none := by unfold word3; rw [if_neg hne, if_neg (by omega), e, Int.toNat_natCast]
    have hsome : (addOpt a (k * 2)).isSome = true := by rw [addOpt, Option.isSome_map]; exact hsm
    simp only [e, Int.toNat_natCast]
    refine ⟨⟨by omega, by omega, hsm⟩, hsome, hks.2.1, fun hneg => ?_, fun hnn => ⟨fun hg => ?_, fun hl => ?_⟩⟩
    · have hneg := of_decide_eq_true hneg
      exact fin 24 (by rw [ewd, if_neg (by omega)]) eer
    · have hg := of_decide_eq_true hg
      exact fin 24 (by rw [ewd, if_neg (by omega)]) eer
    · have hnn := of_decide_eq_false hnn
      have hl := of_decide_eq_false hl
      have hin : i.toNat < (blk3 bs k).2.length := by omega
      obtain ⟨w1, w2⟩ := hws.wd hin
      have ew : word3 y bs h i = some (((blk3 bs k).2.getD i.toNat 0 : Nat) : Int) := by rw [ewd, if_pos (by omega)]
      have fin2 : Grow W W ∧ DocAt W a len cp bs ∧ D3.mk y.cap y.births y.peak y.faults y.x0 y.x1 y.x2 y.x3 y.x4 y.x5 y.x6 y.x7 y.x8 y.t0 y.t1 y.t2 y.t3 y.t4 y.t5 = get3Y y bs h i ∧ seenInt IntKind.u64 W (addOpt (seenSli W (addOpt (addOpt a (k * 2)) 1)).1 i.toNat) = get3W y bs h i ∧ (0 : Int) = get3E y bs h i ∧ True := by
        simp only [get3Y, get3W, get3E, ew]
        refine ⟨Grow.refl W, hd, ?_⟩
        repeat' first | exact trivial | exact w2 | exact rfl | apply And.intro
      refine ⟨⟨by omega, by omega, hws.sm (by omega)⟩, w1, ?_, trivial⟩
      repeat (first | refine ⟨rfl, ?_⟩ | refine ⟨trivial, ?_⟩)
      exact fin2
  · have heq : h = 0 := by simpa using heq
    have eer : err3 bs h = 24 := by unfold err3; rw [if_pos heq]
    have ewd : word3 y bs h i = none := by unfold word3; rw [if_pos heq, if_neg (fun hh => hno ⟨heq, hh⟩)]
    refine ⟨fun hneg => fin 24 ewd eer, fun hnn => ⟨fun hg => fin 24 ewd eer, fun hl => ?_⟩⟩
    have hnn := of_decide_eq_false hnn
    have hl := of_decide_eq_false hl
    exact (hno ⟨heq, by omega, by omega⟩).elim
def getFC (k : Int) (W : World) (y : D3) (a : Option Addr) (len cp : Nat) (bs : List (Nat × List Nat)) : Prop := callN Try.prog (tblG3 : List (Smry Try.prog XV)) (fun _ _ => false) 100 20 105 [.agg (d3C y (.sliv a false len cp)), .agg [.int true .u64 0, .int true .i64 k]] ⟨[(0, .seen W)], 100⟩ (.nil) (fun v m _ => docOut true W bs (get3Y y bs 0 k) [.num .u64 (get3W y bs 0 k), .num .i64 (get3E y bs 0 k)] v m)
def getFV (x k : Int) (W : World) (y : D3) (a : Option Addr) (len cp : Nat) (bs : List (Nat × List Nat)) : Prop := (W = W ∧ y.cap = y.cap ∧ y.births = y.births ∧ y.peak = y.peak ∧ y.faults = y.faults ∧ y.x0 = y.x0 ∧ y.x1 = y.x1 ∧ y.x2 = y.x2 ∧ y.x3 = y.x3 ∧ y.x4 = y.x4 ∧ y.x5 = y.x5 ∧ y.x6 = y.x6 ∧ y.x7 = y.x7 ∧ y.x8 = y.x8 ∧ a = a ∧ len = len ∧ cp = cp ∧ y.t0 = y.t0 ∧ y.t1 = y.t1 ∧ y.t2 = y.t2 ∧ y.t3 = y.t3 ∧ y.t4 = y.t4 ∧ y.t5 = y.t5 ∧ Grow W W ∧ DocAt W a len cp bs ∧ D3.mk y.cap y.births y.peak y.faults y.x0 y.x1 y.x2 y.x3 y.x4 y.x5 y.x6 y.x7 y.x8 y.t0 y.t1 y.t2 y.t3 y.t4 y.t5 = y ∧ x = get3W y bs (0 : Int) k ∧ (0 : Int) = get3E y bs (0 : Int) k ∧ True) ∧ True
theorem getF_of {x k : Int} {W : World} {y : D3} {a : Option Addr} {len cp : Nat} {bs : List (Nat × List Nat)} (h : getFC k W y a len cp bs = getFV x k W y a len cp bs) (ew : word3 y bs 0 k = some x) (hc : DocAt W a len cp bs) : Run (getFC k W y a len cp bs) := by
  constructor
  rw [h]
  unfold getFV
  simp only [get3W, get3E, ew]
  repeat' first | exact hc | exact Grow.refl W | with_reducible exact rfl | exact trivial | with_reducible apply And.intro | exact rfl
theorem getF0_run (W : World) (y : D3) (a : Option Addr) (len cp : Nat) (bs : List (Nat × List Nat)) (hc : DocAt W a len cp bs) : Run (getFC 0 W y a len cp bs) := getF_of (x := y.x0) (by kernel_rfl) rfl hc
theorem getF1_run (W : World) (y : D3) (a : Option Addr) (len cp : Nat) (bs : List (Nat × List Nat)) (hc : DocAt W a len cp bs) : Run (getFC 1 W y a len cp bs) := getF_of (x := y.x1) (by kernel_rfl) rfl hc
theorem getF2_run (W : World) (y : D3) (a : Option Addr) (len cp : Nat) (bs : List (Nat × List Nat)) (hc : DocAt W a len cp bs) : Run (getFC 2 W y a len cp bs) := getF_of (x := y.x2) (by kernel_rfl) rfl hc
theorem getF3_run (W : World) (y : D3) (a : Option Addr) (len cp : Nat) (bs : List (Nat × List Nat)) (hc : DocAt W a len cp bs) : Run (getFC 3 W y a len cp bs) := getF_of (x := y.x3) (by kernel_rfl) rfl hc
theorem getF4_run (W : World) (y : D3) (a : Option Addr) (len cp : Nat) (bs : List (Nat × List Nat)) (hc : DocAt W a len cp bs) : Run (getFC 4 W y a len cp bs) := getF_of (x := y.x4) (by kernel_rfl) rfl hc
theorem getF5_run (W : World) (y : D3) (a : Option Addr) (len cp : Nat) (bs : List (Nat × List Nat)) (hc : DocAt W a len cp bs) : Run (getFC 5 W y a len cp bs) := getF_of (x := y.x5) (by kernel_rfl) rfl hc
theorem getF6_run (W : World) (y : D3) (a : Option Addr) (len cp : Nat) (bs : List (Nat × List Nat)) (hc : DocAt W a len cp bs) : Run (getFC 6 W y a len cp bs) := getF_of (x := y.x6) (by kernel_rfl) rfl hc
theorem getF7_run (W : World) (y : D3) (a : Option Addr) (len cp : Nat) (bs : List (Nat × List Nat)) (hc : DocAt W a len cp bs) : Run (getFC 7 W y a len cp bs) := getF_of (x := y.x7) (by kernel_rfl) rfl hc
theorem getF8_run (W : World) (y : D3) (a : Option Addr) (len cp : Nat) (bs : List (Nat × List Nat)) (hc : DocAt W a len cp bs) : Run (getFC 8 W y a len cp bs) := getF_of (x := y.x8) (by kernel_rfl) rfl hc
theorem free3_vc (W : World) (y : D3) (a : Option Addr) (len cp : Nat) (bs : List (Nat × List Nat)) (h : Int) : (callN Try.prog (tblG3 : List (Smry Try.prog XV)) (fun _ _ => false) 100 20 33 [.agg (d3C y (.sliv a false len cp)), .c (.int false .u64 h)] ⟨[(0, .seen W)], 100⟩ (.both .nil (.ghost 7 (frzG 102) .nil)) (fun v m _ => docOut true W (free3B bs h) (free3Y y bs h) [.num .i64 (free3E bs h)] v m)) = (
 ∃ (bs_1 : List (Nat × List Nat)), (BlkRow W a len bs_1 ∧ len ≤ 1000000) ∧ (decide (at3F bs_1 h len 0 < (0 : Int)) = true → ((-9223372036854775808 : Int) ≤ y.faults + (1 : Int) ∧
 y.faults + (1 : Int) ≤ (9223372036854775807 : Int)) ∧ Grow W W ∧ DocAt W a len cp (free3B bs h) ∧ D3.mk y.cap y.births y.peak (y.faults + (1 : Int)) y.x0 y.x1 y.x2 y.x3 y.x4 y.x5
 y.x6 y.x7 y.x8 y.t0 y.t1 y.t2 y.t3 y.t4 y.t5 = free3Y y bs h ∧ (23 : Int) = free3E bs h ∧ True) ∧ (decide (at3F bs_1 h len 0 < (0 : Int)) = false → ((0 : Int) ≤ at3F bs_1 h len 0 ∧
 at3F bs_1 h len 0 ≤ (↑cp : Int)) ∧ True ∧ (a.isSome = true ∧ ∀ (j : Nat), j < (at3F bs_1 h len 0).toNat → (∃ (x : Addr), addOpt (addOpt a (j * 2)) 0 = some x ∧ W.cell? x = some
 (Value.int .u64 (seenInt .u64 W (addOpt (addOpt a (j * 2)) 0)))) ∧ (∃ (x : Addr), addOpt (addOpt a (j * 2)) (0 + 1) = some x ∧ W.cell? x = some (Value.slice (seenSli W (addOpt
 (addOpt a (j * 2)) (0 + 1))).fst (seenSli W (addOpt (addOpt a (j * 2)) 1)).snd.fst (seenSli W (addOpt (addOpt a (j * 2)) 1)).snd.snd)) ∧ True) ∧ 0 + (at3F bs_1 h len 0).toNat ≤
 1000000000 ∧ ∀ (cap : Nat), 0 + (at3F bs_1 h len 0).toNat ≤ cap → ((-9223372036854775808 : Int) ≤ at3F bs_1 h len 0 + (1 : Int) ∧ at3F bs_1 h len 0 + (1 : Int) ≤
 (9223372036854775807 : Int)) ∧ ((0 : Int) ≤ at3F bs_1 h len 0 + (1 : Int) ∧ at3F bs_1 h len 0 + (1 : Int) ≤ (↑len : Int)) ∧ (cap = cap ∧ 0 + (at3F bs_1 h len 0).toNat ≤ 0 + (at3F
 bs_1 h len 0).toNat) ∧ ((if cp = (at3F bs_1 h len 0 + (1 : Int)).toNat then a else addOpt a ((at3F bs_1 h len 0 + (1 : Int)).toNat * 2)).isSome = true ∧ ∀ (j : Nat), j < len - (at3F
 bs_1 h len 0 + (1 : Int)).toNat → (∃ (x : Addr), addOpt (addOpt (if cp = (at3F bs_1 h len 0 + (1 : Int)).toNat then a else addOpt a ((at3F bs_1 h len 0 + (1 : Int)).toNat * 2)) (j *
 2)) 0 = some x ∧ W.cell? x = some (Value.int .u64 (seenInt .u64 W (addOpt (addOpt (if cp = (at3F bs_1 h len 0 + (1 : Int)).toNat then a else addOpt a ((at3F bs_1 h len 0 + (1 :
 Int)).toNat * 2)) (j * 2)) 0)))) ∧ (∃ (x : Addr), addOpt (addOpt (if cp = (at3F bs_1 h len 0 + (1 : Int)).toNat then a else addOpt a ((at3F bs_1 h len 0 + (1 : Int)).toNat * 2)) (j
 * 2)) (0 + 1) = some x ∧ W.cell? x = some (Value.slice (seenSli W (addOpt (addOpt (if cp = (at3F bs_1 h len 0 + (1 : Int)).toNat then a else addOpt a ((at3F bs_1 h len 0 + (1 :
 Int)).toNat * 2)) (j * 2)) (0 + 1))).fst (seenSli W (addOpt (addOpt (if cp = (at3F bs_1 h len 0 + (1 : Int)).toNat then a else addOpt a ((at3F bs_1 h len 0 + (1 : Int)).toNat * 2))
 (j * 2)) 1)).snd.fst (seenSli W (addOpt (addOpt (if cp = (at3F bs_1 h len 0 + (1 : Int)).toNat then a else addOpt a ((at3F bs_1 h len 0 + (1 : Int)).toNat * 2)) (j * 2))
 1)).snd.snd)) ∧ True) ∧ 0 + (at3F bs_1 h len 0).toNat + (len - (at3F bs_1 h len 0 + (1 : Int)).toNat) ≤ 1000000000 ∧ ∀ (cap : Nat), 0 + (at3F bs_1 h len 0).toNat + (len - (at3F bs_1
 h len 0 + (1 : Int)).toNat) ≤ cap → ∀ (W' : World) (a_4 : Option Addr), Grow W W' → a_4.isSome = true → 0 + (at3F bs_1 h len 0).toNat + (len - (at3F bs_1 h len 0 + (1 : Int)).toNat)
 ≤ cap ∧ cap ≤ 9223372036854775807 → (∀ (j : Nat), j < 0 + (at3F bs_1 h len 0).toNat + (len - (at3F bs_1 h len 0 + (1 : Int)).toNat) → ∀ (c : Nat) (u : Value), (if j < 0 + (at3F bs_1
 h len 0).toNat then seenVals W (addOpt a (j * 2)) 0 [Kd.int IntKind.u64, Kd.sli] else seenVals W (addOpt (if cp = (at3F bs_1 h len 0 + (1 : Int)).toNat then a else addOpt a ((at3F
 bs_1 h len 0 + (1 : Int)).toNat * 2)) ((j - (0 + (at3F bs_1 h len 0).toNat)) * 2)) 0 [Kd.int IntKind.u64, Kd.sli])[c]? = some u → CellAt W' a_4 (j * 2 + c) u) →
 ((-9223372036854775808 : Int) ≤ y.t1 + (1 : Int) ∧ y.t1 + (1 : Int) ≤ (9223372036854775807 : Int)) ∧ Grow W W' ∧ DocAt W' a_4 (0 + (at3F bs_1 h len 0).toNat + (len - (at3F bs_1 h
 len 0 + (1 : Int)).toNat)) cap (free3B bs h) ∧ D3.mk y.cap y.births y.peak y.faults y.x0 y.x1 y.x2 y.x3 y.x4 y.x5 y.x6 y.x7 y.x8 y.t0 (y.t1 + (1 : Int)) y.t2 y.t3 y.t4 y.t5 = free3Y
 y bs h ∧ (0 : Int) = free3E bs h ∧ True)) := by
  kernel_rfl
theorem free3_run (W : World) (y : D3) (a : Option Addr) (len cp : Nat) (bs : List (Nat × List Nat)) (h : Int) (hc : DocAt W a len cp bs ∧ faultsOk y ∧ 0 ≤ y.t1 ∧ y.t1 ≤ 1000000000) : Run (callN Try.prog (tblG3 : List (Smry Try.prog XV)) (fun _ _ => false) 100 20 33 [.agg (d3C y (.sliv a false len cp)), .c (.int false .u64 h)] ⟨[(0, .seen W)], 100⟩ (.both .nil (.ghost 7 (frzG 102) .nil)) (fun v m _ => docOut true W (free3B bs h) (free3Y y bs h) [.num .i64 (free3E bs h)] v m)) := by
  constructor
  rw [free3_vc]
  obtain ⟨hd, ⟨hf0, hf1⟩, ht0, ht1⟩ := hc
  have row := hd.row
  have hfew := hd.few
  have hlc := hd.lc
  have epl := pl3_eq hd h
  refine ⟨bs, doc_row hd, ?_, ?_⟩
  · rw [epl]
    intro hlt
    have hlt := of_decide_eq_true hlt
    have e1 : free3B bs h = bs := if_pos hlt
    have e2 : free3Y y bs h = y.fault := if_pos hlt
    have e3 : free3E bs h = 23 := if_pos hlt
    rw [e1, e2, e3]
    refine ⟨⟨by omega, by omega⟩, Grow.refl W, hd, ?_⟩
    repeat' first | exact trivial | exact rfl | apply And.intro
  · rw [epl]
    intro hge
    have hge := of_decide_eq_false hge
    rcases pl3_cases bs h with e | ⟨i, e, hk, hb⟩
    · omega
    have hi : i < len := by rw [← hd.len]; exact hk
    have e1 : free3B bs h = bs.take i ++ bs.drop (i + 1) := by unfold free3B; rw [if_neg hge, e, Int.toNat_natCast]
    have e2 : free3Y y bs h = { y with t1 := y.t1 + 1 } := if_neg hge
    have e3 : free3E bs h = 0 := if_neg hge
    have hsm := row.sm (by omega)
    rw [e1, e2, e3]
    simp only [e, Int.toNat_natCast]
    have e4 : ((i : Int) + 1).toNat = i + 1 := by omega
    simp only [e4, Nat.zero_add]
    refine ⟨⟨by omega, by omega⟩, trivial, ⟨hsm, fun j hj => row.kinds (by omega)⟩, by omega, fun cap1 hcap1 => ⟨⟨by omega, by omega⟩, ⟨by omega, by omega⟩, ?_, ⟨?_, fun j hj => ?_⟩, by omega, fun cap2 hcap2 W' a' g s' hc' hold => ⟨⟨by omega, by omega⟩, g, ⟨row.cut g hi hlc s' hold, hc'.1, fun e => (by rw [e] at s'; cases s'), by omega, Nat.le_trans (tot3_cut bs i) hd.tot⟩, by first | rfl | trivial, by first | exact ⟨rfl, trivial⟩ | trivial⟩⟩⟩
    · repeat' first | with_reducible apply And.intro | exact trivial | exact Nat.le_refl _ | exact rfl
    · split
      · exact hsm
      · obtain ⟨x, rfl⟩ := Option.isSome_iff_exists.1 hsm
        rfl
    · rw [if_neg (by omega)]
      have hk := row.kinds (i := i + 1 + j) (by omega)
      rw [show (i + 1 + j) * 2 = (i + 1) * 2 + j * 2 by omega, ← addOpt_2] at hk
      exact hk
def set3_3 (W : World) (a : Option Addr) (bs_1 : List (Nat × List Nat)) (h : Int) (len : Nat) : Prop := (seenSli W (addOpt (addOpt a ((at3F bs_1 h len 0).toNat * 2)) 1)).fst.isSome
 = true ∧ ∀ (j : Nat), j < (seenSli W (addOpt (addOpt a ((at3F bs_1 h len 0).toNat * 2)) 1)).snd.fst → Seen .u64 W (addOpt (seenSli W (addOpt (addOpt a ((at3F bs_1 h len 0).toNat *
 2)) (0 + 1))).fst j)
def set3_4 (bs_1 : List (Nat × List Nat)) (h : Int) (len : Nat) : Prop := (0 : Int) ≤ at3F bs_1 h len 0 ∧ at3F bs_1 h len 0 < (↑(0 + len) : Int)
def set3_2 (y : D3) (a : Option Addr) (len cp : Nat) : SV := SV.agg [SC.int false .i64 y.cap, SC.int false .i64 y.births, SC.int false .i64 y.peak, SC.int false .i64 y.faults,
 SC.int false .u64 y.x0, SC.int false .u64 y.x1, SC.int false .u64 y.x2, SC.int false .u64 y.x3, SC.int false .u64 y.x4, SC.int false .u64 y.x5, SC.int false .u64 y.x6, SC.int false
 .u64 y.x7, SC.int false .u64 y.x8, SC.sliv a false len cp, SC.int false .i64 y.t0, SC.int false .i64 y.t1, SC.int false .i64 y.t2, SC.int false .i64 y.t3, SC.int false .i64 y.t4,
 SC.int false .i64 y.t5]
def set3_5  : ST := ST.node (SV.c (SC.ptr 100 13)) (ST.node (SV.tup []) ST.nil ST.nil) ST.nil
def set3_1 (W : World) (y : D3) (len cap : Nat) (a : Option Addr) (bs_1 : List (Nat × List Nat)) (h : Int) (K : KO XV) (cp : Nat) (i w : Int) : Prop := W = W ∧ y.cap = y.cap ∧
 y.births = y.births ∧ y.peak = y.peak ∧ y.faults = y.faults ∧ y.x0 = y.x0 ∧ y.x1 = y.x1 ∧ y.x2 = y.x2 ∧ y.x3 = y.x3 ∧ y.x4 = y.x4 ∧ y.x5 = y.x5 ∧ y.x6 = y.x6 ∧ y.x7 = y.x7 ∧ y.x8 =
 y.x8 ∧ 0 = 0 ∧ 0 + len = 0 + len ∧ cap = cap ∧ y.t0 = y.t0 ∧ y.t1 = y.t1 ∧ y.t2 = y.t2 ∧ y.t3 = y.t3 ∧ y.t4 = y.t4 ∧ y.t5 = y.t5 ∧ (True ∧ (set3_3 W a bs_1 h len) ∧ 0 + (seenSli W
 (addOpt (addOpt a ((at3F bs_1 h len 0).toNat * 2)) 1)).snd.fst ≤ 1000000000 ∧ ∀ (cap_1 : Nat), 0 + (seenSli W (addOpt (addOpt a ((at3F bs_1 h len 0).toNat * 2)) 1)).snd.fst ≤ cap_1
 → W = W ∧ y.cap = y.cap ∧ y.births = y.births ∧ y.peak = y.peak ∧ y.faults = y.faults ∧ y.x0 = y.x0 ∧ y.x1 = y.x1 ∧ y.x2 = y.x2 ∧ y.x3 = y.x3 ∧ y.x4 = y.x4 ∧ y.x5 = y.x5 ∧ y.x6 =
 y.x6 ∧ y.x7 = y.x7 ∧ y.x8 = y.x8 ∧ 0 = 0 ∧ 0 + len = 0 + len ∧ cap = cap ∧ y.t0 = y.t0 ∧ y.t1 = y.t1 ∧ y.t2 = y.t2 ∧ y.t3 = y.t3 ∧ y.t4 = y.t4 ∧ y.t5 = y.t5 ∧ (set3_4 bs_1 h len) ∧
 (addO true 0 (at3F bs_1 h len 0).toNat = (at3F bs_1 h len 0).toNat ∧ K (SF.mk 50 (ST.node (set3_2 y a len cp) (ST.node (SV.agg [SC.int false .u64 h, SC.int false .i64 i]) (ST.node
 (SV.c (SC.ptr 100 0)) (ST.node (SV.c (SC.int false .i64 (at3F bs_1 h len 0))) (ST.node (SV.tup []) (ST.node (SV.c (SC.sli 114 2 true 0 false (0 + len) cap)) ST.nil ST.nil) (ST.node
 (SV.tup []) ST.nil ST.nil)) (ST.node (SV.c (SC.sliv a false len cp)) (ST.node (SV.tup []) ST.nil ST.nil) ST.nil)) (ST.node (SV.tup []) (ST.node (SV.c (SC.int false .u64 h)) (ST.node
 (SV.c (SC.sliv (seenSli W (addOpt (addOpt a ((at3F bs_1 h len 0).toNat * 2)) (0 + 1))).fst false (seenSli W (addOpt (addOpt a ((at3F bs_1 h len 0).toNat * 2)) 1)).snd.fst (seenSli W
 (addOpt (addOpt a ((at3F bs_1 h len 0).toNat * 2)) 1)).snd.snd)) ST.nil ST.nil) ST.nil) (ST.node (SV.c (SC.sli 114 2 true 0 false (0 + len) cap)) (ST.node (SV.tup []) ST.nil ST.nil)
 ST.nil))) (ST.node (SV.tup []) (ST.node (SV.c (SC.int false .u64 h)) (ST.node (set3_2 y a len cp) (ST.node (SV.c (SC.elp 114 (addO true 0 (at3F bs_1 h len 0).toNat) 2 0)) ST.nil
 ST.nil) (ST.node (SV.tup []) ST.nil ST.nil)) (set3_5)) (ST.node (SV.tup []) (ST.node (SV.c (SC.sli 111 2 true 0 true 0 0)) (ST.node (SV.c (SC.elp 114 (addO true 0 (at3F bs_1 h len
 0).toNat) 2 0)) ST.nil ST.nil) ST.nil) (ST.node (SV.c (SC.sli 120 1 true 0 true 0 0)) (ST.node (SV.tup []) ST.nil ST.nil) ST.nil)))) (ST.node (SV.c (SC.int false .u64 w)) (ST.node
 (SV.c (SC.ptr 101 0)) (ST.node (SV.c (SC.ptr 101 0)) (ST.node (SV.tup []) (ST.node (SV.c (SC.int false .i64 (at3F bs_1 h len 0))) ST.nil ST.nil) (ST.node (SV.tup []) ST.nil ST.nil))
 (ST.node (SV.c (SC.sli 114 2 true 0 false (0 + len) cap)) (ST.node (SV.tup []) ST.nil ST.nil) ST.nil)) (ST.node (SV.tup []) (ST.node (SV.c (SC.int false .i64 (at3F bs_1 h len 0)))
 (ST.node (SV.c (SC.sli 127 1 true 0 false (0 + (seenSli W (addOpt (addOpt a ((at3F bs_1 h len 0).toNat * 2)) 1)).snd.fst) cap_1)) ST.nil ST.nil) ST.nil) (ST.node (SV.c (SC.int false
 .i64 (at3F bs_1 h len 0))) (ST.node (SV.tup []) ST.nil ST.nil) ST.nil))) (ST.node (SV.c (SC.ptr 102 0)) (ST.node (SV.c (SC.boo true false)) (ST.node (SV.c (SC.ptr 101 0)) (ST.node
 (SV.c (SC.elp 114 (addO true 0 (at3F bs_1 h len 0).toNat) 2 1)) ST.nil ST.nil) ST.nil) (set3_5)) (ST.node (SV.tup []) (ST.node (SV.c (SC.ptr 100 13)) (ST.node (SV.c (SC.elp 114
 (addO true 0 (at3F bs_1 h len 0).toNat) 2 1)) ST.nil ST.nil) ST.nil) (set3_5))))) []) (Mem.mk [(114, SO.arr 70 2 (0 + len) cap (fun (i : Nat) => seenVals W (addOpt a (i * 2)) 0
 [Kd.int IntKind.u64, Kd.sli]) (at3F bs_1 h len 0).toNat [SC.int false .u64 (seenInt .u64 W (addOpt (addOpt a ((at3F bs_1 h len 0).toNat * 2)) 0)) Bd.any, SC.sli 127 1 true 0 false
 (0 + (seenSli W (addOpt (addOpt a ((at3F bs_1 h len 0).toNat * 2)) 1)).snd.fst) cap_1]), (0, SO.seen W), (100, SO.cells [SC.int false .i64 y.cap, SC.int false .i64 y.births, SC.int
 false .i64 y.peak, SC.int false .i64 y.faults, SC.int false .u64 y.x0, SC.int false .u64 y.x1, SC.int false .u64 y.x2, SC.int false .u64 y.x3, SC.int false .u64 y.x4, SC.int false
 .u64 y.x5, SC.int false .u64 y.x6, SC.int false .u64 y.x7, SC.int false .u64 y.x8, SC.sli 114 2 true 0 false (0 + len) cap, SC.int false .i64 y.t0, SC.int false .i64 y.t1, SC.int
 false .i64 y.t2, SC.int false .i64 y.t3, SC.int false .i64 y.t4, SC.int false .i64 y.t5] 54), (101, SO.cells [SC.int false .u64 h, SC.int false .i64 i] 34), (102, SO.cells [SC.int
 true .i64 (0 : Int), SC.int true .i64 (0 : Int), SC.int true .i64 (0 : Int), SC.int true .i64 (0 : Int), SC.int true .u64 (0 : Int), SC.int true .u64 (0 : Int), SC.int true .u64 (0
 : Int), SC.int true .u64 (0 : Int), SC.int true .u64 (0 : Int), SC.int true .u64 (0 : Int), SC.int true .u64 (0 : Int), SC.int true .u64 (0 : Int), SC.int true .u64 (0 : Int),
 SC.nls, SC.int true .i64 (0 : Int), SC.int true .i64 (0 : Int), SC.int true .i64 (0 : Int), SC.int true .i64 (0 : Int), SC.int true .i64 (0 : Int), SC.int true .i64 (0 : Int)] 54),
 (127, SO.ints 29 .u64 (0 + (seenSli W (addOpt (addOpt a ((at3F bs_1 h len 0).toNat * 2)) 1)).snd.fst) cap_1 fun (i : Nat) => seenInt .u64 W (addOpt (seenSli W (addOpt (addOpt a
 ((at3F bs_1 h len 0).toNat * 2)) (0 + 1))).fst i))] 117) (Scr.ghost 8 (frzG 102) Scr.nil)) ∧ True) ∧ True
theorem set3_vc (W : World) (y : D3) (a : Option Addr) (len cp : Nat) (bs : List (Nat × List Nat)) (h i w : Int) : (callN Try.prog (tblG3 : List (Smry Try.prog XV)) (fun _ _ => false) 100 20 106 [.agg (d3C y (.sliv a false len cp)), .agg [.int false .u64 h, .int false .i64 i], .c (.int false .u64 w)] ⟨[(0, .seen W)], 100⟩ (.both .nil (.ghost 6 (arrG 24 7) (.ghost 8 (frzG 102) .nil))) (fun v m _ => docOut false W (set3B bs h i w) (set3X y h i w) [] v m)) = (
 ((h == (0 : Int)) = true → ((0 : Int) ≤ i ∧ i < (9 : Int)) ∧ i.toNat < 9 ∧ Grow W W ∧ DocAt W a len cp (set3B bs h i w) ∧ D3.mk y.cap y.births y.peak y.faults (if i.toNat = 0 then w
 else y.x0) (if i.toNat = 1 then w else y.x1) (if i.toNat = 2 then w else y.x2) (if i.toNat = 3 then w else y.x3) (if i.toNat = 4 then w else y.x4) (if i.toNat = 5 then w else y.x5)
 (if i.toNat = 6 then w else y.x6) (if i.toNat = 7 then w else y.x7) (if i.toNat = 8 then w else y.x8) y.t0 y.t1 y.t2 y.t3 y.t4 y.t5 = set3X y h i w) ∧ ((h == (0 : Int)) = false → ∃
 (bs_1 : List (Nat × List Nat)), (BlkRow W a len bs_1 ∧ len ≤ 1000000) ∧ True ∧ (a.isSome = true ∧ ∀ (j : Nat), j < len → (∃ (x : Addr), addOpt (addOpt a (j * 2)) 0 = some x ∧
 W.cell? x = some (Value.int .u64 (seenInt .u64 W (addOpt (addOpt a (j * 2)) 0)))) ∧ (∃ (x : Addr), addOpt (addOpt a (j * 2)) (0 + 1) = some x ∧ W.cell? x = some (Value.slice
 (seenSli W (addOpt (addOpt a (j * 2)) (0 + 1))).fst (seenSli W (addOpt (addOpt a (j * 2)) 1)).snd.fst (seenSli W (addOpt (addOpt a (j * 2)) 1)).snd.snd)) ∧ True) ∧ 0 + len ≤
 1000000000 ∧ ∀ (cap : Nat), 0 + len ≤ cap → (set3_4 bs_1 h len) ∧ (set3_4 bs_1 h len) ∧ (W = W ∧ y.cap = y.cap ∧ y.births = y.births ∧ y.peak = y.peak ∧ y.faults = y.faults ∧ y.x0 =
 y.x0 ∧ y.x1 = y.x1 ∧ y.x2 = y.x2 ∧ y.x3 = y.x3 ∧ y.x4 = y.x4 ∧ y.x5 = y.x5 ∧ y.x6 = y.x6 ∧ y.x7 = y.x7 ∧ y.x8 = y.x8 ∧ 0 = 0 ∧ 0 + len = 0 + len ∧ cap = cap ∧ y.t0 = y.t0 ∧ y.t1 =
 y.t1 ∧ y.t2 = y.t2 ∧ y.t3 = y.t3 ∧ y.t4 = y.t4 ∧ y.t5 = y.t5 ∧ (addO true 0 (at3F bs_1 h len 0).toNat = (at3F bs_1 h len 0).toNat ∧ W = W ∧ y.cap = y.cap ∧ y.births = y.births ∧
 y.peak = y.peak ∧ y.faults = y.faults ∧ y.x0 = y.x0 ∧ y.x1 = y.x1 ∧ y.x2 = y.x2 ∧ y.x3 = y.x3 ∧ y.x4 = y.x4 ∧ y.x5 = y.x5 ∧ y.x6 = y.x6 ∧ y.x7 = y.x7 ∧ y.x8 = y.x8 ∧ 0 = 0 ∧ 0 + len
 = 0 + len ∧ cap = cap ∧ y.t0 = y.t0 ∧ y.t1 = y.t1 ∧ y.t2 = y.t2 ∧ y.t3 = y.t3 ∧ y.t4 = y.t4 ∧ y.t5 = y.t5 ∧ (True ∧ (set3_3 W a bs_1 h len) ∧ 0 + (seenSli W (addOpt (addOpt a ((at3F
 bs_1 h len 0).toNat * 2)) 1)).snd.fst ≤ 1000000000 ∧ ∀ (cap_1 : Nat), 0 + (seenSli W (addOpt (addOpt a ((at3F bs_1 h len 0).toNat * 2)) 1)).snd.fst ≤ cap_1 → W = W ∧ y.cap = y.cap ∧
 y.births = y.births ∧ y.peak = y.peak ∧ y.faults = y.faults ∧ y.x0 = y.x0 ∧ y.x1 = y.x1 ∧ y.x2 = y.x2 ∧ y.x3 = y.x3 ∧ y.x4 = y.x4 ∧ y.x5 = y.x5 ∧ y.x6 = y.x6 ∧ y.x7 = y.x7 ∧ y.x8 =
 y.x8 ∧ 0 = 0 ∧ 0 + len = 0 + len ∧ cap = cap ∧ y.t0 = y.t0 ∧ y.t1 = y.t1 ∧ y.t2 = y.t2 ∧ y.t3 = y.t3 ∧ y.t4 = y.t4 ∧ y.t5 = y.t5 ∧ (set3_4 bs_1 h len) ∧ (addO true 0 (at3F bs_1 h
 len 0).toNat = (at3F bs_1 h len 0).toNat ∧ (set3_4 bs_1 h len) ∧ addO true 0 (at3F bs_1 h len 0).toNat = (at3F bs_1 h len 0).toNat ∧ ((0 : Int) ≤ i ∧ i < (↑(0 + (seenSli W (addOpt
 (addOpt a ((at3F bs_1 h len 0).toNat * 2)) 1)).snd.fst) : Int)) ∧ (addO true 0 i.toNat < 0 + (seenSli W (addOpt (addOpt a ((at3F bs_1 h len 0).toNat * 2)) 1)).snd.fst ∧ ∀ (W' :
 World) (a_4 : Option Addr), Grow W W' → a_4.isSome = true → 0 + (seenSli W (addOpt (addOpt a ((at3F bs_1 h len 0).toNat * 2)) 1)).snd.fst ≤ cap_1 ∧ cap_1 ≤ 9223372036854775807 → (∀
 (j : Nat), j < 0 + (seenSli W (addOpt (addOpt a ((at3F bs_1 h len 0).toNat * 2)) 1)).snd.fst → CellAt W' a_4 j (Value.int .u64 (if j = addO true 0 i.toNat then w else seenInt .u64 W
 (addOpt (seenSli W (addOpt (addOpt a ((at3F bs_1 h len 0).toNat * 2)) 1)).fst j)))) → ∀ (W'_1 : World) (a_9 : Option Addr), Grow W' W'_1 → a_9.isSome = true → 0 + len ≤ cap ∧ cap ≤
 9223372036854775807 → (at3F bs_1 h len 0).toNat < 0 + len → (∀ (j : Nat), j < 0 + len → j ≠ (at3F bs_1 h len 0).toNat → ∀ (c : Nat) (u : Value), (seenVals W (addOpt a (j * 2)) 0
 [Kd.int IntKind.u64, Kd.sli])[c]? = some u → CellAt W'_1 a_9 (j * 2 + c) u) → (∀ (c : Nat) (u : Value), [Value.int .u64 (seenInt .u64 W (addOpt (addOpt a ((at3F bs_1 h len 0).toNat
 * 2)) 0)), Value.slice a_4 (0 + (seenSli W (addOpt (addOpt a ((at3F bs_1 h len 0).toNat * 2)) (0 + 1))).snd.fst) cap_1][c]? = some u → CellAt W'_1 a_9 ((at3F bs_1 h len 0).toNat * 2
 + c) u) → Grow W W'_1 ∧ DocAt W'_1 a_9 (0 + len) cap (set3B bs h i w) ∧ D3.mk y.cap y.births y.peak y.faults y.x0 y.x1 y.x2 y.x3 y.x4 y.x5 y.x6 y.x7 y.x8 y.t0 y.t1 y.t2 y.t3 y.t4
 y.t5 = set3X y h i w) ∧ True) ∧ True) ∧ True) ∧ True) ∧ (∀ (K : KO XV), W = W ∧ y.cap = y.cap ∧ y.births = y.births ∧ y.peak = y.peak ∧ y.faults = y.faults ∧ y.x0 = y.x0 ∧ y.x1 =
 y.x1 ∧ y.x2 = y.x2 ∧ y.x3 = y.x3 ∧ y.x4 = y.x4 ∧ y.x5 = y.x5 ∧ y.x6 = y.x6 ∧ y.x7 = y.x7 ∧ y.x8 = y.x8 ∧ 0 = 0 ∧ 0 + len = 0 + len ∧ cap = cap ∧ y.t0 = y.t0 ∧ y.t1 = y.t1 ∧ y.t2 =
 y.t2 ∧ y.t3 = y.t3 ∧ y.t4 = y.t4 ∧ y.t5 = y.t5 ∧ (addO true 0 (at3F bs_1 h len 0).toNat = (at3F bs_1 h len 0).toNat ∧ set3_1 W y len cap a bs_1 h K cp i w) ∧ True → addO true 0
 (at3F bs_1 h len 0).toNat = (at3F bs_1 h len 0).toNat ∧ W = W ∧ y.cap = y.cap ∧ y.births = y.births ∧ y.peak = y.peak ∧ y.faults = y.faults ∧ y.x0 = y.x0 ∧ y.x1 = y.x1 ∧ y.x2 = y.x2
 ∧ y.x3 = y.x3 ∧ y.x4 = y.x4 ∧ y.x5 = y.x5 ∧ y.x6 = y.x6 ∧ y.x7 = y.x7 ∧ y.x8 = y.x8 ∧ 0 = 0 ∧ 0 + len = 0 + len ∧ cap = cap ∧ y.t0 = y.t0 ∧ y.t1 = y.t1 ∧ y.t2 = y.t2 ∧ y.t3 = y.t3 ∧
 y.t4 = y.t4 ∧ y.t5 = y.t5 ∧ (set3_1 W y len cap a bs_1 h K cp i w) ∧ True) ∧ True)) := by
  kernel_rfl
theorem set3_run (W : World) (y : D3) (a : Option Addr) (len cp : Nat) (bs : List (Nat × List Nat)) (h i w : Int) (hc : DocAt W a len cp bs ∧ (word3 y bs h i).isSome = true ∧ 0 ≤ w ∧ w < 18446744073709551616) : Run (callN Try.prog (tblG3 : List (Smry Try.prog XV)) (fun _ _ => false) 100 20 106 [.agg (d3C y (.sliv a false len cp)), .agg [.int false .u64 h, .int false .i64 i], .c (.int false .u64 w)] ⟨[(0, .seen W)], 100⟩ (.both .nil (.ghost 6 (arrG 24 7) (.ghost 8 (frzG 102) .nil))) (fun v m _ => docOut false W (set3B bs h i w) (set3X y h i w) [] v m)) := by
  constructor
  rw [set3_vc]
  delta set3_3 set3_4 set3_2 set3_5 set3_1
  obtain ⟨hd, hw, w0, w1⟩ := hc
  have row := hd.row
  have hfew := hd.few
  have htot := hd.tot
  have epl := pl3_eq hd h
  refine ⟨fun heq => ?_, fun hne => ⟨bs, doc_row hd, ?_⟩⟩
  · have h0 : h = 0 := by simpa using heq
    subst h0
    have hi : 0 ≤ i ∧ i < 9 := by
      unfold word3 at hw
      rw [if_pos rfl] at hw
      split at hw
      · assumption
      · cases hw
    have e1 : set3B bs 0 i w = bs := if_pos rfl
    have e2 : set3X y 0 i w = y.setF i.toNat w := if_pos rfl
    rw [e1, e2]
    repeat' first | exact hd | exact Grow.refl W | with_reducible exact rfl | exact trivial | with_reducible apply And.intro | omega | exact rfl
  · have hne : ¬ h = 0 := by simpa using hne
    rw [epl]
    rcases pl3_cases bs h with e | ⟨k, e, hk, hb⟩
    · exfalso
      unfold word3 at hw
      rw [if_neg hne, if_pos (by omega)] at hw
      cases hw
    have hkl : k < len := by rw [← hd.len]; exact hk
    obtain ⟨hsl, hws⟩ := row.slice hkl
    have hks := row.kinds hkl
    have hsm := row.sm (by omega)
    have hbl := tot3_blk hk
    have hh := row.handle hkl
    have hi : 0 ≤ i ∧ i < ((blk3 bs k).2.length : Int) := by
      unfold word3 at hw
      rw [if_neg hne, if_neg (by omega), e, Int.toNat_natCast] at hw
      split at hw
      · assumption
      · cases hw
    have hwsm := hws.sm (by omega)
    have hwd : ∀ j, j < (seenSli W (addOpt (addOpt a (k * 2)) 1)).2.1 → Seen .u64 W (addOpt (seenSli W (addOpt (addOpt a (k * 2)) 1)).1 j) := fun j hj => (hws.wd (by omega)).1
    have e1 : set3B bs h i w = set3L bs k i.toNat w.toNat := by unfold set3B; rw [if_neg hne, e, Int.toNat_natCast]
    have e2 : set3X y h i w = y := if_neg hne
    have ao : ∀ n, addO true 0 n = n := fun _ => rfl
    rw [e1, e2]
    simp only [e, Int.toNat_natCast, Nat.zero_add, ao]
    refine ⟨trivial, ⟨hsm, fun j hj => row.kinds hj⟩, by omega, fun cap hcap => ?_⟩
    repeat' first
      | (refine fun (K : KO XV) => ?_; simp only [eq_self, true_and, and_true, and_imp, forall_const, imp_self, implies_true]; intros; repeat' (first | assumption | apply And.intro | exact trivial | exact rfl); done)
      | (refine fun (K : KO XV) => ?_; intro h; simp only [eq_self, true_and, and_true] at h ⊢; first | exact h | (simp_all; done); done)
      | with_reducible apply And.intro
      | with_reducible exact trivial
      | with_reducible exact Eq.refl _
      | exact hwsm
      | exact hwd
      | (intro _)
    all_goals first
      | omega
      | exact rfl
      | exact Grow.trans ‹Grow W _› ‹Grow _ _›
      | (rename_i cap1 hcap1 W1 a1 g1 s1 c1 f1 W2 a2 g2 s2 c2 k2 hold hnew
         rw [hh] at hnew
         exact ⟨row.set (g1.trans g2) hkl s2 (by omega) s1 hold (by rw [← hsl]; exact hnew) (fun j hj => by
           have h1 := f1 j (by omega)
           rw [show ((w.toNat : Nat) : Int) = w by omega]
           exact (h1.grow g2)), hcap, fun e => (by rw [e] at s2; cases s2), hfew, by rw [set3L_tot bs _ _ hk]; exact htot⟩)
      | skip
end Go.Proofs.Ytnkikhhiaecebaa
