/- HeadLists: for all blocks and all cursors the law returns true and turns nothing; condition: the blocks are read as such. -/
import Derived.Test.YtnfpkadepomjjaaBlk7
import Derived.Test.YtnfpkadepomjjaaBaseHN
import Derived.Test.YtnfpkadepomjjaaBaseG
import Derived.Test.YtnfpkadepomjjaaSlis
set_option linter.all false
namespace Go.Proofs.Ytnfpkadepomjjaa
open Go Go.RowKit
set_option maxRecDepth 1000000
set_option maxHeartbeats 0
/-- Entries of numbers that fit. -/
def EOk (e : Ent) : Prop := e.1 < TW ∧ (0 ≤ e.2.1 ∧ e.2.1 ≤ 254) ∧ (0 ≤ e.2.2.1 ∧ e.2.2.1 < 18446744073709551616) ∧ 0 ≤ e.2.2.2 ∧ e.2.2.2 < 18446744073709551616
theorem wsF_small {ws : List Nat} (h : ∀ z ∈ ws, z < TW) (i : Nat) : 0 ≤ wsF ws i ∧ wsF ws i < 18446744073709551616 := by
  unfold wsF
  rw [List.getD_eq_getElem?_getD]
  rcases Nat.lt_or_ge i ws.length with hi | hi
  · rw [List.getElem?_eq_getElem hi]
    have := h _ (List.getElem_mem hi)
    unfold TW at this
    simp only [Option.getD_some]
    omega
  · rw [List.getElem?_eq_none hi]
    simp
theorem entE_ok {ks : List (Nat × List Nat)} {c : Nat} (hw : ∀ z ∈ hwds ks c, z < TW) (hc : c < TW) (ho : enOkF (hwds ks c).length (wsF (hwds ks c)) = true) : EOk (entE ks c) := by
  have h1 := wsF_small hw 1
  have h2 := wsF_small hw 2
  refine ⟨hc, ?_, ?_, ?_⟩
  · show 0 ≤ enSF _ _ ∧ enSF _ _ ≤ 254
    unfold enSF
    rw [if_pos ho]
    have h3 : (hwds ks c).length = 3 := by
      by_cases e : (hwds ks c).length = 3
      · exact e
      · rw [enOkF_no e] at ho; cases ho
    rw [h3] at ho
    have ho : entB (smF (wsF (hwds ks c) 0)) (wsF (hwds ks c) 1) (wsF (hwds ks c) 2) = true := ho
    unfold entB at ho
    simp only [Bool.and_eq_true, decide_eq_true_eq] at ho
    exact ho.2.1
  · show 0 ≤ enNF _ _ ∧ enNF _ _ < _
    unfold enNF
    rw [if_pos ho]
    exact h1
  · show 0 ≤ enXF _ _ ∧ enXF _ _ < _
    unfold enXF
    rw [if_pos ho]
    exact h2
theorem chainF_ok {ks : List (Nat × List Nat)} (hw : ∀ c z, z ∈ hwds ks c → z < TW) : ∀ (n c : Nat) (l r : List Ent), chainF ks n c l = some r → c < TW → l.length ≤ 1000 → (∀ e ∈ l, EOk e) → r.length ≤ 1000 ∧ ∀ e ∈ r, EOk e
  | 0, c, l, r, h, _, _, _ => by cases h
  | n + 1, c, l, r, h, hc, hl, he => by
    unfold chainF at h
    by_cases h0 : c = 0
    · rw [if_pos h0] at h
      cases h
      exact ⟨hl, he⟩
    · rw [if_neg h0] at h
      by_cases h1 : enOkF (hwds ks c).length (wsF (hwds ks c)) = true ∧ l.length < 1000
      · rw [if_pos h1] at h
        obtain ⟨k, ek, hk⟩ := enX_nat (hw c)
        refine chainF_ok hw n _ _ r h (by rw [ek]; exact hk) (by rw [List.length_append, List.length_singleton]; omega) (fun e hm => ?_)
        rcases List.mem_append.1 hm with hm | hm
        · exact he e hm
        · have := List.mem_singleton.1 hm
          subst this
          exact entE_ok (hw c) hc h1.1
      · rw [if_neg h1] at h
        cases h
theorem hwds_small {W : World} {a : Option Addr} {len : Nat} {bs : List (Nat × List Nat)} (row : BlkRow W a len bs) (c z : Nat) (hz : z ∈ hwds bs c) : z < TW := by
  rcases hwds_at (c := c) row.num with ⟨_, hnil⟩ | ⟨j, _, hj, hb⟩
  · rw [hnil] at hz; cases hz
  · rw [hb] at hz
    obtain ⟨i, hi⟩ := List.mem_iff_getElem?.1 hz
    have := ((row.slice hj).2.at' i z hi).2
    unfold TW
    omega
theorem ent_getD {l : List Ent} (h : ∀ e ∈ l, EOk e) (i : Nat) : EOk (l.getD i (0, 0, 0, 0)) := by
  rw [List.getD_eq_getElem?_getD]
  rcases Nat.lt_or_ge i l.length with hi | hi
  · rw [List.getElem?_eq_getElem hi]
    exact h _ (List.getElem_mem hi)
  · rw [List.getElem?_eq_none hi]
    exact ⟨by show 0 < TW; unfold TW; omega, ⟨by show (0 : Int) ≤ 0; omega, by show (0 : Int) ≤ 254; omega⟩, ⟨by show (0 : Int) ≤ 0; omega, by show (0 : Int) < _; omega⟩, by show (0 : Int) ≤ 0; omega, by show (0 : Int) < _; omega⟩
/-- One entry, read. -/
structure EntRd (W : World) (a : Option Addr) (e : Ent) : Prop where
  kinds : SeenL W a 0 [.int .i64, .int .u64, .int .u64]
  s : seenInt .i64 W (addOpt a 0) = e.2.1
  n : seenInt .u64 W (addOpt a 1) = e.2.2.1
  x : seenInt .u64 W (addOpt a 2) = e.2.2.2
theorem EntAt.ent {W : World} {a : Option Addr} {n : Nat} {l : List Ent} (h : EntAt W a n l) (ho : ∀ e ∈ l, EOk e) {i : Nat} (hi : i < n) : EntRd W (addOpt a (i * 3)) (l.getD i (0, 0, 0, 0)) := by
  have hl : i < l.length := by rw [h.num]; exact hi
  have hv : ∀ c, c < 3 → (ecells l)[i * 3 + c]? = (entV l i)[c]? := fun c hc => valsOf_get 3 l.length (entV l) (fun _ _ => rfl) i c hl hc
  have c0 := h.at' _ _ ((hv 0 (by omega)).trans rfl)
  have c1 := h.at' _ _ ((hv 1 (by omega)).trans rfl)
  have c2 := h.at' _ _ ((hv 2 (by omega)).trans rfl)
  obtain ⟨_, b0, b1, b2⟩ := ent_getD ho i
  generalize l.getD i (0, 0, 0, 0) = e at *
  have r0 := CellAt.int (k := .i64) c0 (show -9223372036854775808 ≤ e.2.1 by omega) (show e.2.1 ≤ 9223372036854775807 by omega)
  have r1 := CellAt.int (k := .u64) c1 (show 0 ≤ e.2.2.1 by omega) (show e.2.2.1 ≤ 18446744073709551615 by omega)
  have r2 := CellAt.int (k := .u64) c2 (show 0 ≤ e.2.2.2 by omega) (show e.2.2.2 ≤ 18446744073709551615 by omega)
  rw [← addOpt_2] at r0 r1 r2
  exact ⟨⟨r0.1, r1.1, r2.1, trivial⟩, r0.2, r1.2, r2.2⟩
theorem CurAt.words {W : World} {a : Option Addr} {n : Nat} {l : List Ent} (h : CurAt W a n l) (ho : ∀ e ∈ l, EOk e) (i : Nat) (hi : i < n) : Seen .u64 W (addOpt a i) ∧ sfF W a i = entC l i := by
  have hl : i < l.length := by rw [h.num]; exact hi
  have c0 := h.at' i _ (by unfold ccells; rw [intsOf_get _ _ _ i hl])
  have b := (ent_getD ho i).1
  unfold TW at b
  have e : entC l i = ((l.getD i (0, 0, 0, 0)).1 : Nat) := rfl
  exact CellAt.int (k := .u64) c0 (show 0 ≤ entC l i by omega) (show entC l i ≤ 18446744073709551615 by omega)
def tblHL : List (Smry Try.prog XP) := [firstS 55 (fun W => by have h := law_trueR first09 W; exact h), blocks7S, tallyC.R, hlistF, hhandlesF, rlist9F, words9S, faultsQ]
structure HLY (len : Nat) where
  i : Nat
  hi : i ≤ len
structure HLZ (W : World) where
  x : PA
  V : World
  d : D3
  a : Option Addr
  l : Nat
  cp : Nat
  bs : List (Nat × List Nat)
  g : Grow W V
  tw : Twin0 x d bs
  row : BlkRow V a l bs
def hlI {W : World} (n : Nat) (z : HLZ W) : List (Nat × SV) × List (Nat × SO XP) := ([(7, .c (.ptr n 0)), (8, .c (.ptr (n + 1) 0))], [(0, .seen z.V), (n, parO z.x), (n + 1, .cells (d3C z.d (.sliv z.a false z.l z.cp)) 31)])
def hlLen (x : PA) (cur : Int) : Nat := ((chainP x cur.toNat).getD []).length
def hlEnd (x : PA) (cur : Int) : Scr XP := .both .nil (.both .nil (.both .nil (.both .nil (.both .nil (.both .nil ((.inv (liveL [4, 10, 14, 22, 114, 115]) ((List.range 1500).map (· + 1)) (HLY (hlLen x cur)) (fun _ y => ([(115, .c (.int false .i64 (y.i : Int)))], [])) (fun y => hlLen x cur - y.i) fun _ => .both (.both .nil .nil) .nil)))))))
def hlScr (W : World) (len : Nat) (cur : Int) : Scr XP := .both .nil (.inv (liveL [0, 1, 4, 6, 7, 8, 9, 10, 11, 12, 13, 14, 15, 16, 17, 19, 21, 22, 28, 29, 30, 114, 115]) ((List.range 1500).map (· + 1)) (HLY len) (fun _ y => ([(30, .c (.int false .i64 (y.i : Int)))], [])) (fun y => len - y.i) fun _ => .both (.both .nil .nil)
  (.cut 11 (liveL [1, 4, 7, 8, 9, 10, 11, 12, 13, 14, 15, 16, 17, 19, 21, 22, 114, 115]) (0 :: ((List.range 1500).map (· + 1))) (HLZ W) hlI .nil fun z => hlEnd z.x cur))
/-- What the executor leaves to be shown of roundelay/roundelaylaw09.HeadLists, written out. -/
theorem headLists_vc (W : World) (a : Option Addr) (len cap : Nat) (cur : Int) : (callN Try.prog (tblHL : List (Smry Try.prog XP)) (fun _ _ => false) 100 20 8 [.c (.sliv a false len cap), .c (.int false .u64 cur)] ⟨[(0, .seen W)], 1⟩ (hlScr W len cur) (fun v m _ => retGrow W v m)) = (
    (decide ((↑len : Int) > (60 : Int)) = true → true = true ∧ ∃ (W' : World), some W = some W' ∧ Grow W W') ∧ (decide ((↑len : Int) > (60 : Int)) = false → (∃ (y : HLY len), a = a ∧
    len = len ∧ cap = cap ∧ cur = cur ∧ a = a ∧ len = len ∧ cap = cap ∧ (↑len : Int) = (↑len : Int) ∧ W = W ∧ (↑y.i : Int) = (0 : Int) ∧ True) ∧ ∀ (y : HLY len) (ρ : Nat → Value),
    (decide ((↑y.i : Int) < (↑len : Int)) = true → ((0 : Int) ≤ (↑y.i : Int) ∧ (↑y.i : Int) < (↑len : Int) ∧ a.isSome = true) ∧ (∃ (x : Addr), addOpt a (↑y.i : Int).toNat = some x ∧
    W.cell? x = some (Value.slice (seenSli W (addOpt a (↑y.i : Int).toNat)).fst (seenSli W (addOpt a (↑y.i : Int).toNat)).snd.fst (seenSli W (addOpt a (↑y.i : Int).toNat)).snd.snd)) ∧
    (decide ((↑(seenSli W (addOpt a (↑y.i : Int).toNat)).snd.fst : Int) > (50 : Int)) = true → true = true ∧ ∃ (W' : World), some W = some W' ∧ Grow W W') ∧ (decide ((↑(seenSli W
    (addOpt a (↑y.i : Int).toNat)).snd.fst : Int) > (50 : Int)) = false → ((-9223372036854775808 : Int) ≤ (↑y.i : Int) + (1 : Int) ∧ (↑y.i : Int) + (1 : Int) ≤ (9223372036854775807 :
    Int)) ∧ ∃ (y' : HLY len), len - y'.i < len - y.i ∧ a = a ∧ len = len ∧ cap = cap ∧ cur = cur ∧ a = a ∧ len = len ∧ cap = cap ∧ (↑len : Int) = (↑len : Int) ∧ W = W ∧ (↑y'.i : Int) =
    (↑y.i : Int) + (1 : Int) ∧ True)) ∧ (decide ((↑y.i : Int) < (↑len : Int)) = false → ((SlisOk W a len ∧ len ≤ (60 : Nat)) ∧ ∀ (V : World) (x : PA) (d : D3) (a' : Option Addr) (len'
    cp' : Nat), Blk7Out W V x d a' len' cp' → ∃ (y : HLZ W), cur = cur ∧ ρ (4 : Nat) = ρ (4 : Nat) ∧ y.V = V ∧ y.x = x ∧ (y.d.cap = d.cap ∧ y.d.births = d.births ∧ y.d.peak = d.peak ∧
    y.d.faults = d.faults ∧ y.d.x0 = d.x0 ∧ y.d.x1 = d.x1 ∧ y.d.x2 = d.x2 ∧ y.d.x3 = d.x3 ∧ y.d.x4 = d.x4 ∧ y.d.x5 = d.x5 ∧ y.d.x6 = d.x6 ∧ y.d.x7 = d.x7 ∧ y.d.x8 = d.x8 ∧ (y.a = a' ∧
    y.l = len' ∧ y.cp = cp') ∧ y.d.t0 = d.t0 ∧ y.d.t1 = d.t1 ∧ y.d.t2 = d.t2 ∧ y.d.t3 = d.t3 ∧ y.d.t4 = d.t4 ∧ y.d.t5 = d.t5 ∧ True) ∧ True) ∧ ∀ (y : HLZ W) (ρ : Nat → Value), True ∧
    ((∃ (z : Nat → Value), ArInv (y.x.ar z)) → ((0 : Int) ≤ cur ∧ cur < (18446744073709551616 : Int)) ∧ ∀ (W' : World) (a : Option Addr) (k c : Nat), Grow y.V W' → EntAt W' a k ((chainP
    y.x cur.toNat).getD []) → ((0 : Int) ≤ cur ∧ cur < (18446744073709551616 : Int)) ∧ ∀ (W'_1 : World) (a_5 : Option Addr) (k_1 c_1 : Nat), Grow W' W'_1 → CurAt W'_1 a_5 k_1 ((chainP
    y.x cur.toNat).getD []) → ∃ (bs : List (Nat × List Nat)), (BlkRow W'_1 y.a y.l bs ∧ y.l ≤ (1000000 : Nat) ∧ (0 : Int) ≤ cur ∧ cur < (18446744073709551616 : Int)) ∧ ∀ (W' : World)
    (a1 : Option Addr) (k_2 c1 : Nat) (a2 : Option Addr) (c2 : Nat), Grow W'_1 W' → EntAt W' a1 k_2 ((chainF bs (1001 : Nat) cur.toNat []).getD []) → CurAt W' a2 k_2 ((chainF bs (1001 :
    Nat) cur.toNat []).getD []) → ∀ (v : Value), (65537 : Nat) < (18446744073709551616 : Nat) ∧ ((false == ((chainP y.x cur.toNat).isSome == (chainF bs (1001 : Nat) cur.toNat
    []).isSome)) = true → false = true ∧ ∃ (W'_2 : World), some W' = some W'_2 ∧ Grow W W'_2) ∧ ((false == ((chainP y.x cur.toNat).isSome == (chainF bs (1001 : Nat) cur.toNat
    []).isSome)) = false → ((false == ((chainP y.x cur.toNat).isSome == (chainF bs (1001 : Nat) cur.toNat []).isSome)) = true → false = true ∧ ∃ (W'_2 : World), some W' = some W'_2 ∧
    Grow W W'_2) ∧ ((false == ((chainP y.x cur.toNat).isSome == (chainF bs (1001 : Nat) cur.toNat []).isSome)) = false → (((↑k : Int) != (↑k_2 : Int)) = true → false = true ∧ ∃ (W'_2 :
    World), some W' = some W'_2 ∧ Grow W W'_2) ∧ (((↑k : Int) != (↑k_2 : Int)) = false → (((((0 : Nat) < k_1 → a_5.isSome = true) ∧ (∀ (j : Nat), j < k_1 → Seen IntKind.u64 W' (addOpt
    a_5 j)) ∧ k_1 ≤ (1000000000 : Nat)) ∧ ((0 : Nat) < k_2 → a2.isSome = true) ∧ ∀ (j : Nat), j < k_2 → Seen IntKind.u64 W' (addOpt a2 j)) ∧ W' = W' ∧ tlyZ y.x.t (0 : Nat) = tlyZ y.x.t
    (0 : Nat) ∧ tlyZ y.x.t (1 : Nat) = tlyZ y.x.t (1 : Nat) ∧ tlyZ y.x.t (2 : Nat) = tlyZ y.x.t (2 : Nat) ∧ tlyZ y.x.t (3 : Nat) = tlyZ y.x.t (3 : Nat) ∧ tlyZ y.x.t (4 : Nat) = tlyZ
    y.x.t (4 : Nat) ∧ tlyZ y.x.t (5 : Nat) = tlyZ y.x.t (5 : Nat) ∧ ((weqF k_1 (sfF W' a_5) k_2 (sfF W' a2) == (0 : Int)) = true → false = true ∧ ∃ (W'_2 : World), some W' = some W'_2 ∧
    Grow W W'_2) ∧ ((weqF k_1 (sfF W' a_5) k_2 (sfF W' a2) == (0 : Int)) = false → (True ∧ ((∃ (z : Nat → Value), ArInv (y.x.ar z)) → W' = W' ∧ tlyZ y.x.t (0 : Nat) = tlyZ y.x.t (0 :
    Nat) ∧ tlyZ y.x.t (1 : Nat) = tlyZ y.x.t (1 : Nat) ∧ tlyZ y.x.t (2 : Nat) = tlyZ y.x.t (2 : Nat) ∧ tlyZ y.x.t (3 : Nat) = tlyZ y.x.t (3 : Nat) ∧ tlyZ y.x.t (4 : Nat) = tlyZ y.x.t (4
    : Nat) ∧ tlyZ y.x.t (5 : Nat) = tlyZ y.x.t (5 : Nat) ∧ ((false == (tlyZ y.x.t (0 : Nat) == tlyZ y.x.t (0 : Nat) && (tlyZ y.x.t (1 : Nat) == tlyZ y.x.t (1 : Nat) && (tlyZ y.x.t (2 :
    Nat) == tlyZ y.x.t (2 : Nat) && (tlyZ y.x.t (3 : Nat) == tlyZ y.x.t (3 : Nat) && (tlyZ y.x.t (4 : Nat) == tlyZ y.x.t (4 : Nat) && (tlyZ y.x.t (5 : Nat) == tlyZ y.x.t (5 : Nat) &&
    true))))))) = true → false = true ∧ ∃ (W'_2 : World), some W' = some W'_2 ∧ Grow W W'_2) ∧ ((false == (tlyZ y.x.t (0 : Nat) == tlyZ y.x.t (0 : Nat) && (tlyZ y.x.t (1 : Nat) == tlyZ
    y.x.t (1 : Nat) && (tlyZ y.x.t (2 : Nat) == tlyZ y.x.t (2 : Nat) && (tlyZ y.x.t (3 : Nat) == tlyZ y.x.t (3 : Nat) && (tlyZ y.x.t (4 : Nat) == tlyZ y.x.t (4 : Nat) && (tlyZ y.x.t (5
    : Nat) == tlyZ y.x.t (5 : Nat) && true))))))) = false → (W' = W' ∧ tlyZ y.x.t (0 : Nat) = tlyZ y.x.t (0 : Nat) ∧ tlyZ y.x.t (1 : Nat) = tlyZ y.x.t (1 : Nat) ∧ tlyZ y.x.t (2 : Nat) =
    tlyZ y.x.t (2 : Nat) ∧ tlyZ y.x.t (3 : Nat) = tlyZ y.x.t (3 : Nat) ∧ tlyZ y.x.t (4 : Nat) = tlyZ y.x.t (4 : Nat) ∧ tlyZ y.x.t (5 : Nat) = tlyZ y.x.t (5 : Nat) ∧ ((wr64 y.x.faults !=
    (0 : Int)) = true → false = true ∧ ∃ (W'_2 : World), some W' = some W'_2 ∧ Grow W W'_2) ∧ ((wr64 y.x.faults != (0 : Int)) = false → (∃ (y_1 : HLY (hlLen y.x cur)), a = a ∧ k = k ∧ c
    = c ∧ a1 = a1 ∧ k_2 = k_2 ∧ c1 = c1 ∧ (↑k : Int) = (↑k : Int) ∧ W' = W' ∧ (↑y_1.i : Int) = (0 : Int) ∧ True) ∧ ∀ (y_1 : HLY (hlLen y.x cur)) (ρ : Nat → Value), (decide ((↑y_1.i :
    Int) < (↑k : Int)) = true → ((0 : Int) ≤ (↑y_1.i : Int) ∧ (↑y_1.i : Int) < (↑k : Int) ∧ a.isSome = true) ∧ ((∃ (x : Addr), addOpt (addOpt a ((↑y_1.i : Int).toNat * (3 : Nat))) (0 :
    Nat) = some x ∧ W'.cell? x = some (Value.int IntKind.i64 (seenInt IntKind.i64 W' (addOpt (addOpt a ((↑y_1.i : Int).toNat * (3 : Nat))) (0 : Nat))))) ∧ (∃ (x : Addr), addOpt (addOpt
    a ((↑y_1.i : Int).toNat * (3 : Nat))) ((0 : Nat) + (1 : Nat)) = some x ∧ W'.cell? x = some (Value.int IntKind.u64 (seenInt IntKind.u64 W' (addOpt (addOpt a ((↑y_1.i : Int).toNat *
    (3 : Nat))) (1 : Nat))))) ∧ (∃ (x : Addr), addOpt (addOpt a ((↑y_1.i : Int).toNat * (3 : Nat))) ((0 : Nat) + (1 : Nat) + (1 : Nat)) = some x ∧ W'.cell? x = some (Value.int
    IntKind.u64 (seenInt IntKind.u64 W' (addOpt (addOpt a ((↑y_1.i : Int).toNat * (3 : Nat))) (2 : Nat))))) ∧ True) ∧ ((0 : Int) ≤ (↑y_1.i : Int) ∧ (↑y_1.i : Int) < (↑k_2 : Int) ∧
    a1.isSome = true) ∧ ((∃ (x : Addr), addOpt (addOpt a1 ((↑y_1.i : Int).toNat * (3 : Nat))) (0 : Nat) = some x ∧ W'.cell? x = some (Value.int IntKind.i64 (seenInt IntKind.i64 W'
    (addOpt (addOpt a1 ((↑y_1.i : Int).toNat * (3 : Nat))) (0 : Nat))))) ∧ (∃ (x : Addr), addOpt (addOpt a1 ((↑y_1.i : Int).toNat * (3 : Nat))) ((0 : Nat) + (1 : Nat)) = some x ∧
    W'.cell? x = some (Value.int IntKind.u64 (seenInt IntKind.u64 W' (addOpt (addOpt a1 ((↑y_1.i : Int).toNat * (3 : Nat))) (1 : Nat))))) ∧ (∃ (x : Addr), addOpt (addOpt a1 ((↑y_1.i :
    Int).toNat * (3 : Nat))) ((0 : Nat) + (1 : Nat) + (1 : Nat)) = some x ∧ W'.cell? x = some (Value.int IntKind.u64 (seenInt IntKind.u64 W' (addOpt (addOpt a1 ((↑y_1.i : Int).toNat *
    (3 : Nat))) (2 : Nat))))) ∧ True) ∧ ((false == (seenInt IntKind.i64 W' (addOpt (addOpt a ((↑y_1.i : Int).toNat * (3 : Nat))) (0 : Nat)) == seenInt IntKind.i64 W' (addOpt (addOpt a1
    ((↑y_1.i : Int).toNat * (3 : Nat))) (0 : Nat)) && (seenInt IntKind.u64 W' (addOpt (addOpt a ((↑y_1.i : Int).toNat * (3 : Nat))) (1 : Nat)) == seenInt IntKind.u64 W' (addOpt (addOpt
    a1 ((↑y_1.i : Int).toNat * (3 : Nat))) (1 : Nat)) && (seenInt IntKind.u64 W' (addOpt (addOpt a ((↑y_1.i : Int).toNat * (3 : Nat))) (2 : Nat)) == seenInt IntKind.u64 W' (addOpt
    (addOpt a1 ((↑y_1.i : Int).toNat * (3 : Nat))) (2 : Nat)) && true)))) = true → false = true ∧ ∃ (W'_2 : World), some W' = some W'_2 ∧ Grow W W'_2) ∧ ((false == (seenInt IntKind.i64
    W' (addOpt (addOpt a ((↑y_1.i : Int).toNat * (3 : Nat))) (0 : Nat)) == seenInt IntKind.i64 W' (addOpt (addOpt a1 ((↑y_1.i : Int).toNat * (3 : Nat))) (0 : Nat)) && (seenInt
    IntKind.u64 W' (addOpt (addOpt a ((↑y_1.i : Int).toNat * (3 : Nat))) (1 : Nat)) == seenInt IntKind.u64 W' (addOpt (addOpt a1 ((↑y_1.i : Int).toNat * (3 : Nat))) (1 : Nat)) &&
    (seenInt IntKind.u64 W' (addOpt (addOpt a ((↑y_1.i : Int).toNat * (3 : Nat))) (2 : Nat)) == seenInt IntKind.u64 W' (addOpt (addOpt a1 ((↑y_1.i : Int).toNat * (3 : Nat))) (2 : Nat))
    && true)))) = false → ((-9223372036854775808 : Int) ≤ (↑y_1.i : Int) + (1 : Int) ∧ (↑y_1.i : Int) + (1 : Int) ≤ (9223372036854775807 : Int)) ∧ ∃ (y' : HLY (hlLen y.x cur)), hlLen
    y.x cur - y'.i < hlLen y.x cur - y_1.i ∧ a = a ∧ k = k ∧ c = c ∧ a1 = a1 ∧ k_2 = k_2 ∧ c1 = c1 ∧ (↑k : Int) = (↑k : Int) ∧ W' = W' ∧ (↑y'.i : Int) = (↑y_1.i : Int) + (1 : Int) ∧
    True)) ∧ (decide ((↑y_1.i : Int) < (↑k : Int)) = false → true = true ∧ ∃ (W'_2 : World), some W' = some W'_2 ∧ Grow W W'_2))) ∧ True))) ∧ True)) ∧ True))))))) := by
  kernel_rfl
theorem headLists_run (W : World) (a : Option Addr) (len cap : Nat) (cur : Int) (hc : SlisOk W a len ∧ 0 ≤ cur ∧ cur < 18446744073709551616) : Run (callN Try.prog (tblHL : List (Smry Try.prog XP)) (fun _ _ => false) 100 20 8 [.c (.sliv a false len cap), .c (.int false .u64 cur)] ⟨[(0, .seen W)], 1⟩ (hlScr W len cur) (fun v m _ => retGrow W v m)) := by
  constructor
  rw [headLists_vc]
  obtain ⟨hs, hr0, hr1⟩ := hc
  refine ⟨fun _ => ⟨rfl, W, rfl, Grow.refl W⟩, fun h60 => ⟨⟨⟨0, Nat.zero_le _⟩, (by repeat' first | exact rfl | exact trivial | apply And.intro)⟩, fun y ρ => ⟨fun hlt => ?_, fun hge => ⟨⟨⟨hs, by have := of_decide_eq_false h60; omega⟩, fun V x d a' l' c' ho => ?_⟩, fun y ρ => ?_⟩⟩⟩⟩
  · have hlt' : y.i < len := by have := of_decide_eq_true hlt; omega
    have hmx := hs.max
    simp only [Int.toNat_natCast]
    refine ⟨⟨by omega, by omega, hs.sm (by omega)⟩, hs.at' _ hlt', fun _ => ⟨(by first | exact trivial | exact rfl), W, rfl, Grow.refl W⟩, fun _ => ⟨⟨by omega, by omega⟩, ⟨y.i + 1, hlt'⟩, ?_⟩⟩
    repeat' first | exact rfl | exact trivial | apply And.intro
    all_goals first
      | (show len - (y.i + 1) < len - y.i; omega)
      | (show ((y.i + 1 : Nat) : Int) = _; omega)
  · obtain ⟨g, bs, tw, row, lc, non⟩ := ho
    exact ⟨⟨x, V, d, a', l', c', bs, g, tw, row⟩, (by repeat' first | exact rfl | exact trivial | apply And.intro)⟩
  have hch : chainF y.bs 1001 cur.toNat [] = chainP y.x cur.toNat := by unfold chainP; rw [← y.tw.same]
  have hbl := y.row.num
  have hfew := y.tw.few
  refine ⟨trivial, fun _ => ⟨⟨hr0, hr1⟩, fun W1 a1 k1 c1 g1 e1 => ⟨⟨hr0, hr1⟩, fun W2 a2 k2 c2 g2 e2 => ⟨y.bs, ⟨y.row.grow (g1.trans g2), by omega, hr0, hr1⟩, fun W3 a3 k3 c3 a4 c4 g3 e3 e4 v => ?_⟩⟩⟩⟩
  rw [hch] at e3 e4 ⊢
  have hL : hlLen y.x cur = ((chainP y.x cur.toNat).getD []).length := rfl
  rw [hL]
  generalize hl : (chainP y.x cur.toNat).getD [] = l at *
  have gW := y.g.trans (g1.trans (g2.trans g3))
  have e1 := e1.grow (g2.trans g3)
  have e2 := e2.grow g3
  obtain rfl := e1.num
  obtain rfl := e2.num
  obtain rfl := e3.num
  have hok : l.length ≤ 1000 ∧ ∀ e ∈ l, EOk e := by
    cases hc : chainP y.x cur.toNat with
    | none => rw [hc] at hl; subst hl; exact ⟨Nat.zero_le _, fun e h => by cases h⟩
    | some r =>
      rw [hc] at hl
      have hl : r = l := hl
      subst hl
      rw [← hch] at hc
      exact chainF_ok (hwds_small y.row) _ _ _ _ hc (by unfold TW; omega) (Nat.zero_le _) (fun e h => by cases h)
  obtain ⟨hlen, hok⟩ := hok
  have hw2 := e2.words hok
  have hw4 := e4.words hok
  have hweq : weqF l.length (sfF W3 a2) l.length (sfF W3 a4) = 1 := weqF_one rfl fun i hi => ((hw2 i hi).2.trans (hw4 i hi).2.symm)
  have hflt : wr64 y.x.faults = 0 := by rw [y.tw.faults]; rfl
  refine ⟨by omega, fun h => absurd h (by simp), fun _ => ⟨fun h => absurd h (by simp), fun _ => ⟨fun h => absurd h (by simp), fun _ => ?_⟩⟩⟩
  first | refine ⟨?_, trivial⟩ | skip
  refine ⟨⟨⟨e2.sm, fun j hj => (hw2 j hj).1, by omega⟩, e4.sm, fun j hj => (hw4 j hj).1⟩, ?_⟩
  repeat (refine ⟨rfl, ?_⟩)
  refine ⟨fun h => absurd h (by rw [hweq]; simp), fun _ => ?_⟩
  first | refine ⟨?_, trivial⟩ | skip
  refine ⟨trivial, fun _ => ?_⟩
  repeat (refine ⟨rfl, ?_⟩)
  refine ⟨fun h => absurd h (by simp), fun _ => ?_⟩
  first | refine ⟨?_, trivial⟩ | skip
  repeat (refine ⟨rfl, ?_⟩)
  refine ⟨fun h => absurd h (by rw [hflt]; simp), fun _ => ⟨⟨⟨0, Nat.zero_le _⟩, (by repeat' first | exact rfl | exact trivial | apply And.intro)⟩, fun q ρ2 => ⟨fun hlt => ?_, fun _ => ⟨rfl, W3, rfl, gW⟩⟩⟩⟩
  have hlt' : q.i < l.length := by have := of_decide_eq_true hlt; omega
  have hk1 := e1.ent hok hlt'
  have hk3 := e3.ent hok hlt'
  simp only [Int.toNat_natCast]
  first | refine ⟨⟨?_, ?_, ?_, ?_, ?_, ?_⟩, trivial⟩ | refine ⟨?_, ?_, ?_, ?_, ?_, ?_⟩
  · exact ⟨by omega, by omega, e1.sm (by omega)⟩
  · exact hk1.kinds
  · exact ⟨by omega, by omega, e3.sm (by omega)⟩
  · exact hk3.kinds
  · rw [hk1.s, hk1.n, hk1.x, hk3.s, hk3.n, hk3.x]
    exact fun h => absurd h (by simp)
  · refine fun _ => ⟨⟨by omega, by omega⟩, ⟨q.i + 1, hlt'⟩, ?_⟩
    repeat' first | exact rfl | exact trivial | apply And.intro
    all_goals first
      | (show l.length - (q.i + 1) < l.length - q.i; omega)
      | (show ((q.i + 1 : Nat) : Int) = _; omega)
end Go.Proofs.Ytnfpkadepomjjaa

/- HeadLists: for all blocks and all cursors the law returns true and turns nothing. -/
namespace Go.Proofs.Ytnfpkadepomjjaa
open Go Go.RowKit
theorem headLists_all (W : World) (a : Option Addr) (len cap : Nat) (cur : Int) (hs : 0 < len → a.isSome = true) (hx : ∀ j, j < len → At Try.prog W 32 (addOpt a (j * Try.prog.cellsOf 32))) (hl : len ≤ maxLen) (hr : (Lit.int .u64 cur).wf = true) :
    Calls Try.prog 8 #[.slice a len cap, .int .u64 cur] W fun e w' => e = .returned (.bool true) ∧ Below W.heap.size W w' := by
  have h1 := wf_lit64 hr
  have h2 := law_grow (headLists_run W a len cap cur ⟨slisOk_at hs hx hl, by omega, by omega⟩)
  exact h2
end Go.Proofs.Ytnfpkadepomjjaa
