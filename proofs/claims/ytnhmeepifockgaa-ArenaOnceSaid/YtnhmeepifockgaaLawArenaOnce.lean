/- ArenaOnce: for all capacities and all operations the law returns true and turns nothing; condition: the operations are read as such. -/
import Derived.Test.YtnhmeepifockgaaBaseP3
set_option linter.all false
namespace Go.Proofs.Ytnhmeepifockgaa
open Go Go.RowKit
set_option maxRecDepth 1000000
set_option maxHeartbeats 0
def tblAO : List (Smry Try.prog XP) := [firstS 90 (fun W => by have h := law_trueR (first03_run trivial) W; exact h), great3S, ofS, newG, layR, readC.R, writeC.R, addC.R, swapC.R, freeC.R, usedC.R, peakC.R, sizeC.R, cloneR, sameR, blocksR]
structure AOY (len : Nat) (c : Int) where
  i : Nat
  x : PA
  l : List (Int × Value)
  hi : i ≤ len
  ok : AOI c i x l
def aoI (len : Nat) (c : Int) (n : Nat) (y : AOY len c) : List (Nat × SV) × List (Nat × SO XP) := ([(5, .c (.ptr n 0)), (7, .c (.map (n + 1))), (35, .c (.int false .i64 (y.i : Int)))], [(n, parO y.x), (n + 1, .mp true y.l)])
/-- An operation with the handle that it means. -/
structure AOC (W : World) where
  k : Int
  at' : Int
  o : Int
  wa : Option Addr
  wl : Nat
  wc : Nat
  h : Int
  b : Int
  xa : Int
  n : Int
  m : Int
  hk : -9223372036854775808 ≤ k ∧ k ≤ 9223372036854775807
  hh : 0 ≤ h ∧ h < 18446744073709551616
  hn : 0 ≤ n ∧ n < 18446744073709551616
  hm : 0 ≤ m ∧ m < 18446744073709551616
  hw : ∀ j, j < wl → Seen .u64 W (addOpt wa j)
  hl : wl ≤ 9223372036854775807
def aoC {len : Nat} {c : Int} (W : World) (y : AOY len c) (n : Nat) (z : AOC W) : List (Nat × SV) × List (Nat × SO XP) := ([(5, .c (.ptr n 0)), (7, .c (.map (n + 1))), (9, .c (.ptr (n + 2) 0)), (35, .c (.int false .i64 (y.i : Int)))],
  [(n, parO y.x), (n + 1, .mp true y.l), (n + 2, .cells [.int false .i64 z.k, .int false .i64 z.at', .int false .i64 z.o, .sliv z.wa false z.wl z.wc, .int false .u64 z.h, .int false .u64 z.b, .int false .i64 z.xa, .int false .u64 z.n, .int false .u64 z.m] 169)])
theorem hdl_lt {x : PA} (hi : x.Inv) {q : Nat} {most : Int} {hf : Nat → Int} {nf : Nat → Nat} (h : BlkList x most q hf nf) : ∀ i, i < q → 0 ≤ hf i ∧ hf i < 18446744073709551616 := fun i hq => by
  obtain ⟨l, hl, hq1, hx⟩ := h
  rw [(hx i hq).1]
  have hil : i < l.length := by
    rw [List.length_take] at hq1
    omega
  have hm : l.getD i (0, []) ∈ l := by
    rw [List.getD_eq_getElem?_getD, List.getElem?_eq_getElem hil]
    exact List.getElem_mem hil
  obtain ⟨y, hy, e⟩ := List.mem_map.1 (hl.mem_iff.1 hm)
  have h1 := hi.hds.2 y hy
  have h2 := hi.hds.1
  rw [← e]
  omega
theorem blk_few {x : PA} {q : Nat} {hf : Nat → Int} {nf : Nat → Nat} (h : BlkList x 200 q hf nf) : q ≤ 1000000000000 := by
  obtain ⟨l, _, hq, _⟩ := h
  rw [List.length_take] at hq
  have : (200 : Int).toNat = 200 := rfl
  omega
theorem blk_ex {x : PA} (hi : x.Inv) {q cap : Nat} {hf : Nat → Int} {nf : Nat → Nat} {z : Nat → Option Addr × Nat} (h : BlkList x 200 q hf nf) : ∃ (hf1 : Nat → Int) (nf1 : Nat → Nat) (z1 : Nat → Option Addr × Nat), (∀ i, i < q → 0 ≤ hf1 i ∧ hf1 i < 18446744073709551616) ∧
    some (SO.vals (E := XP) 164 2 q cap (blkW hf nf z)) = some (SO.vals (E := XP) 164 2 q cap (blkW hf1 nf1 z1)) := ⟨hf, nf, z, hdl_lt hi h, rfl⟩
def aocMk (W : World) (B : Option Addr) {h b : Int} (hb : (0 ≤ h ∧ h < 18446744073709551616) ∧ 0 ≤ b ∧ b < 18446744073709551616) (hl : (seenSli W (addOpt B 3)).2.1 ≤ 9223372036854775807) (hw : ∀ i, i < (seenSli W (addOpt B 3)).2.1 → Seen .u64 W (addOpt (seenSli W (addOpt B 3)).1 i)) : AOC W where
  k := seenInt .i64 W (addOpt B 0)
  at' := seenInt .i64 W (addOpt B 1)
  o := seenInt .i64 W (addOpt B 2)
  wa := (seenSli W (addOpt B 3)).1
  wl := (seenSli W (addOpt B 3)).2.1
  wc := (seenSli W (addOpt B 3)).2.2
  h := h
  b := b
  xa := seenInt .i64 W (addOpt B 6)
  n := seenInt .u64 W (addOpt B 7)
  m := seenInt .u64 W (addOpt B 8)
  hk := seenInt_bd .i64 W _
  hh := hb.1
  hn := ⟨(seenInt_bd .u64 W _).1, Int.lt_of_le_of_lt (seenInt_bd .u64 W _).2 (by decide)⟩
  hm := ⟨(seenInt_bd .u64 W _).1, Int.lt_of_le_of_lt (seenInt_bd .u64 W _).2 (by decide)⟩
  hw := hw
  hl := hl
structure AOE (i : Nat) (c : Int) where
  x : PA
  l : List (Int × Value)
  ok : AOI c i x l
def aoE {len : Nat} {c : Int} (y : AOY len c) (n : Nat) (z : AOE (y.i + 1) c) : List (Nat × SV) × List (Nat × SO XP) := ([(5, .c (.ptr n 0)), (7, .c (.map (n + 1))), (35, .c (.int false .i64 (y.i : Int)))], [(n, parO z.x), (n + 1, .mp true z.l)])
def aoS (W : World) (len : Nat) (c : Int) : Scr XP := .both .nil (.inv (liveL [0, 4, 5, 7, 9, 10, 11, 12, 14, 16, 18, 33, 34, 35]) ((List.range 1500).map (· + 1)) (AOY len c) (aoI len c) (fun y => len - y.i) fun y => .both
  (.cut 12 (liveL [0, 4, 5, 7, 9, 10, 11, 12, 14, 16, 18, 33, 34, 35]) ((List.range 1500).map (· + 1)) (AOE (y.i + 1) c) (aoE y) (.cut 12 (liveL [0, 4, 5, 7, 9, 10, 11, 12, 14, 16, 18, 33, 34, 35]) ((List.range 1500).map (· + 1)) (AOC W) (aoC W y) .nil fun z => .both (.both (.both .nil .nil) .nil) (.both .nil (.both .nil (.both .nil (.both .nil (.both .nil (.both .nil (.both .nil (.both .nil .nil))))))))) fun _ => .nil)
  (.both .nil .nil))
/-- What the executor leaves to be shown of roundelay/roundelaylaw03.ArenaOnce, written out. -/
theorem arenaOnce_vc (W : World) (a : Option Addr) (len cap : Nat) (c : Int) : (callN Try.prog (tblAO : List (Smry Try.prog XP)) (fun _ t => Nat.beq t 45) 100 20 13 [.c (.int false .i64 c), .c (.sliv a false len cap)] ⟨[(0, .seen W)], 1⟩ (aoS W len c) (fun v m _ => retSeen W v m)) = (
    OpsOk W a len ∧ ∀ (b : Bool), (b = false → len ≤ (100 : Nat)) → (b = true → true = true ∧ some W = some W) ∧ (b = false → ((0 : Int) ≤ c ∧ c ≤ (60000 : Int) → (∃ (y : AOY len c), c
    = c ∧ a = a ∧ len = len ∧ cap = cap ∧ (↑len : Int) = (↑len : Int) ∧ W = W ∧ (↑y.i : Int) = (0 : Int) ∧ y.x = PA.new c.toNat ∧ y.l = [] ∧ True) ∧ ∀ (y : AOY len c) (ρ : Nat → Value),
    (decide ((↑y.i : Int) < (↑len : Int)) = true → (((0 : Int) ≤ (↑y.i : Int) ∧ (↑y.i : Int) < (↑len : Int) ∧ a.isSome = true) ∧ ((∃ (x : Addr), addOpt (addOpt a ((↑y.i : Int).toNat *
    (9 : Nat))) (0 : Nat) = some x ∧ W.cell? x = some (Value.int IntKind.i64 (seenInt IntKind.i64 W (addOpt (addOpt a ((↑y.i : Int).toNat * (9 : Nat))) (0 : Nat))))) ∧ (∃ (x : Addr),
    addOpt (addOpt a ((↑y.i : Int).toNat * (9 : Nat))) ((0 : Nat) + (1 : Nat)) = some x ∧ W.cell? x = some (Value.int IntKind.i64 (seenInt IntKind.i64 W (addOpt (addOpt a ((↑y.i :
    Int).toNat * (9 : Nat))) (1 : Nat))))) ∧ (∃ (x : Addr), addOpt (addOpt a ((↑y.i : Int).toNat * (9 : Nat))) ((0 : Nat) + (1 : Nat) + (1 : Nat)) = some x ∧ W.cell? x = some (Value.int
    IntKind.i64 (seenInt IntKind.i64 W (addOpt (addOpt a ((↑y.i : Int).toNat * (9 : Nat))) (2 : Nat))))) ∧ (∃ (x : Addr), addOpt (addOpt a ((↑y.i : Int).toNat * (9 : Nat))) ((0 : Nat) +
    (1 : Nat) + (1 : Nat) + (1 : Nat)) = some x ∧ W.cell? x = some (Value.slice (seenSli W (addOpt (addOpt a ((↑y.i : Int).toNat * (9 : Nat))) ((0 : Nat) + (1 : Nat) + (1 : Nat) + (1 :
    Nat)))).fst (seenSli W (addOpt (addOpt a ((↑y.i : Int).toNat * (9 : Nat))) (3 : Nat))).snd.fst (seenSli W (addOpt (addOpt a ((↑y.i : Int).toNat * (9 : Nat))) (3 : Nat))).snd.snd)) ∧
    (∃ (x : Addr), addOpt (addOpt a ((↑y.i : Int).toNat * (9 : Nat))) ((0 : Nat) + (1 : Nat) + (1 : Nat) + (1 : Nat) + (1 : Nat)) = some x ∧ W.cell? x = some (Value.int IntKind.u64
    (seenInt IntKind.u64 W (addOpt (addOpt a ((↑y.i : Int).toNat * (9 : Nat))) (4 : Nat))))) ∧ (∃ (x : Addr), addOpt (addOpt a ((↑y.i : Int).toNat * (9 : Nat))) ((0 : Nat) + (1 : Nat) +
    (1 : Nat) + (1 : Nat) + (1 : Nat) + (1 : Nat)) = some x ∧ W.cell? x = some (Value.int IntKind.u64 (seenInt IntKind.u64 W (addOpt (addOpt a ((↑y.i : Int).toNat * (9 : Nat))) (5 :
    Nat))))) ∧ (∃ (x : Addr), addOpt (addOpt a ((↑y.i : Int).toNat * (9 : Nat))) ((0 : Nat) + (1 : Nat) + (1 : Nat) + (1 : Nat) + (1 : Nat) + (1 : Nat) + (1 : Nat)) = some x ∧ W.cell? x
    = some (Value.int IntKind.i64 (seenInt IntKind.i64 W (addOpt (addOpt a ((↑y.i : Int).toNat * (9 : Nat))) (6 : Nat))))) ∧ (∃ (x : Addr), addOpt (addOpt a ((↑y.i : Int).toNat * (9 :
    Nat))) ((0 : Nat) + (1 : Nat) + (1 : Nat) + (1 : Nat) + (1 : Nat) + (1 : Nat) + (1 : Nat) + (1 : Nat)) = some x ∧ W.cell? x = some (Value.int IntKind.u64 (seenInt IntKind.u64 W
    (addOpt (addOpt a ((↑y.i : Int).toNat * (9 : Nat))) (7 : Nat))))) ∧ (∃ (x : Addr), addOpt (addOpt a ((↑y.i : Int).toNat * (9 : Nat))) ((0 : Nat) + (1 : Nat) + (1 : Nat) + (1 : Nat)
    + (1 : Nat) + (1 : Nat) + (1 : Nat) + (1 : Nat) + (1 : Nat)) = some x ∧ W.cell? x = some (Value.int IntKind.u64 (seenInt IntKind.u64 W (addOpt (addOpt a ((↑y.i : Int).toNat * (9 :
    Nat))) (8 : Nat))))) ∧ True) ∧ ((((∃ (z : Nat → Value), ArInv (y.x.ar z)) → ∀ (q : Nat) (hf : Nat → Int) (nf : Nat → Nat), (∃ (l : List (Nat × List Nat)), l.Perm (List.map (fun (b :
    Nat × Nat × List Nat) => b.snd) y.x.bs) ∧ q = (List.take (Int.toNat (200 : Int)) l).length ∧ ∀ (i : Nat), i < q → hf i = (↑(l.getD i ((0 : Nat), [])).fst : Int) ∧ nf i = (l.getD i
    ((0 : Nat), [])).snd.length) → (q = (0 : Nat) → W = W ∧ (((((0 : Int) ≤ seenInt IntKind.u64 W (addOpt (addOpt a ((↑y.i : Int).toNat * (9 : Nat))) (4 : Nat)) ∧ seenInt IntKind.u64 W
    (addOpt (addOpt a ((↑y.i : Int).toNat * (9 : Nat))) (4 : Nat)) < (18446744073709551616 : Int)) ∧ (0 : Int) ≤ seenInt IntKind.u64 W (addOpt (addOpt a ((↑y.i : Int).toNat * (9 :
    Nat))) (5 : Nat)) ∧ seenInt IntKind.u64 W (addOpt (addOpt a ((↑y.i : Int).toNat * (9 : Nat))) (5 : Nat)) < (18446744073709551616 : Int)) ∧ True) ∧ ∀ (h b : Int), ((0 : Int) ≤ h ∧ h
    < (18446744073709551616 : Int)) ∧ (0 : Int) ≤ b ∧ b < (18446744073709551616 : Int) → (∃ (y_1 : AOC W), c = c ∧ ρ (4 : Nat) = ρ (4 : Nat) ∧ ρ (10 : Nat) = ρ (10 : Nat) ∧ ρ (11 : Nat)
    = ρ (11 : Nat) ∧ ρ (12 : Nat) = ρ (12 : Nat) ∧ ρ (14 : Nat) = ρ (14 : Nat) ∧ ρ (16 : Nat) = ρ (16 : Nat) ∧ ρ (18 : Nat) = ρ (18 : Nat) ∧ a = a ∧ len = len ∧ cap = cap ∧ (↑len : Int)
    = (↑len : Int) ∧ W = W ∧ (↑y.i : Int) = (↑y.i : Int) ∧ y.x = y.x ∧ y.l = y.l ∧ (y_1.k = seenInt IntKind.i64 W (addOpt (addOpt a ((↑y.i : Int).toNat * (9 : Nat))) (0 : Nat)) ∧
    y_1.at' = seenInt IntKind.i64 W (addOpt (addOpt a ((↑y.i : Int).toNat * (9 : Nat))) (1 : Nat)) ∧ y_1.o = seenInt IntKind.i64 W (addOpt (addOpt a ((↑y.i : Int).toNat * (9 : Nat))) (2
    : Nat)) ∧ (y_1.wa = (seenSli W (addOpt (addOpt a ((↑y.i : Int).toNat * (9 : Nat))) ((0 : Nat) + (1 : Nat) + (1 : Nat) + (1 : Nat)))).fst ∧ y_1.wl = (seenSli W (addOpt (addOpt a
    ((↑y.i : Int).toNat * (9 : Nat))) (3 : Nat))).snd.fst ∧ y_1.wc = (seenSli W (addOpt (addOpt a ((↑y.i : Int).toNat * (9 : Nat))) (3 : Nat))).snd.snd) ∧ y_1.h = h ∧ y_1.b = b ∧ y_1.xa
    = seenInt IntKind.i64 W (addOpt (addOpt a ((↑y.i : Int).toNat * (9 : Nat))) (6 : Nat)) ∧ y_1.n = seenInt IntKind.u64 W (addOpt (addOpt a ((↑y.i : Int).toNat * (9 : Nat))) (7 : Nat))
    ∧ y_1.m = seenInt IntKind.u64 W (addOpt (addOpt a ((↑y.i : Int).toNat * (9 : Nat))) (8 : Nat)) ∧ True) ∧ True) ∧ True) ∧ True) ∧ ∀ (cap_1 : Nat) (z : Nat → Option Addr × Nat), q ≤
    cap_1 → W = W ∧ (((((0 : Int) ≤ seenInt IntKind.u64 W (addOpt (addOpt a ((↑y.i : Int).toNat * (9 : Nat))) (4 : Nat)) ∧ seenInt IntKind.u64 W (addOpt (addOpt a ((↑y.i : Int).toNat *
    (9 : Nat))) (4 : Nat)) < (18446744073709551616 : Int)) ∧ (0 : Int) ≤ seenInt IntKind.u64 W (addOpt (addOpt a ((↑y.i : Int).toNat * (9 : Nat))) (5 : Nat)) ∧ seenInt IntKind.u64 W
    (addOpt (addOpt a ((↑y.i : Int).toNat * (9 : Nat))) (5 : Nat)) < (18446744073709551616 : Int)) ∧ q ≤ (1000000000000 : Nat) ∧ ∃ (hf_1 : Nat → Int), ∃ (nf_1 : Nat → Nat), ∃ (z_1 : Nat
    → Option Addr × Nat), (∀ (i : Nat), i < q → (0 : Int) ≤ hf_1 i ∧ hf_1 i < (18446744073709551616 : Int)) ∧ some (SO.vals (E := XP) (164 : TypeId) (2 : Nat) q cap_1 (blkW hf nf z)) =
    some (SO.vals (E := XP) (164 : TypeId) (2 : Nat) q cap_1 (blkW hf_1 nf_1 z_1))) ∧ ∀ (h b : Int), ((0 : Int) ≤ h ∧ h < (18446744073709551616 : Int)) ∧ (0 : Int) ≤ b ∧ b <
    (18446744073709551616 : Int) → (∃ (y_1 : AOC W), c = c ∧ ρ (4 : Nat) = ρ (4 : Nat) ∧ ρ (10 : Nat) = ρ (10 : Nat) ∧ ρ (11 : Nat) = ρ (11 : Nat) ∧ ρ (12 : Nat) = ρ (12 : Nat) ∧ ρ (14
    : Nat) = ρ (14 : Nat) ∧ ρ (16 : Nat) = ρ (16 : Nat) ∧ ρ (18 : Nat) = ρ (18 : Nat) ∧ a = a ∧ len = len ∧ cap = cap ∧ (↑len : Int) = (↑len : Int) ∧ W = W ∧ (↑y.i : Int) = (↑y.i : Int)
    ∧ y.x = y.x ∧ y.l = y.l ∧ (y_1.k = seenInt IntKind.i64 W (addOpt (addOpt a ((↑y.i : Int).toNat * (9 : Nat))) (0 : Nat)) ∧ y_1.at' = seenInt IntKind.i64 W (addOpt (addOpt a ((↑y.i :
    Int).toNat * (9 : Nat))) (1 : Nat)) ∧ y_1.o = seenInt IntKind.i64 W (addOpt (addOpt a ((↑y.i : Int).toNat * (9 : Nat))) (2 : Nat)) ∧ (y_1.wa = (seenSli W (addOpt (addOpt a ((↑y.i :
    Int).toNat * (9 : Nat))) ((0 : Nat) + (1 : Nat) + (1 : Nat) + (1 : Nat)))).fst ∧ y_1.wl = (seenSli W (addOpt (addOpt a ((↑y.i : Int).toNat * (9 : Nat))) (3 : Nat))).snd.fst ∧ y_1.wc
    = (seenSli W (addOpt (addOpt a ((↑y.i : Int).toNat * (9 : Nat))) (3 : Nat))).snd.snd) ∧ y_1.h = h ∧ y_1.b = b ∧ y_1.xa = seenInt IntKind.i64 W (addOpt (addOpt a ((↑y.i : Int).toNat
    * (9 : Nat))) (6 : Nat)) ∧ y_1.n = seenInt IntKind.u64 W (addOpt (addOpt a ((↑y.i : Int).toNat * (9 : Nat))) (7 : Nat)) ∧ y_1.m = seenInt IntKind.u64 W (addOpt (addOpt a ((↑y.i :
    Int).toNat * (9 : Nat))) (8 : Nat)) ∧ True) ∧ True) ∧ True) ∧ True) ∧ True) ∧ (∀ (K : KO XP), ((∃ (z : Nat → Value), ArInv (y.x.ar z)) → ∀ (q : Nat) (hf : Nat → Int) (nf : Nat →
    Nat), (∃ (l : List (Nat × List Nat)), l.Perm (List.map (fun (b : Nat × Nat × List Nat) => b.snd) y.x.bs) ∧ q = (List.take (Int.toNat (200 : Int)) l).length ∧ ∀ (i : Nat), i < q → hf
    i = (↑(l.getD i ((0 : Nat), [])).fst : Int) ∧ nf i = (l.getD i ((0 : Nat), [])).snd.length) → (q = (0 : Nat) → W = W ∧ (((((0 : Int) ≤ seenInt IntKind.u64 W (addOpt (addOpt a ((↑y.i
    : Int).toNat * (9 : Nat))) (4 : Nat)) ∧ seenInt IntKind.u64 W (addOpt (addOpt a ((↑y.i : Int).toNat * (9 : Nat))) (4 : Nat)) < (18446744073709551616 : Int)) ∧ (0 : Int) ≤ seenInt
    IntKind.u64 W (addOpt (addOpt a ((↑y.i : Int).toNat * (9 : Nat))) (5 : Nat)) ∧ seenInt IntKind.u64 W (addOpt (addOpt a ((↑y.i : Int).toNat * (9 : Nat))) (5 : Nat)) <
    (18446744073709551616 : Int)) ∧ True) ∧ ∀ (h b : Int), ((0 : Int) ≤ h ∧ h < (18446744073709551616 : Int)) ∧ (0 : Int) ≤ b ∧ b < (18446744073709551616 : Int) → K (SF.mk (151 : Nat)
    (ST.node (SV.c (SC.int false IntKind.i64 c)) (ST.node (SV.c (SC.raw (ρ (1 : Nat)))) (ST.node (SV.c (SC.raw (ρ (3 : Nat)))) (ST.node (SV.c (SC.map (22 : Nat))) (ST.node (SV.c (SC.raw
    (ρ (15 : Nat)))) (ST.node (SV.c (SC.raw (ρ (31 : Nat)))) (ST.node (SV.c (SC.raw (ρ (63 : Nat)))) (ST.node (SV.c (SC.raw (ρ (127 : Nat)))) ST.nil ST.nil) ST.nil) (ST.node (SV.c
    (SC.raw (ρ (95 : Nat)))) ST.nil ST.nil)) (ST.node (SV.c (SC.raw (ρ (47 : Nat)))) (ST.node (SV.c (SC.raw (ρ (79 : Nat)))) (ST.node (SV.c (SC.raw (ρ (143 : Nat)))) ST.nil ST.nil)
    ST.nil) (ST.node (SV.c (SC.raw (ρ (111 : Nat)))) ST.nil ST.nil))) (ST.node (SV.c (SC.raw (ρ (23 : Nat)))) (ST.node (SV.agg [SC.int false IntKind.i64 (seenInt IntKind.i64 W (addOpt
    (addOpt a ((↑y.i : Int).toNat * (9 : Nat))) (0 : Nat))) (Bd.w (-9223372036854775808 : Int) (9223372036854775807 : Int) (seenInt_bd IntKind.i64 W (addOpt (addOpt a ((↑y.i :
    Int).toNat * (fun (x : TypeInfo) => x.size) Try.prog.types[(169 : Nat)])) (0 : Nat)))), SC.int false IntKind.i64 (seenInt IntKind.i64 W (addOpt (addOpt a ((↑y.i : Int).toNat * (9 :
    Nat))) (1 : Nat))) (Bd.w (-9223372036854775808 : Int) (9223372036854775807 : Int) (seenInt_bd IntKind.i64 W (addOpt (addOpt a ((↑y.i : Int).toNat * (fun (x : TypeInfo) => x.size)
    Try.prog.types[(169 : Nat)])) ((0 : Nat) + (1 : Nat))))), SC.int false IntKind.i64 (seenInt IntKind.i64 W (addOpt (addOpt a ((↑y.i : Int).toNat * (9 : Nat))) (2 : Nat))) (Bd.w
    (-9223372036854775808 : Int) (9223372036854775807 : Int) (seenInt_bd IntKind.i64 W (addOpt (addOpt a ((↑y.i : Int).toNat * (fun (x : TypeInfo) => x.size) Try.prog.types[(169 :
    Nat)])) ((0 : Nat) + (1 : Nat) + (1 : Nat))))), SC.sliv (seenSli W (addOpt (addOpt a ((↑y.i : Int).toNat * (9 : Nat))) ((0 : Nat) + (1 : Nat) + (1 : Nat) + (1 : Nat)))).fst false
    (seenSli W (addOpt (addOpt a ((↑y.i : Int).toNat * (9 : Nat))) (3 : Nat))).snd.fst (seenSli W (addOpt (addOpt a ((↑y.i : Int).toNat * (9 : Nat))) (3 : Nat))).snd.snd, SC.int false
    IntKind.u64 (seenInt IntKind.u64 W (addOpt (addOpt a ((↑y.i : Int).toNat * (9 : Nat))) (4 : Nat))) (Bd.w (0 : Int) (18446744073709551615 : Int) (seenInt_bd IntKind.u64 W (addOpt
    (addOpt a ((↑y.i : Int).toNat * (fun (x : TypeInfo) => x.size) Try.prog.types[(169 : Nat)])) ((0 : Nat) + (1 : Nat) + (1 : Nat) + (1 : Nat) + (1 : Nat))))), SC.int false IntKind.u64
    (seenInt IntKind.u64 W (addOpt (addOpt a ((↑y.i : Int).toNat * (9 : Nat))) (5 : Nat))) (Bd.w (0 : Int) (18446744073709551615 : Int) (seenInt_bd IntKind.u64 W (addOpt (addOpt a
    ((↑y.i : Int).toNat * (fun (x : TypeInfo) => x.size) Try.prog.types[(169 : Nat)])) ((0 : Nat) + (1 : Nat) + (1 : Nat) + (1 : Nat) + (1 : Nat) + (1 : Nat))))), SC.int false
    IntKind.i64 (seenInt IntKind.i64 W (addOpt (addOpt a ((↑y.i : Int).toNat * (9 : Nat))) (6 : Nat))) (Bd.w (-9223372036854775808 : Int) (9223372036854775807 : Int) (seenInt_bd
    IntKind.i64 W (addOpt (addOpt a ((↑y.i : Int).toNat * (fun (x : TypeInfo) => x.size) Try.prog.types[(169 : Nat)])) ((0 : Nat) + (1 : Nat) + (1 : Nat) + (1 : Nat) + (1 : Nat) + (1 :
    Nat) + (1 : Nat))))), SC.int false IntKind.u64 (seenInt IntKind.u64 W (addOpt (addOpt a ((↑y.i : Int).toNat * (9 : Nat))) (7 : Nat))) (Bd.w (0 : Int) (18446744073709551615 : Int)
    (seenInt_bd IntKind.u64 W (addOpt (addOpt a ((↑y.i : Int).toNat * (fun (x : TypeInfo) => x.size) Try.prog.types[(169 : Nat)])) ((0 : Nat) + (1 : Nat) + (1 : Nat) + (1 : Nat) + (1 :
    Nat) + (1 : Nat) + (1 : Nat) + (1 : Nat))))), SC.int false IntKind.u64 (seenInt IntKind.u64 W (addOpt (addOpt a ((↑y.i : Int).toNat * (9 : Nat))) (8 : Nat))) (Bd.w (0 : Int)
    (18446744073709551615 : Int) (seenInt_bd IntKind.u64 W (addOpt (addOpt a ((↑y.i : Int).toNat * (fun (x : TypeInfo) => x.size) Try.prog.types[(169 : Nat)])) ((0 : Nat) + (1 : Nat) +
    (1 : Nat) + (1 : Nat) + (1 : Nat) + (1 : Nat) + (1 : Nat) + (1 : Nat) + (1 : Nat)))))]) (ST.node (SV.c (SC.raw (ρ (71 : Nat)))) (ST.node (SV.c (SC.raw (ρ (135 : Nat)))) ST.nil
    ST.nil) ST.nil) (ST.node (SV.c (SC.raw (ρ (103 : Nat)))) ST.nil ST.nil)) (ST.node (SV.c (SC.raw (ρ (55 : Nat)))) (ST.node (SV.c (SC.raw (ρ (87 : Nat)))) ST.nil ST.nil) (ST.node
    (SV.c (SC.raw (ρ (119 : Nat)))) ST.nil ST.nil)))) (ST.node (SV.c (SC.raw (ρ (11 : Nat)))) (ST.node (SV.c (SC.raw (ρ (19 : Nat)))) (ST.node (SV.c (SC.int false IntKind.i64 (↑y.i :
    Int))) (ST.node (SV.c (SC.raw (ρ (67 : Nat)))) (ST.node (SV.c (SC.raw (ρ (131 : Nat)))) ST.nil ST.nil) ST.nil) (ST.node (SV.c (SC.raw (ρ (99 : Nat)))) ST.nil ST.nil)) (ST.node (SV.c
    (SC.raw (ρ (51 : Nat)))) (ST.node (SV.c (SC.raw (ρ (83 : Nat)))) (ST.node (SV.c (SC.raw (ρ (147 : Nat)))) ST.nil ST.nil) ST.nil) (ST.node (SV.c (SC.raw (ρ (115 : Nat)))) ST.nil
    ST.nil))) (ST.node (SV.c (SC.raw (ρ (27 : Nat)))) (ST.node (SV.c (SC.raw (ρ (43 : Nat)))) (ST.node (SV.c (SC.raw (ρ (75 : Nat)))) (ST.node (SV.c (SC.raw (ρ (139 : Nat)))) ST.nil
    ST.nil) ST.nil) (ST.node (SV.c (SC.raw (ρ (107 : Nat)))) ST.nil ST.nil)) (ST.node (SV.c (SC.raw (ρ (59 : Nat)))) (ST.node (SV.c (SC.raw (ρ (91 : Nat)))) ST.nil ST.nil) (ST.node
    (SV.c (SC.raw (ρ (123 : Nat)))) ST.nil ST.nil))))) (ST.node (SV.c (SC.ptr (21 : Nat) (0 : Nat))) (ST.node (SV.c (SC.ptr (56 : Nat) (0 : Nat))) (ST.node (SV.c (SC.raw (ρ (17 :
    Nat)))) (ST.node (SV.c (SC.sliv a false len cap)) (ST.node (SV.c (SC.raw (ρ (65 : Nat)))) (ST.node (SV.c (SC.raw (ρ (129 : Nat)))) ST.nil ST.nil) ST.nil) (ST.node (SV.c (SC.raw (ρ
    (97 : Nat)))) ST.nil ST.nil)) (ST.node (SV.c (SC.raw (ρ (49 : Nat)))) (ST.node (SV.c (SC.raw (ρ (81 : Nat)))) (ST.node (SV.c (SC.raw (ρ (145 : Nat)))) ST.nil ST.nil) ST.nil)
    (ST.node (SV.c (SC.raw (ρ (113 : Nat)))) ST.nil ST.nil))) (ST.node (SV.c (SC.raw (ρ (25 : Nat)))) (ST.node (SV.c SC.nls) (ST.node (SV.c (SC.raw (ρ (73 : Nat)))) (ST.node (SV.c
    (SC.raw (ρ (137 : Nat)))) ST.nil ST.nil) ST.nil) (ST.node (SV.c (SC.raw (ρ (105 : Nat)))) ST.nil ST.nil)) (ST.node (SV.c (SC.raw (ρ (57 : Nat)))) (ST.node (SV.c (SC.raw (ρ (89 :
    Nat)))) ST.nil ST.nil) (ST.node (SV.c (SC.raw (ρ (121 : Nat)))) ST.nil ST.nil)))) (ST.node (SV.c (SC.raw (ρ (13 : Nat)))) (ST.node (SV.c (SC.raw (ρ (21 : Nat)))) (ST.node (SV.c
    (SC.ptv (addOpt a ((↑y.i : Int).toNat * (9 : Nat))))) (ST.node (SV.c (SC.raw (ρ (69 : Nat)))) (ST.node (SV.c (SC.raw (ρ (133 : Nat)))) ST.nil ST.nil) ST.nil) (ST.node (SV.c (SC.raw
    (ρ (101 : Nat)))) ST.nil ST.nil)) (ST.node (SV.c (SC.raw (ρ (53 : Nat)))) (ST.node (SV.c (SC.raw (ρ (85 : Nat)))) (ST.node (SV.c (SC.raw (ρ (149 : Nat)))) ST.nil ST.nil) ST.nil)
    (ST.node (SV.c (SC.raw (ρ (117 : Nat)))) ST.nil ST.nil))) (ST.node (SV.c (SC.raw (ρ (29 : Nat)))) (ST.node (SV.c (SC.raw (ρ (45 : Nat)))) (ST.node (SV.c (SC.raw (ρ (77 : Nat))))
    (ST.node (SV.c (SC.raw (ρ (141 : Nat)))) ST.nil ST.nil) ST.nil) (ST.node (SV.c (SC.raw (ρ (109 : Nat)))) ST.nil ST.nil)) (ST.node (SV.c (SC.raw (ρ (61 : Nat)))) (ST.node (SV.c
    (SC.raw (ρ (93 : Nat)))) ST.nil ST.nil) (ST.node (SV.c (SC.raw (ρ (125 : Nat)))) ST.nil ST.nil)))))) (ST.node (SV.c (SC.raw (ρ (2 : Nat)))) (ST.node (SV.c (SC.raw (ρ (4 : Nat))))
    (ST.node (SV.c (SC.raw (ρ (8 : Nat)))) (ST.node (SV.c (SC.raw (ρ (16 : Nat)))) (ST.node (SV.c (SC.raw (ρ (32 : Nat)))) (ST.node (SV.c (SC.raw (ρ (64 : Nat)))) (ST.node (SV.c (SC.raw
    (ρ (128 : Nat)))) ST.nil ST.nil) ST.nil) (ST.node (SV.c (SC.raw (ρ (96 : Nat)))) ST.nil ST.nil)) (ST.node (SV.c (SC.raw (ρ (48 : Nat)))) (ST.node (SV.c (SC.raw (ρ (80 : Nat))))
    (ST.node (SV.c (SC.raw (ρ (144 : Nat)))) ST.nil ST.nil) ST.nil) (ST.node (SV.c (SC.raw (ρ (112 : Nat)))) ST.nil ST.nil))) (ST.node (SV.c (SC.raw (ρ (24 : Nat)))) (ST.node (SV.c
    (SC.ptr (21 : Nat) (0 : Nat))) (ST.node (SV.c (SC.raw (ρ (72 : Nat)))) (ST.node (SV.c (SC.raw (ρ (136 : Nat)))) ST.nil ST.nil) ST.nil) (ST.node (SV.c (SC.raw (ρ (104 : Nat))))
    ST.nil ST.nil)) (ST.node (SV.c (SC.raw (ρ (56 : Nat)))) (ST.node (SV.c (SC.raw (ρ (88 : Nat)))) ST.nil ST.nil) (ST.node (SV.c (SC.raw (ρ (120 : Nat)))) ST.nil ST.nil)))) (ST.node
    (SV.c (SC.raw (ρ (12 : Nat)))) (ST.node (SV.c (SC.raw (ρ (20 : Nat)))) (ST.node (SV.c (SC.boo true true)) (ST.node (SV.c (SC.raw (ρ (68 : Nat)))) (ST.node (SV.c (SC.raw (ρ (132 :
    Nat)))) ST.nil ST.nil) ST.nil) (ST.node (SV.c (SC.raw (ρ (100 : Nat)))) ST.nil ST.nil)) (ST.node (SV.c (SC.raw (ρ (52 : Nat)))) (ST.node (SV.c (SC.raw (ρ (84 : Nat)))) (ST.node
    (SV.c (SC.raw (ρ (148 : Nat)))) ST.nil ST.nil) ST.nil) (ST.node (SV.c (SC.raw (ρ (116 : Nat)))) ST.nil ST.nil))) (ST.node (SV.c (SC.raw (ρ (28 : Nat)))) (ST.node (SV.c (SC.raw (ρ
    (44 : Nat)))) (ST.node (SV.c (SC.raw (ρ (76 : Nat)))) (ST.node (SV.c (SC.raw (ρ (140 : Nat)))) ST.nil ST.nil) ST.nil) (ST.node (SV.c (SC.raw (ρ (108 : Nat)))) ST.nil ST.nil))
    (ST.node (SV.c (SC.raw (ρ (60 : Nat)))) (ST.node (SV.c (SC.raw (ρ (92 : Nat)))) ST.nil ST.nil) (ST.node (SV.c (SC.raw (ρ (124 : Nat)))) ST.nil ST.nil))))) (ST.node (SV.c (SC.raw (ρ
    (6 : Nat)))) (ST.node (SV.c (SC.raw (ρ (10 : Nat)))) (ST.node (SV.c (SC.raw (ρ (18 : Nat)))) (ST.node (SV.c (SC.int false IntKind.i64 (↑len : Int))) (ST.node (SV.c (SC.raw (ρ (66 :
    Nat)))) (ST.node (SV.c (SC.raw (ρ (130 : Nat)))) ST.nil ST.nil) ST.nil) (ST.node (SV.c (SC.raw (ρ (98 : Nat)))) ST.nil ST.nil)) (ST.node (SV.c (SC.raw (ρ (50 : Nat)))) (ST.node
    (SV.c (SC.raw (ρ (82 : Nat)))) (ST.node (SV.c (SC.raw (ρ (146 : Nat)))) ST.nil ST.nil) ST.nil) (ST.node (SV.c (SC.raw (ρ (114 : Nat)))) ST.nil ST.nil))) (ST.node (SV.c (SC.raw (ρ
    (26 : Nat)))) (ST.node (SV.agg [SC.int false IntKind.i64 (seenInt IntKind.i64 W (addOpt (addOpt a ((↑y.i : Int).toNat * (9 : Nat))) (0 : Nat))) Bd.any, SC.int false IntKind.i64
    (seenInt IntKind.i64 W (addOpt (addOpt a ((↑y.i : Int).toNat * (9 : Nat))) (1 : Nat))) Bd.any, SC.int false IntKind.i64 (seenInt IntKind.i64 W (addOpt (addOpt a ((↑y.i : Int).toNat
    * (9 : Nat))) (2 : Nat))) Bd.any, SC.sliv (seenSli W (addOpt (addOpt a ((↑y.i : Int).toNat * (9 : Nat))) ((0 : Nat) + (1 : Nat) + (1 : Nat) + (1 : Nat)))).fst false (seenSli W
    (addOpt (addOpt a ((↑y.i : Int).toNat * (9 : Nat))) (3 : Nat))).snd.fst (seenSli W (addOpt (addOpt a ((↑y.i : Int).toNat * (9 : Nat))) (3 : Nat))).snd.snd, SC.int false IntKind.u64
    h, SC.int false IntKind.u64 b, SC.int false IntKind.i64 (seenInt IntKind.i64 W (addOpt (addOpt a ((↑y.i : Int).toNat * (9 : Nat))) (6 : Nat))) Bd.any, SC.int false IntKind.u64
    (seenInt IntKind.u64 W (addOpt (addOpt a ((↑y.i : Int).toNat * (9 : Nat))) (7 : Nat))) Bd.any, SC.int false IntKind.u64 (seenInt IntKind.u64 W (addOpt (addOpt a ((↑y.i : Int).toNat
    * (9 : Nat))) (8 : Nat))) Bd.any]) (ST.node (SV.c (SC.raw (ρ (74 : Nat)))) (ST.node (SV.c (SC.raw (ρ (138 : Nat)))) ST.nil ST.nil) ST.nil) (ST.node (SV.c (SC.raw (ρ (106 : Nat))))
    ST.nil ST.nil)) (ST.node (SV.c (SC.raw (ρ (58 : Nat)))) (ST.node (SV.c (SC.raw (ρ (90 : Nat)))) ST.nil ST.nil) (ST.node (SV.c (SC.raw (ρ (122 : Nat)))) ST.nil ST.nil)))) (ST.node
    (SV.c (SC.raw (ρ (14 : Nat)))) (ST.node (SV.c (SC.raw (ρ (22 : Nat)))) (ST.node (SV.agg [SC.int false IntKind.i64 (seenInt IntKind.i64 W (addOpt (addOpt a ((↑y.i : Int).toNat * (9 :
    Nat))) (0 : Nat))) (Bd.w (-9223372036854775808 : Int) (9223372036854775807 : Int) (seenInt_bd IntKind.i64 W (addOpt (addOpt a ((↑y.i : Int).toNat * (fun (x : TypeInfo) => x.size)
    Try.prog.types[(169 : Nat)])) (0 : Nat)))), SC.int false IntKind.i64 (seenInt IntKind.i64 W (addOpt (addOpt a ((↑y.i : Int).toNat * (9 : Nat))) (1 : Nat))) (Bd.w
    (-9223372036854775808 : Int) (9223372036854775807 : Int) (seenInt_bd IntKind.i64 W (addOpt (addOpt a ((↑y.i : Int).toNat * (fun (x : TypeInfo) => x.size) Try.prog.types[(169 :
    Nat)])) ((0 : Nat) + (1 : Nat))))), SC.int false IntKind.i64 (seenInt IntKind.i64 W (addOpt (addOpt a ((↑y.i : Int).toNat * (9 : Nat))) (2 : Nat))) (Bd.w (-9223372036854775808 :
    Int) (9223372036854775807 : Int) (seenInt_bd IntKind.i64 W (addOpt (addOpt a ((↑y.i : Int).toNat * (fun (x : TypeInfo) => x.size) Try.prog.types[(169 : Nat)])) ((0 : Nat) + (1 :
    Nat) + (1 : Nat))))), SC.sliv (seenSli W (addOpt (addOpt a ((↑y.i : Int).toNat * (9 : Nat))) ((0 : Nat) + (1 : Nat) + (1 : Nat) + (1 : Nat)))).fst false (seenSli W (addOpt (addOpt a
    ((↑y.i : Int).toNat * (9 : Nat))) (3 : Nat))).snd.fst (seenSli W (addOpt (addOpt a ((↑y.i : Int).toNat * (9 : Nat))) (3 : Nat))).snd.snd, SC.int false IntKind.u64 (seenInt
    IntKind.u64 W (addOpt (addOpt a ((↑y.i : Int).toNat * (9 : Nat))) (4 : Nat))) (Bd.w (0 : Int) (18446744073709551615 : Int) (seenInt_bd IntKind.u64 W (addOpt (addOpt a ((↑y.i :
    Int).toNat * (fun (x : TypeInfo) => x.size) Try.prog.types[(169 : Nat)])) ((0 : Nat) + (1 : Nat) + (1 : Nat) + (1 : Nat) + (1 : Nat))))), SC.int false IntKind.u64 (seenInt
    IntKind.u64 W (addOpt (addOpt a ((↑y.i : Int).toNat * (9 : Nat))) (5 : Nat))) (Bd.w (0 : Int) (18446744073709551615 : Int) (seenInt_bd IntKind.u64 W (addOpt (addOpt a ((↑y.i :
    Int).toNat * (fun (x : TypeInfo) => x.size) Try.prog.types[(169 : Nat)])) ((0 : Nat) + (1 : Nat) + (1 : Nat) + (1 : Nat) + (1 : Nat) + (1 : Nat))))), SC.int false IntKind.i64
    (seenInt IntKind.i64 W (addOpt (addOpt a ((↑y.i : Int).toNat * (9 : Nat))) (6 : Nat))) (Bd.w (-9223372036854775808 : Int) (9223372036854775807 : Int) (seenInt_bd IntKind.i64 W
    (addOpt (addOpt a ((↑y.i : Int).toNat * (fun (x : TypeInfo) => x.size) Try.prog.types[(169 : Nat)])) ((0 : Nat) + (1 : Nat) + (1 : Nat) + (1 : Nat) + (1 : Nat) + (1 : Nat) + (1 :
    Nat))))), SC.int false IntKind.u64 (seenInt IntKind.u64 W (addOpt (addOpt a ((↑y.i : Int).toNat * (9 : Nat))) (7 : Nat))) (Bd.w (0 : Int) (18446744073709551615 : Int) (seenInt_bd
    IntKind.u64 W (addOpt (addOpt a ((↑y.i : Int).toNat * (fun (x : TypeInfo) => x.size) Try.prog.types[(169 : Nat)])) ((0 : Nat) + (1 : Nat) + (1 : Nat) + (1 : Nat) + (1 : Nat) + (1 :
    Nat) + (1 : Nat) + (1 : Nat))))), SC.int false IntKind.u64 (seenInt IntKind.u64 W (addOpt (addOpt a ((↑y.i : Int).toNat * (9 : Nat))) (8 : Nat))) (Bd.w (0 : Int)
    (18446744073709551615 : Int) (seenInt_bd IntKind.u64 W (addOpt (addOpt a ((↑y.i : Int).toNat * (fun (x : TypeInfo) => x.size) Try.prog.types[(169 : Nat)])) ((0 : Nat) + (1 : Nat) +
    (1 : Nat) + (1 : Nat) + (1 : Nat) + (1 : Nat) + (1 : Nat) + (1 : Nat) + (1 : Nat)))))]) (ST.node (SV.c (SC.raw (ρ (70 : Nat)))) (ST.node (SV.c (SC.raw (ρ (134 : Nat)))) ST.nil
    ST.nil) ST.nil) (ST.node (SV.c (SC.raw (ρ (102 : Nat)))) ST.nil ST.nil)) (ST.node (SV.c (SC.raw (ρ (54 : Nat)))) (ST.node (SV.c (SC.raw (ρ (86 : Nat)))) (ST.node (SV.c (SC.raw (ρ
    (150 : Nat)))) ST.nil ST.nil) ST.nil) (ST.node (SV.c (SC.raw (ρ (118 : Nat)))) ST.nil ST.nil))) (ST.node (SV.c (SC.raw (ρ (30 : Nat)))) (ST.node (SV.c (SC.raw (ρ (46 : Nat))))
    (ST.node (SV.c (SC.raw (ρ (78 : Nat)))) (ST.node (SV.c (SC.raw (ρ (142 : Nat)))) ST.nil ST.nil) ST.nil) (ST.node (SV.c (SC.raw (ρ (110 : Nat)))) ST.nil ST.nil)) (ST.node (SV.c
    (SC.raw (ρ (62 : Nat)))) (ST.node (SV.c (SC.raw (ρ (94 : Nat)))) ST.nil ST.nil) (ST.node (SV.c (SC.raw (ρ (126 : Nat)))) ST.nil ST.nil))))))) []) (Mem.mk [((21 : Nat), SO.ext
    (HO.obj [] y.x)), ((22 : Nat), SO.mp true y.l), ((0 : Nat), SO.seen W), ((56 : Nat), SO.cells [SC.int false IntKind.i64 (seenInt IntKind.i64 W (addOpt (addOpt a ((↑y.i : Int).toNat
    * (9 : Nat))) (0 : Nat))) Bd.any, SC.int false IntKind.i64 (seenInt IntKind.i64 W (addOpt (addOpt a ((↑y.i : Int).toNat * (9 : Nat))) (1 : Nat))) Bd.any, SC.int false IntKind.i64
    (seenInt IntKind.i64 W (addOpt (addOpt a ((↑y.i : Int).toNat * (9 : Nat))) (2 : Nat))) Bd.any, SC.sliv (seenSli W (addOpt (addOpt a ((↑y.i : Int).toNat * (9 : Nat))) ((0 : Nat) + (1
    : Nat) + (1 : Nat) + (1 : Nat)))).fst false (seenSli W (addOpt (addOpt a ((↑y.i : Int).toNat * (9 : Nat))) (3 : Nat))).snd.fst (seenSli W (addOpt (addOpt a ((↑y.i : Int).toNat * (9
    : Nat))) (3 : Nat))).snd.snd, SC.int false IntKind.u64 h, SC.int false IntKind.u64 b, SC.int false IntKind.i64 (seenInt IntKind.i64 W (addOpt (addOpt a ((↑y.i : Int).toNat * (9 :
    Nat))) (6 : Nat))) Bd.any, SC.int false IntKind.u64 (seenInt IntKind.u64 W (addOpt (addOpt a ((↑y.i : Int).toNat * (9 : Nat))) (7 : Nat))) Bd.any, SC.int false IntKind.u64 (seenInt
    IntKind.u64 W (addOpt (addOpt a ((↑y.i : Int).toNat * (9 : Nat))) (8 : Nat))) Bd.any] (169 : Nat))] (63 : Nat)) Scr.nil ∧ True) ∧ True) ∧ ∀ (cap_1 : Nat) (z : Nat → Option Addr ×
    Nat), q ≤ cap_1 → W = W ∧ (((((0 : Int) ≤ seenInt IntKind.u64 W (addOpt (addOpt a ((↑y.i : Int).toNat * (9 : Nat))) (4 : Nat)) ∧ seenInt IntKind.u64 W (addOpt (addOpt a ((↑y.i :
    Int).toNat * (9 : Nat))) (4 : Nat)) < (18446744073709551616 : Int)) ∧ (0 : Int) ≤ seenInt IntKind.u64 W (addOpt (addOpt a ((↑y.i : Int).toNat * (9 : Nat))) (5 : Nat)) ∧ seenInt
    IntKind.u64 W (addOpt (addOpt a ((↑y.i : Int).toNat * (9 : Nat))) (5 : Nat)) < (18446744073709551616 : Int)) ∧ q ≤ (1000000000000 : Nat) ∧ ∃ (hf_1 : Nat → Int), ∃ (nf_1 : Nat →
    Nat), ∃ (z_1 : Nat → Option Addr × Nat), (∀ (i : Nat), i < q → (0 : Int) ≤ hf_1 i ∧ hf_1 i < (18446744073709551616 : Int)) ∧ some (SO.vals (E := XP) (164 : TypeId) (2 : Nat) q cap_1
    (blkW hf nf z)) = some (SO.vals (E := XP) (164 : TypeId) (2 : Nat) q cap_1 (blkW hf_1 nf_1 z_1))) ∧ ∀ (h b : Int), ((0 : Int) ≤ h ∧ h < (18446744073709551616 : Int)) ∧ (0 : Int) ≤ b
    ∧ b < (18446744073709551616 : Int) → K (SF.mk (151 : Nat) (ST.node (SV.c (SC.int false IntKind.i64 c)) (ST.node (SV.c (SC.raw (ρ (1 : Nat)))) (ST.node (SV.c (SC.raw (ρ (3 : Nat))))
    (ST.node (SV.c (SC.map (22 : Nat))) (ST.node (SV.c (SC.raw (ρ (15 : Nat)))) (ST.node (SV.c (SC.raw (ρ (31 : Nat)))) (ST.node (SV.c (SC.raw (ρ (63 : Nat)))) (ST.node (SV.c (SC.raw (ρ
    (127 : Nat)))) ST.nil ST.nil) ST.nil) (ST.node (SV.c (SC.raw (ρ (95 : Nat)))) ST.nil ST.nil)) (ST.node (SV.c (SC.raw (ρ (47 : Nat)))) (ST.node (SV.c (SC.raw (ρ (79 : Nat))))
    (ST.node (SV.c (SC.raw (ρ (143 : Nat)))) ST.nil ST.nil) ST.nil) (ST.node (SV.c (SC.raw (ρ (111 : Nat)))) ST.nil ST.nil))) (ST.node (SV.c (SC.raw (ρ (23 : Nat)))) (ST.node (SV.agg
    [SC.int false IntKind.i64 (seenInt IntKind.i64 W (addOpt (addOpt a ((↑y.i : Int).toNat * (9 : Nat))) (0 : Nat))) (Bd.w (-9223372036854775808 : Int) (9223372036854775807 : Int)
    (seenInt_bd IntKind.i64 W (addOpt (addOpt a ((↑y.i : Int).toNat * (fun (x : TypeInfo) => x.size) Try.prog.types[(169 : Nat)])) (0 : Nat)))), SC.int false IntKind.i64 (seenInt
    IntKind.i64 W (addOpt (addOpt a ((↑y.i : Int).toNat * (9 : Nat))) (1 : Nat))) (Bd.w (-9223372036854775808 : Int) (9223372036854775807 : Int) (seenInt_bd IntKind.i64 W (addOpt
    (addOpt a ((↑y.i : Int).toNat * (fun (x : TypeInfo) => x.size) Try.prog.types[(169 : Nat)])) ((0 : Nat) + (1 : Nat))))), SC.int false IntKind.i64 (seenInt IntKind.i64 W (addOpt
    (addOpt a ((↑y.i : Int).toNat * (9 : Nat))) (2 : Nat))) (Bd.w (-9223372036854775808 : Int) (9223372036854775807 : Int) (seenInt_bd IntKind.i64 W (addOpt (addOpt a ((↑y.i :
    Int).toNat * (fun (x : TypeInfo) => x.size) Try.prog.types[(169 : Nat)])) ((0 : Nat) + (1 : Nat) + (1 : Nat))))), SC.sliv (seenSli W (addOpt (addOpt a ((↑y.i : Int).toNat * (9 :
    Nat))) ((0 : Nat) + (1 : Nat) + (1 : Nat) + (1 : Nat)))).fst false (seenSli W (addOpt (addOpt a ((↑y.i : Int).toNat * (9 : Nat))) (3 : Nat))).snd.fst (seenSli W (addOpt (addOpt a
    ((↑y.i : Int).toNat * (9 : Nat))) (3 : Nat))).snd.snd, SC.int false IntKind.u64 (seenInt IntKind.u64 W (addOpt (addOpt a ((↑y.i : Int).toNat * (9 : Nat))) (4 : Nat))) (Bd.w (0 :
    Int) (18446744073709551615 : Int) (seenInt_bd IntKind.u64 W (addOpt (addOpt a ((↑y.i : Int).toNat * (fun (x : TypeInfo) => x.size) Try.prog.types[(169 : Nat)])) ((0 : Nat) + (1 :
    Nat) + (1 : Nat) + (1 : Nat) + (1 : Nat))))), SC.int false IntKind.u64 (seenInt IntKind.u64 W (addOpt (addOpt a ((↑y.i : Int).toNat * (9 : Nat))) (5 : Nat))) (Bd.w (0 : Int)
    (18446744073709551615 : Int) (seenInt_bd IntKind.u64 W (addOpt (addOpt a ((↑y.i : Int).toNat * (fun (x : TypeInfo) => x.size) Try.prog.types[(169 : Nat)])) ((0 : Nat) + (1 : Nat) +
    (1 : Nat) + (1 : Nat) + (1 : Nat) + (1 : Nat))))), SC.int false IntKind.i64 (seenInt IntKind.i64 W (addOpt (addOpt a ((↑y.i : Int).toNat * (9 : Nat))) (6 : Nat))) (Bd.w
    (-9223372036854775808 : Int) (9223372036854775807 : Int) (seenInt_bd IntKind.i64 W (addOpt (addOpt a ((↑y.i : Int).toNat * (fun (x : TypeInfo) => x.size) Try.prog.types[(169 :
    Nat)])) ((0 : Nat) + (1 : Nat) + (1 : Nat) + (1 : Nat) + (1 : Nat) + (1 : Nat) + (1 : Nat))))), SC.int false IntKind.u64 (seenInt IntKind.u64 W (addOpt (addOpt a ((↑y.i : Int).toNat
    * (9 : Nat))) (7 : Nat))) (Bd.w (0 : Int) (18446744073709551615 : Int) (seenInt_bd IntKind.u64 W (addOpt (addOpt a ((↑y.i : Int).toNat * (fun (x : TypeInfo) => x.size)
    Try.prog.types[(169 : Nat)])) ((0 : Nat) + (1 : Nat) + (1 : Nat) + (1 : Nat) + (1 : Nat) + (1 : Nat) + (1 : Nat) + (1 : Nat))))), SC.int false IntKind.u64 (seenInt IntKind.u64 W
    (addOpt (addOpt a ((↑y.i : Int).toNat * (9 : Nat))) (8 : Nat))) (Bd.w (0 : Int) (18446744073709551615 : Int) (seenInt_bd IntKind.u64 W (addOpt (addOpt a ((↑y.i : Int).toNat * (fun
    (x : TypeInfo) => x.size) Try.prog.types[(169 : Nat)])) ((0 : Nat) + (1 : Nat) + (1 : Nat) + (1 : Nat) + (1 : Nat) + (1 : Nat) + (1 : Nat) + (1 : Nat) + (1 : Nat)))))]) (ST.node
    (SV.c (SC.raw (ρ (71 : Nat)))) (ST.node (SV.c (SC.raw (ρ (135 : Nat)))) ST.nil ST.nil) ST.nil) (ST.node (SV.c (SC.raw (ρ (103 : Nat)))) ST.nil ST.nil)) (ST.node (SV.c (SC.raw (ρ (55
    : Nat)))) (ST.node (SV.c (SC.raw (ρ (87 : Nat)))) ST.nil ST.nil) (ST.node (SV.c (SC.raw (ρ (119 : Nat)))) ST.nil ST.nil)))) (ST.node (SV.c (SC.raw (ρ (11 : Nat)))) (ST.node (SV.c
    (SC.raw (ρ (19 : Nat)))) (ST.node (SV.c (SC.int false IntKind.i64 (↑y.i : Int))) (ST.node (SV.c (SC.raw (ρ (67 : Nat)))) (ST.node (SV.c (SC.raw (ρ (131 : Nat)))) ST.nil ST.nil)
    ST.nil) (ST.node (SV.c (SC.raw (ρ (99 : Nat)))) ST.nil ST.nil)) (ST.node (SV.c (SC.raw (ρ (51 : Nat)))) (ST.node (SV.c (SC.raw (ρ (83 : Nat)))) (ST.node (SV.c (SC.raw (ρ (147 :
    Nat)))) ST.nil ST.nil) ST.nil) (ST.node (SV.c (SC.raw (ρ (115 : Nat)))) ST.nil ST.nil))) (ST.node (SV.c (SC.raw (ρ (27 : Nat)))) (ST.node (SV.c (SC.raw (ρ (43 : Nat)))) (ST.node
    (SV.c (SC.raw (ρ (75 : Nat)))) (ST.node (SV.c (SC.raw (ρ (139 : Nat)))) ST.nil ST.nil) ST.nil) (ST.node (SV.c (SC.raw (ρ (107 : Nat)))) ST.nil ST.nil)) (ST.node (SV.c (SC.raw (ρ (59
    : Nat)))) (ST.node (SV.c (SC.raw (ρ (91 : Nat)))) ST.nil ST.nil) (ST.node (SV.c (SC.raw (ρ (123 : Nat)))) ST.nil ST.nil))))) (ST.node (SV.c (SC.ptr (21 : Nat) (0 : Nat))) (ST.node
    (SV.c (SC.ptr (56 : Nat) (0 : Nat))) (ST.node (SV.c (SC.raw (ρ (17 : Nat)))) (ST.node (SV.c (SC.sliv a false len cap)) (ST.node (SV.c (SC.raw (ρ (65 : Nat)))) (ST.node (SV.c (SC.raw
    (ρ (129 : Nat)))) ST.nil ST.nil) ST.nil) (ST.node (SV.c (SC.raw (ρ (97 : Nat)))) ST.nil ST.nil)) (ST.node (SV.c (SC.raw (ρ (49 : Nat)))) (ST.node (SV.c (SC.raw (ρ (81 : Nat))))
    (ST.node (SV.c (SC.raw (ρ (145 : Nat)))) ST.nil ST.nil) ST.nil) (ST.node (SV.c (SC.raw (ρ (113 : Nat)))) ST.nil ST.nil))) (ST.node (SV.c (SC.raw (ρ (25 : Nat)))) (ST.node (SV.c
    (SC.sli (63 : Nat) (2 : Nat) true (0 : Nat) false q cap_1)) (ST.node (SV.c (SC.raw (ρ (73 : Nat)))) (ST.node (SV.c (SC.raw (ρ (137 : Nat)))) ST.nil ST.nil) ST.nil) (ST.node (SV.c
    (SC.raw (ρ (105 : Nat)))) ST.nil ST.nil)) (ST.node (SV.c (SC.raw (ρ (57 : Nat)))) (ST.node (SV.c (SC.raw (ρ (89 : Nat)))) ST.nil ST.nil) (ST.node (SV.c (SC.raw (ρ (121 : Nat))))
    ST.nil ST.nil)))) (ST.node (SV.c (SC.raw (ρ (13 : Nat)))) (ST.node (SV.c (SC.raw (ρ (21 : Nat)))) (ST.node (SV.c (SC.ptv (addOpt a ((↑y.i : Int).toNat * (9 : Nat))))) (ST.node (SV.c
    (SC.raw (ρ (69 : Nat)))) (ST.node (SV.c (SC.raw (ρ (133 : Nat)))) ST.nil ST.nil) ST.nil) (ST.node (SV.c (SC.raw (ρ (101 : Nat)))) ST.nil ST.nil)) (ST.node (SV.c (SC.raw (ρ (53 :
    Nat)))) (ST.node (SV.c (SC.raw (ρ (85 : Nat)))) (ST.node (SV.c (SC.raw (ρ (149 : Nat)))) ST.nil ST.nil) ST.nil) (ST.node (SV.c (SC.raw (ρ (117 : Nat)))) ST.nil ST.nil))) (ST.node
    (SV.c (SC.raw (ρ (29 : Nat)))) (ST.node (SV.c (SC.raw (ρ (45 : Nat)))) (ST.node (SV.c (SC.raw (ρ (77 : Nat)))) (ST.node (SV.c (SC.raw (ρ (141 : Nat)))) ST.nil ST.nil) ST.nil)
    (ST.node (SV.c (SC.raw (ρ (109 : Nat)))) ST.nil ST.nil)) (ST.node (SV.c (SC.raw (ρ (61 : Nat)))) (ST.node (SV.c (SC.raw (ρ (93 : Nat)))) ST.nil ST.nil) (ST.node (SV.c (SC.raw (ρ
    (125 : Nat)))) ST.nil ST.nil)))))) (ST.node (SV.c (SC.raw (ρ (2 : Nat)))) (ST.node (SV.c (SC.raw (ρ (4 : Nat)))) (ST.node (SV.c (SC.raw (ρ (8 : Nat)))) (ST.node (SV.c (SC.raw (ρ (16
    : Nat)))) (ST.node (SV.c (SC.raw (ρ (32 : Nat)))) (ST.node (SV.c (SC.raw (ρ (64 : Nat)))) (ST.node (SV.c (SC.raw (ρ (128 : Nat)))) ST.nil ST.nil) ST.nil) (ST.node (SV.c (SC.raw (ρ
    (96 : Nat)))) ST.nil ST.nil)) (ST.node (SV.c (SC.raw (ρ (48 : Nat)))) (ST.node (SV.c (SC.raw (ρ (80 : Nat)))) (ST.node (SV.c (SC.raw (ρ (144 : Nat)))) ST.nil ST.nil) ST.nil)
    (ST.node (SV.c (SC.raw (ρ (112 : Nat)))) ST.nil ST.nil))) (ST.node (SV.c (SC.raw (ρ (24 : Nat)))) (ST.node (SV.c (SC.ptr (21 : Nat) (0 : Nat))) (ST.node (SV.c (SC.raw (ρ (72 :
    Nat)))) (ST.node (SV.c (SC.raw (ρ (136 : Nat)))) ST.nil ST.nil) ST.nil) (ST.node (SV.c (SC.raw (ρ (104 : Nat)))) ST.nil ST.nil)) (ST.node (SV.c (SC.raw (ρ (56 : Nat)))) (ST.node
    (SV.c (SC.raw (ρ (88 : Nat)))) ST.nil ST.nil) (ST.node (SV.c (SC.raw (ρ (120 : Nat)))) ST.nil ST.nil)))) (ST.node (SV.c (SC.raw (ρ (12 : Nat)))) (ST.node (SV.c (SC.raw (ρ (20 :
    Nat)))) (ST.node (SV.c (SC.boo true true)) (ST.node (SV.c (SC.raw (ρ (68 : Nat)))) (ST.node (SV.c (SC.raw (ρ (132 : Nat)))) ST.nil ST.nil) ST.nil) (ST.node (SV.c (SC.raw (ρ (100 :
    Nat)))) ST.nil ST.nil)) (ST.node (SV.c (SC.raw (ρ (52 : Nat)))) (ST.node (SV.c (SC.raw (ρ (84 : Nat)))) (ST.node (SV.c (SC.raw (ρ (148 : Nat)))) ST.nil ST.nil) ST.nil) (ST.node
    (SV.c (SC.raw (ρ (116 : Nat)))) ST.nil ST.nil))) (ST.node (SV.c (SC.raw (ρ (28 : Nat)))) (ST.node (SV.c (SC.raw (ρ (44 : Nat)))) (ST.node (SV.c (SC.raw (ρ (76 : Nat)))) (ST.node
    (SV.c (SC.raw (ρ (140 : Nat)))) ST.nil ST.nil) ST.nil) (ST.node (SV.c (SC.raw (ρ (108 : Nat)))) ST.nil ST.nil)) (ST.node (SV.c (SC.raw (ρ (60 : Nat)))) (ST.node (SV.c (SC.raw (ρ (92
    : Nat)))) ST.nil ST.nil) (ST.node (SV.c (SC.raw (ρ (124 : Nat)))) ST.nil ST.nil))))) (ST.node (SV.c (SC.raw (ρ (6 : Nat)))) (ST.node (SV.c (SC.raw (ρ (10 : Nat)))) (ST.node (SV.c
    (SC.raw (ρ (18 : Nat)))) (ST.node (SV.c (SC.int false IntKind.i64 (↑len : Int))) (ST.node (SV.c (SC.raw (ρ (66 : Nat)))) (ST.node (SV.c (SC.raw (ρ (130 : Nat)))) ST.nil ST.nil)
    ST.nil) (ST.node (SV.c (SC.raw (ρ (98 : Nat)))) ST.nil ST.nil)) (ST.node (SV.c (SC.raw (ρ (50 : Nat)))) (ST.node (SV.c (SC.raw (ρ (82 : Nat)))) (ST.node (SV.c (SC.raw (ρ (146 :
    Nat)))) ST.nil ST.nil) ST.nil) (ST.node (SV.c (SC.raw (ρ (114 : Nat)))) ST.nil ST.nil))) (ST.node (SV.c (SC.raw (ρ (26 : Nat)))) (ST.node (SV.agg [SC.int false IntKind.i64 (seenInt
    IntKind.i64 W (addOpt (addOpt a ((↑y.i : Int).toNat * (9 : Nat))) (0 : Nat))) Bd.any, SC.int false IntKind.i64 (seenInt IntKind.i64 W (addOpt (addOpt a ((↑y.i : Int).toNat * (9 :
    Nat))) (1 : Nat))) Bd.any, SC.int false IntKind.i64 (seenInt IntKind.i64 W (addOpt (addOpt a ((↑y.i : Int).toNat * (9 : Nat))) (2 : Nat))) Bd.any, SC.sliv (seenSli W (addOpt (addOpt
    a ((↑y.i : Int).toNat * (9 : Nat))) ((0 : Nat) + (1 : Nat) + (1 : Nat) + (1 : Nat)))).fst false (seenSli W (addOpt (addOpt a ((↑y.i : Int).toNat * (9 : Nat))) (3 : Nat))).snd.fst
    (seenSli W (addOpt (addOpt a ((↑y.i : Int).toNat * (9 : Nat))) (3 : Nat))).snd.snd, SC.int false IntKind.u64 h, SC.int false IntKind.u64 b, SC.int false IntKind.i64 (seenInt
    IntKind.i64 W (addOpt (addOpt a ((↑y.i : Int).toNat * (9 : Nat))) (6 : Nat))) Bd.any, SC.int false IntKind.u64 (seenInt IntKind.u64 W (addOpt (addOpt a ((↑y.i : Int).toNat * (9 :
    Nat))) (7 : Nat))) Bd.any, SC.int false IntKind.u64 (seenInt IntKind.u64 W (addOpt (addOpt a ((↑y.i : Int).toNat * (9 : Nat))) (8 : Nat))) Bd.any]) (ST.node (SV.c (SC.raw (ρ (74 :
    Nat)))) (ST.node (SV.c (SC.raw (ρ (138 : Nat)))) ST.nil ST.nil) ST.nil) (ST.node (SV.c (SC.raw (ρ (106 : Nat)))) ST.nil ST.nil)) (ST.node (SV.c (SC.raw (ρ (58 : Nat)))) (ST.node
    (SV.c (SC.raw (ρ (90 : Nat)))) ST.nil ST.nil) (ST.node (SV.c (SC.raw (ρ (122 : Nat)))) ST.nil ST.nil)))) (ST.node (SV.c (SC.raw (ρ (14 : Nat)))) (ST.node (SV.c (SC.raw (ρ (22 :
    Nat)))) (ST.node (SV.agg [SC.int false IntKind.i64 (seenInt IntKind.i64 W (addOpt (addOpt a ((↑y.i : Int).toNat * (9 : Nat))) (0 : Nat))) (Bd.w (-9223372036854775808 : Int)
    (9223372036854775807 : Int) (seenInt_bd IntKind.i64 W (addOpt (addOpt a ((↑y.i : Int).toNat * (fun (x : TypeInfo) => x.size) Try.prog.types[(169 : Nat)])) (0 : Nat)))), SC.int false
    IntKind.i64 (seenInt IntKind.i64 W (addOpt (addOpt a ((↑y.i : Int).toNat * (9 : Nat))) (1 : Nat))) (Bd.w (-9223372036854775808 : Int) (9223372036854775807 : Int) (seenInt_bd
    IntKind.i64 W (addOpt (addOpt a ((↑y.i : Int).toNat * (fun (x : TypeInfo) => x.size) Try.prog.types[(169 : Nat)])) ((0 : Nat) + (1 : Nat))))), SC.int false IntKind.i64 (seenInt
    IntKind.i64 W (addOpt (addOpt a ((↑y.i : Int).toNat * (9 : Nat))) (2 : Nat))) (Bd.w (-9223372036854775808 : Int) (9223372036854775807 : Int) (seenInt_bd IntKind.i64 W (addOpt
    (addOpt a ((↑y.i : Int).toNat * (fun (x : TypeInfo) => x.size) Try.prog.types[(169 : Nat)])) ((0 : Nat) + (1 : Nat) + (1 : Nat))))), SC.sliv (seenSli W (addOpt (addOpt a ((↑y.i :
    Int).toNat * (9 : Nat))) ((0 : Nat) + (1 : Nat) + (1 : Nat) + (1 : Nat)))).fst false (seenSli W (addOpt (addOpt a ((↑y.i : Int).toNat * (9 : Nat))) (3 : Nat))).snd.fst (seenSli W
    (addOpt (addOpt a ((↑y.i : Int).toNat * (9 : Nat))) (3 : Nat))).snd.snd, SC.int false IntKind.u64 (seenInt IntKind.u64 W (addOpt (addOpt a ((↑y.i : Int).toNat * (9 : Nat))) (4 :
    Nat))) (Bd.w (0 : Int) (18446744073709551615 : Int) (seenInt_bd IntKind.u64 W (addOpt (addOpt a ((↑y.i : Int).toNat * (fun (x : TypeInfo) => x.size) Try.prog.types[(169 : Nat)]))
    ((0 : Nat) + (1 : Nat) + (1 : Nat) + (1 : Nat) + (1 : Nat))))), SC.int false IntKind.u64 (seenInt IntKind.u64 W (addOpt (addOpt a ((↑y.i : Int).toNat * (9 : Nat))) (5 : Nat))) (Bd.w
    (0 : Int) (18446744073709551615 : Int) (seenInt_bd IntKind.u64 W (addOpt (addOpt a ((↑y.i : Int).toNat * (fun (x : TypeInfo) => x.size) Try.prog.types[(169 : Nat)])) ((0 : Nat) + (1
    : Nat) + (1 : Nat) + (1 : Nat) + (1 : Nat) + (1 : Nat))))), SC.int false IntKind.i64 (seenInt IntKind.i64 W (addOpt (addOpt a ((↑y.i : Int).toNat * (9 : Nat))) (6 : Nat))) (Bd.w
    (-9223372036854775808 : Int) (9223372036854775807 : Int) (seenInt_bd IntKind.i64 W (addOpt (addOpt a ((↑y.i : Int).toNat * (fun (x : TypeInfo) => x.size) Try.prog.types[(169 :
    Nat)])) ((0 : Nat) + (1 : Nat) + (1 : Nat) + (1 : Nat) + (1 : Nat) + (1 : Nat) + (1 : Nat))))), SC.int false IntKind.u64 (seenInt IntKind.u64 W (addOpt (addOpt a ((↑y.i : Int).toNat
    * (9 : Nat))) (7 : Nat))) (Bd.w (0 : Int) (18446744073709551615 : Int) (seenInt_bd IntKind.u64 W (addOpt (addOpt a ((↑y.i : Int).toNat * (fun (x : TypeInfo) => x.size)
    Try.prog.types[(169 : Nat)])) ((0 : Nat) + (1 : Nat) + (1 : Nat) + (1 : Nat) + (1 : Nat) + (1 : Nat) + (1 : Nat) + (1 : Nat))))), SC.int false IntKind.u64 (seenInt IntKind.u64 W
    (addOpt (addOpt a ((↑y.i : Int).toNat * (9 : Nat))) (8 : Nat))) (Bd.w (0 : Int) (18446744073709551615 : Int) (seenInt_bd IntKind.u64 W (addOpt (addOpt a ((↑y.i : Int).toNat * (fun
    (x : TypeInfo) => x.size) Try.prog.types[(169 : Nat)])) ((0 : Nat) + (1 : Nat) + (1 : Nat) + (1 : Nat) + (1 : Nat) + (1 : Nat) + (1 : Nat) + (1 : Nat) + (1 : Nat)))))]) (ST.node
    (SV.c (SC.raw (ρ (70 : Nat)))) (ST.node (SV.c (SC.raw (ρ (134 : Nat)))) ST.nil ST.nil) ST.nil) (ST.node (SV.c (SC.raw (ρ (102 : Nat)))) ST.nil ST.nil)) (ST.node (SV.c (SC.raw (ρ (54
    : Nat)))) (ST.node (SV.c (SC.raw (ρ (86 : Nat)))) (ST.node (SV.c (SC.raw (ρ (150 : Nat)))) ST.nil ST.nil) ST.nil) (ST.node (SV.c (SC.raw (ρ (118 : Nat)))) ST.nil ST.nil))) (ST.node
    (SV.c (SC.raw (ρ (30 : Nat)))) (ST.node (SV.c (SC.raw (ρ (46 : Nat)))) (ST.node (SV.c (SC.raw (ρ (78 : Nat)))) (ST.node (SV.c (SC.raw (ρ (142 : Nat)))) ST.nil ST.nil) ST.nil)
    (ST.node (SV.c (SC.raw (ρ (110 : Nat)))) ST.nil ST.nil)) (ST.node (SV.c (SC.raw (ρ (62 : Nat)))) (ST.node (SV.c (SC.raw (ρ (94 : Nat)))) ST.nil ST.nil) (ST.node (SV.c (SC.raw (ρ
    (126 : Nat)))) ST.nil ST.nil))))))) []) (Mem.mk [((21 : Nat), SO.ext (HO.obj [] y.x)), ((22 : Nat), SO.mp true y.l), ((0 : Nat), SO.seen W), ((56 : Nat), SO.cells [SC.int false
    IntKind.i64 (seenInt IntKind.i64 W (addOpt (addOpt a ((↑y.i : Int).toNat * (9 : Nat))) (0 : Nat))) Bd.any, SC.int false IntKind.i64 (seenInt IntKind.i64 W (addOpt (addOpt a ((↑y.i :
    Int).toNat * (9 : Nat))) (1 : Nat))) Bd.any, SC.int false IntKind.i64 (seenInt IntKind.i64 W (addOpt (addOpt a ((↑y.i : Int).toNat * (9 : Nat))) (2 : Nat))) Bd.any, SC.sliv (seenSli
    W (addOpt (addOpt a ((↑y.i : Int).toNat * (9 : Nat))) ((0 : Nat) + (1 : Nat) + (1 : Nat) + (1 : Nat)))).fst false (seenSli W (addOpt (addOpt a ((↑y.i : Int).toNat * (9 : Nat))) (3 :
    Nat))).snd.fst (seenSli W (addOpt (addOpt a ((↑y.i : Int).toNat * (9 : Nat))) (3 : Nat))).snd.snd, SC.int false IntKind.u64 h, SC.int false IntKind.u64 b, SC.int false IntKind.i64
    (seenInt IntKind.i64 W (addOpt (addOpt a ((↑y.i : Int).toNat * (9 : Nat))) (6 : Nat))) Bd.any, SC.int false IntKind.u64 (seenInt IntKind.u64 W (addOpt (addOpt a ((↑y.i : Int).toNat
    * (9 : Nat))) (7 : Nat))) Bd.any, SC.int false IntKind.u64 (seenInt IntKind.u64 W (addOpt (addOpt a ((↑y.i : Int).toNat * (9 : Nat))) (8 : Nat))) Bd.any] (169 : Nat)), ((63 : Nat),
    SO.vals (E := XP) (164 : TypeId) (2 : Nat) q cap_1 (blkW hf nf z))] (64 : Nat)) Scr.nil ∧ True) ∧ True) ∧ True → (∃ (z : Nat → Value), ArInv (y.x.ar z)) → ∀ (q : Nat) (hf : Nat →
    Int) (nf : Nat → Nat), (∃ (l : List (Nat × List Nat)), l.Perm (List.map (fun (b : Nat × Nat × List Nat) => b.snd) y.x.bs) ∧ q = (List.take (Int.toNat (200 : Int)) l).length ∧ ∀ (i :
    Nat), i < q → hf i = (↑(l.getD i ((0 : Nat), [])).fst : Int) ∧ nf i = (l.getD i ((0 : Nat), [])).snd.length) → (q = (0 : Nat) → W = W ∧ ((((((0 : Int) ≤ seenInt IntKind.u64 W
    (addOpt (addOpt a ((↑y.i : Int).toNat * (9 : Nat))) (4 : Nat)) ∧ seenInt IntKind.u64 W (addOpt (addOpt a ((↑y.i : Int).toNat * (9 : Nat))) (4 : Nat)) < (18446744073709551616 : Int))
    ∧ (0 : Int) ≤ seenInt IntKind.u64 W (addOpt (addOpt a ((↑y.i : Int).toNat * (9 : Nat))) (5 : Nat)) ∧ seenInt IntKind.u64 W (addOpt (addOpt a ((↑y.i : Int).toNat * (9 : Nat))) (5 :
    Nat)) < (18446744073709551616 : Int)) ∧ True) ∧ ∀ (h b : Int), ((0 : Int) ≤ h ∧ h < (18446744073709551616 : Int)) ∧ (0 : Int) ≤ b ∧ b < (18446744073709551616 : Int) → K (SF.mk (151
    : Nat) (ST.node (SV.c (SC.int false IntKind.i64 c)) (ST.node (SV.c (SC.raw (ρ (1 : Nat)))) (ST.node (SV.c (SC.raw (ρ (3 : Nat)))) (ST.node (SV.c (SC.map (22 : Nat))) (ST.node (SV.c
    (SC.raw (ρ (15 : Nat)))) (ST.node (SV.c (SC.raw (ρ (31 : Nat)))) (ST.node (SV.c (SC.raw (ρ (63 : Nat)))) (ST.node (SV.c (SC.raw (ρ (127 : Nat)))) ST.nil ST.nil) ST.nil) (ST.node
    (SV.c (SC.raw (ρ (95 : Nat)))) ST.nil ST.nil)) (ST.node (SV.c (SC.raw (ρ (47 : Nat)))) (ST.node (SV.c (SC.raw (ρ (79 : Nat)))) (ST.node (SV.c (SC.raw (ρ (143 : Nat)))) ST.nil
    ST.nil) ST.nil) (ST.node (SV.c (SC.raw (ρ (111 : Nat)))) ST.nil ST.nil))) (ST.node (SV.c (SC.raw (ρ (23 : Nat)))) (ST.node (SV.agg [SC.int false IntKind.i64 (seenInt IntKind.i64 W
    (addOpt (addOpt a ((↑y.i : Int).toNat * (9 : Nat))) (0 : Nat))) (Bd.w (-9223372036854775808 : Int) (9223372036854775807 : Int) (seenInt_bd IntKind.i64 W (addOpt (addOpt a ((↑y.i :
    Int).toNat * (fun (x : TypeInfo) => x.size) Try.prog.types[(169 : Nat)])) (0 : Nat)))), SC.int false IntKind.i64 (seenInt IntKind.i64 W (addOpt (addOpt a ((↑y.i : Int).toNat * (9 :
    Nat))) (1 : Nat))) (Bd.w (-9223372036854775808 : Int) (9223372036854775807 : Int) (seenInt_bd IntKind.i64 W (addOpt (addOpt a ((↑y.i : Int).toNat * (fun (x : TypeInfo) => x.size)
    Try.prog.types[(169 : Nat)])) ((0 : Nat) + (1 : Nat))))), SC.int false IntKind.i64 (seenInt IntKind.i64 W (addOpt (addOpt a ((↑y.i : Int).toNat * (9 : Nat))) (2 : Nat))) (Bd.w
    (-9223372036854775808 : Int) (9223372036854775807 : Int) (seenInt_bd IntKind.i64 W (addOpt (addOpt a ((↑y.i : Int).toNat * (fun (x : TypeInfo) => x.size) Try.prog.types[(169 :
    Nat)])) ((0 : Nat) + (1 : Nat) + (1 : Nat))))), SC.sliv (seenSli W (addOpt (addOpt a ((↑y.i : Int).toNat * (9 : Nat))) ((0 : Nat) + (1 : Nat) + (1 : Nat) + (1 : Nat)))).fst false
    (seenSli W (addOpt (addOpt a ((↑y.i : Int).toNat * (9 : Nat))) (3 : Nat))).snd.fst (seenSli W (addOpt (addOpt a ((↑y.i : Int).toNat * (9 : Nat))) (3 : Nat))).snd.snd, SC.int false
    IntKind.u64 (seenInt IntKind.u64 W (addOpt (addOpt a ((↑y.i : Int).toNat * (9 : Nat))) (4 : Nat))) (Bd.w (0 : Int) (18446744073709551615 : Int) (seenInt_bd IntKind.u64 W (addOpt
    (addOpt a ((↑y.i : Int).toNat * (fun (x : TypeInfo) => x.size) Try.prog.types[(169 : Nat)])) ((0 : Nat) + (1 : Nat) + (1 : Nat) + (1 : Nat) + (1 : Nat))))), SC.int false IntKind.u64
    (seenInt IntKind.u64 W (addOpt (addOpt a ((↑y.i : Int).toNat * (9 : Nat))) (5 : Nat))) (Bd.w (0 : Int) (18446744073709551615 : Int) (seenInt_bd IntKind.u64 W (addOpt (addOpt a
    ((↑y.i : Int).toNat * (fun (x : TypeInfo) => x.size) Try.prog.types[(169 : Nat)])) ((0 : Nat) + (1 : Nat) + (1 : Nat) + (1 : Nat) + (1 : Nat) + (1 : Nat))))), SC.int false
    IntKind.i64 (seenInt IntKind.i64 W (addOpt (addOpt a ((↑y.i : Int).toNat * (9 : Nat))) (6 : Nat))) (Bd.w (-9223372036854775808 : Int) (9223372036854775807 : Int) (seenInt_bd
    IntKind.i64 W (addOpt (addOpt a ((↑y.i : Int).toNat * (fun (x : TypeInfo) => x.size) Try.prog.types[(169 : Nat)])) ((0 : Nat) + (1 : Nat) + (1 : Nat) + (1 : Nat) + (1 : Nat) + (1 :
    Nat) + (1 : Nat))))), SC.int false IntKind.u64 (seenInt IntKind.u64 W (addOpt (addOpt a ((↑y.i : Int).toNat * (9 : Nat))) (7 : Nat))) (Bd.w (0 : Int) (18446744073709551615 : Int)
    (seenInt_bd IntKind.u64 W (addOpt (addOpt a ((↑y.i : Int).toNat * (fun (x : TypeInfo) => x.size) Try.prog.types[(169 : Nat)])) ((0 : Nat) + (1 : Nat) + (1 : Nat) + (1 : Nat) + (1 :
    Nat) + (1 : Nat) + (1 : Nat) + (1 : Nat))))), SC.int false IntKind.u64 (seenInt IntKind.u64 W (addOpt (addOpt a ((↑y.i : Int).toNat * (9 : Nat))) (8 : Nat))) (Bd.w (0 : Int)
    (18446744073709551615 : Int) (seenInt_bd IntKind.u64 W (addOpt (addOpt a ((↑y.i : Int).toNat * (fun (x : TypeInfo) => x.size) Try.prog.types[(169 : Nat)])) ((0 : Nat) + (1 : Nat) +
    (1 : Nat) + (1 : Nat) + (1 : Nat) + (1 : Nat) + (1 : Nat) + (1 : Nat) + (1 : Nat)))))]) (ST.node (SV.c (SC.raw (ρ (71 : Nat)))) (ST.node (SV.c (SC.raw (ρ (135 : Nat)))) ST.nil
    ST.nil) ST.nil) (ST.node (SV.c (SC.raw (ρ (103 : Nat)))) ST.nil ST.nil)) (ST.node (SV.c (SC.raw (ρ (55 : Nat)))) (ST.node (SV.c (SC.raw (ρ (87 : Nat)))) ST.nil ST.nil) (ST.node
    (SV.c (SC.raw (ρ (119 : Nat)))) ST.nil ST.nil)))) (ST.node (SV.c (SC.raw (ρ (11 : Nat)))) (ST.node (SV.c (SC.raw (ρ (19 : Nat)))) (ST.node (SV.c (SC.int false IntKind.i64 (↑y.i :
    Int))) (ST.node (SV.c (SC.raw (ρ (67 : Nat)))) (ST.node (SV.c (SC.raw (ρ (131 : Nat)))) ST.nil ST.nil) ST.nil) (ST.node (SV.c (SC.raw (ρ (99 : Nat)))) ST.nil ST.nil)) (ST.node (SV.c
    (SC.raw (ρ (51 : Nat)))) (ST.node (SV.c (SC.raw (ρ (83 : Nat)))) (ST.node (SV.c (SC.raw (ρ (147 : Nat)))) ST.nil ST.nil) ST.nil) (ST.node (SV.c (SC.raw (ρ (115 : Nat)))) ST.nil
    ST.nil))) (ST.node (SV.c (SC.raw (ρ (27 : Nat)))) (ST.node (SV.c (SC.raw (ρ (43 : Nat)))) (ST.node (SV.c (SC.raw (ρ (75 : Nat)))) (ST.node (SV.c (SC.raw (ρ (139 : Nat)))) ST.nil
    ST.nil) ST.nil) (ST.node (SV.c (SC.raw (ρ (107 : Nat)))) ST.nil ST.nil)) (ST.node (SV.c (SC.raw (ρ (59 : Nat)))) (ST.node (SV.c (SC.raw (ρ (91 : Nat)))) ST.nil ST.nil) (ST.node
    (SV.c (SC.raw (ρ (123 : Nat)))) ST.nil ST.nil))))) (ST.node (SV.c (SC.ptr (21 : Nat) (0 : Nat))) (ST.node (SV.c (SC.ptr (56 : Nat) (0 : Nat))) (ST.node (SV.c (SC.raw (ρ (17 :
    Nat)))) (ST.node (SV.c (SC.sliv a false len cap)) (ST.node (SV.c (SC.raw (ρ (65 : Nat)))) (ST.node (SV.c (SC.raw (ρ (129 : Nat)))) ST.nil ST.nil) ST.nil) (ST.node (SV.c (SC.raw (ρ
    (97 : Nat)))) ST.nil ST.nil)) (ST.node (SV.c (SC.raw (ρ (49 : Nat)))) (ST.node (SV.c (SC.raw (ρ (81 : Nat)))) (ST.node (SV.c (SC.raw (ρ (145 : Nat)))) ST.nil ST.nil) ST.nil)
    (ST.node (SV.c (SC.raw (ρ (113 : Nat)))) ST.nil ST.nil))) (ST.node (SV.c (SC.raw (ρ (25 : Nat)))) (ST.node (SV.c SC.nls) (ST.node (SV.c (SC.raw (ρ (73 : Nat)))) (ST.node (SV.c
    (SC.raw (ρ (137 : Nat)))) ST.nil ST.nil) ST.nil) (ST.node (SV.c (SC.raw (ρ (105 : Nat)))) ST.nil ST.nil)) (ST.node (SV.c (SC.raw (ρ (57 : Nat)))) (ST.node (SV.c (SC.raw (ρ (89 :
    Nat)))) ST.nil ST.nil) (ST.node (SV.c (SC.raw (ρ (121 : Nat)))) ST.nil ST.nil)))) (ST.node (SV.c (SC.raw (ρ (13 : Nat)))) (ST.node (SV.c (SC.raw (ρ (21 : Nat)))) (ST.node (SV.c
    (SC.ptv (addOpt a ((↑y.i : Int).toNat * (9 : Nat))))) (ST.node (SV.c (SC.raw (ρ (69 : Nat)))) (ST.node (SV.c (SC.raw (ρ (133 : Nat)))) ST.nil ST.nil) ST.nil) (ST.node (SV.c (SC.raw
    (ρ (101 : Nat)))) ST.nil ST.nil)) (ST.node (SV.c (SC.raw (ρ (53 : Nat)))) (ST.node (SV.c (SC.raw (ρ (85 : Nat)))) (ST.node (SV.c (SC.raw (ρ (149 : Nat)))) ST.nil ST.nil) ST.nil)
    (ST.node (SV.c (SC.raw (ρ (117 : Nat)))) ST.nil ST.nil))) (ST.node (SV.c (SC.raw (ρ (29 : Nat)))) (ST.node (SV.c (SC.raw (ρ (45 : Nat)))) (ST.node (SV.c (SC.raw (ρ (77 : Nat))))
    (ST.node (SV.c (SC.raw (ρ (141 : Nat)))) ST.nil ST.nil) ST.nil) (ST.node (SV.c (SC.raw (ρ (109 : Nat)))) ST.nil ST.nil)) (ST.node (SV.c (SC.raw (ρ (61 : Nat)))) (ST.node (SV.c
    (SC.raw (ρ (93 : Nat)))) ST.nil ST.nil) (ST.node (SV.c (SC.raw (ρ (125 : Nat)))) ST.nil ST.nil)))))) (ST.node (SV.c (SC.raw (ρ (2 : Nat)))) (ST.node (SV.c (SC.raw (ρ (4 : Nat))))
    (ST.node (SV.c (SC.raw (ρ (8 : Nat)))) (ST.node (SV.c (SC.raw (ρ (16 : Nat)))) (ST.node (SV.c (SC.raw (ρ (32 : Nat)))) (ST.node (SV.c (SC.raw (ρ (64 : Nat)))) (ST.node (SV.c (SC.raw
    (ρ (128 : Nat)))) ST.nil ST.nil) ST.nil) (ST.node (SV.c (SC.raw (ρ (96 : Nat)))) ST.nil ST.nil)) (ST.node (SV.c (SC.raw (ρ (48 : Nat)))) (ST.node (SV.c (SC.raw (ρ (80 : Nat))))
    (ST.node (SV.c (SC.raw (ρ (144 : Nat)))) ST.nil ST.nil) ST.nil) (ST.node (SV.c (SC.raw (ρ (112 : Nat)))) ST.nil ST.nil))) (ST.node (SV.c (SC.raw (ρ (24 : Nat)))) (ST.node (SV.c
    (SC.ptr (21 : Nat) (0 : Nat))) (ST.node (SV.c (SC.raw (ρ (72 : Nat)))) (ST.node (SV.c (SC.raw (ρ (136 : Nat)))) ST.nil ST.nil) ST.nil) (ST.node (SV.c (SC.raw (ρ (104 : Nat))))
    ST.nil ST.nil)) (ST.node (SV.c (SC.raw (ρ (56 : Nat)))) (ST.node (SV.c (SC.raw (ρ (88 : Nat)))) ST.nil ST.nil) (ST.node (SV.c (SC.raw (ρ (120 : Nat)))) ST.nil ST.nil)))) (ST.node
    (SV.c (SC.raw (ρ (12 : Nat)))) (ST.node (SV.c (SC.raw (ρ (20 : Nat)))) (ST.node (SV.c (SC.boo true true)) (ST.node (SV.c (SC.raw (ρ (68 : Nat)))) (ST.node (SV.c (SC.raw (ρ (132 :
    Nat)))) ST.nil ST.nil) ST.nil) (ST.node (SV.c (SC.raw (ρ (100 : Nat)))) ST.nil ST.nil)) (ST.node (SV.c (SC.raw (ρ (52 : Nat)))) (ST.node (SV.c (SC.raw (ρ (84 : Nat)))) (ST.node
    (SV.c (SC.raw (ρ (148 : Nat)))) ST.nil ST.nil) ST.nil) (ST.node (SV.c (SC.raw (ρ (116 : Nat)))) ST.nil ST.nil))) (ST.node (SV.c (SC.raw (ρ (28 : Nat)))) (ST.node (SV.c (SC.raw (ρ
    (44 : Nat)))) (ST.node (SV.c (SC.raw (ρ (76 : Nat)))) (ST.node (SV.c (SC.raw (ρ (140 : Nat)))) ST.nil ST.nil) ST.nil) (ST.node (SV.c (SC.raw (ρ (108 : Nat)))) ST.nil ST.nil))
    (ST.node (SV.c (SC.raw (ρ (60 : Nat)))) (ST.node (SV.c (SC.raw (ρ (92 : Nat)))) ST.nil ST.nil) (ST.node (SV.c (SC.raw (ρ (124 : Nat)))) ST.nil ST.nil))))) (ST.node (SV.c (SC.raw (ρ
    (6 : Nat)))) (ST.node (SV.c (SC.raw (ρ (10 : Nat)))) (ST.node (SV.c (SC.raw (ρ (18 : Nat)))) (ST.node (SV.c (SC.int false IntKind.i64 (↑len : Int))) (ST.node (SV.c (SC.raw (ρ (66 :
    Nat)))) (ST.node (SV.c (SC.raw (ρ (130 : Nat)))) ST.nil ST.nil) ST.nil) (ST.node (SV.c (SC.raw (ρ (98 : Nat)))) ST.nil ST.nil)) (ST.node (SV.c (SC.raw (ρ (50 : Nat)))) (ST.node
    (SV.c (SC.raw (ρ (82 : Nat)))) (ST.node (SV.c (SC.raw (ρ (146 : Nat)))) ST.nil ST.nil) ST.nil) (ST.node (SV.c (SC.raw (ρ (114 : Nat)))) ST.nil ST.nil))) (ST.node (SV.c (SC.raw (ρ
    (26 : Nat)))) (ST.node (SV.agg [SC.int false IntKind.i64 (seenInt IntKind.i64 W (addOpt (addOpt a ((↑y.i : Int).toNat * (9 : Nat))) (0 : Nat))) Bd.any, SC.int false IntKind.i64
    (seenInt IntKind.i64 W (addOpt (addOpt a ((↑y.i : Int).toNat * (9 : Nat))) (1 : Nat))) Bd.any, SC.int false IntKind.i64 (seenInt IntKind.i64 W (addOpt (addOpt a ((↑y.i : Int).toNat
    * (9 : Nat))) (2 : Nat))) Bd.any, SC.sliv (seenSli W (addOpt (addOpt a ((↑y.i : Int).toNat * (9 : Nat))) ((0 : Nat) + (1 : Nat) + (1 : Nat) + (1 : Nat)))).fst false (seenSli W
    (addOpt (addOpt a ((↑y.i : Int).toNat * (9 : Nat))) (3 : Nat))).snd.fst (seenSli W (addOpt (addOpt a ((↑y.i : Int).toNat * (9 : Nat))) (3 : Nat))).snd.snd, SC.int false IntKind.u64
    h, SC.int false IntKind.u64 b, SC.int false IntKind.i64 (seenInt IntKind.i64 W (addOpt (addOpt a ((↑y.i : Int).toNat * (9 : Nat))) (6 : Nat))) Bd.any, SC.int false IntKind.u64
    (seenInt IntKind.u64 W (addOpt (addOpt a ((↑y.i : Int).toNat * (9 : Nat))) (7 : Nat))) Bd.any, SC.int false IntKind.u64 (seenInt IntKind.u64 W (addOpt (addOpt a ((↑y.i : Int).toNat
    * (9 : Nat))) (8 : Nat))) Bd.any]) (ST.node (SV.c (SC.raw (ρ (74 : Nat)))) (ST.node (SV.c (SC.raw (ρ (138 : Nat)))) ST.nil ST.nil) ST.nil) (ST.node (SV.c (SC.raw (ρ (106 : Nat))))
    ST.nil ST.nil)) (ST.node (SV.c (SC.raw (ρ (58 : Nat)))) (ST.node (SV.c (SC.raw (ρ (90 : Nat)))) ST.nil ST.nil) (ST.node (SV.c (SC.raw (ρ (122 : Nat)))) ST.nil ST.nil)))) (ST.node
    (SV.c (SC.raw (ρ (14 : Nat)))) (ST.node (SV.c (SC.raw (ρ (22 : Nat)))) (ST.node (SV.agg [SC.int false IntKind.i64 (seenInt IntKind.i64 W (addOpt (addOpt a ((↑y.i : Int).toNat * (9 :
    Nat))) (0 : Nat))) (Bd.w (-9223372036854775808 : Int) (9223372036854775807 : Int) (seenInt_bd IntKind.i64 W (addOpt (addOpt a ((↑y.i : Int).toNat * (fun (x : TypeInfo) => x.size)
    Try.prog.types[(169 : Nat)])) (0 : Nat)))), SC.int false IntKind.i64 (seenInt IntKind.i64 W (addOpt (addOpt a ((↑y.i : Int).toNat * (9 : Nat))) (1 : Nat))) (Bd.w
    (-9223372036854775808 : Int) (9223372036854775807 : Int) (seenInt_bd IntKind.i64 W (addOpt (addOpt a ((↑y.i : Int).toNat * (fun (x : TypeInfo) => x.size) Try.prog.types[(169 :
    Nat)])) ((0 : Nat) + (1 : Nat))))), SC.int false IntKind.i64 (seenInt IntKind.i64 W (addOpt (addOpt a ((↑y.i : Int).toNat * (9 : Nat))) (2 : Nat))) (Bd.w (-9223372036854775808 :
    Int) (9223372036854775807 : Int) (seenInt_bd IntKind.i64 W (addOpt (addOpt a ((↑y.i : Int).toNat * (fun (x : TypeInfo) => x.size) Try.prog.types[(169 : Nat)])) ((0 : Nat) + (1 :
    Nat) + (1 : Nat))))), SC.sliv (seenSli W (addOpt (addOpt a ((↑y.i : Int).toNat * (9 : Nat))) ((0 : Nat) + (1 : Nat) + (1 : Nat) + (1 : Nat)))).fst false (seenSli W (addOpt (addOpt a
    ((↑y.i : Int).toNat * (9 : Nat))) (3 : Nat))).snd.fst (seenSli W (addOpt (addOpt a ((↑y.i : Int).toNat * (9 : Nat))) (3 : Nat))).snd.snd, SC.int false IntKind.u64 (seenInt
    IntKind.u64 W (addOpt (addOpt a ((↑y.i : Int).toNat * (9 : Nat))) (4 : Nat))) (Bd.w (0 : Int) (18446744073709551615 : Int) (seenInt_bd IntKind.u64 W (addOpt (addOpt a ((↑y.i :
    Int).toNat * (fun (x : TypeInfo) => x.size) Try.prog.types[(169 : Nat)])) ((0 : Nat) + (1 : Nat) + (1 : Nat) + (1 : Nat) + (1 : Nat))))), SC.int false IntKind.u64 (seenInt
    IntKind.u64 W (addOpt (addOpt a ((↑y.i : Int).toNat * (9 : Nat))) (5 : Nat))) (Bd.w (0 : Int) (18446744073709551615 : Int) (seenInt_bd IntKind.u64 W (addOpt (addOpt a ((↑y.i :
    Int).toNat * (fun (x : TypeInfo) => x.size) Try.prog.types[(169 : Nat)])) ((0 : Nat) + (1 : Nat) + (1 : Nat) + (1 : Nat) + (1 : Nat) + (1 : Nat))))), SC.int false IntKind.i64
    (seenInt IntKind.i64 W (addOpt (addOpt a ((↑y.i : Int).toNat * (9 : Nat))) (6 : Nat))) (Bd.w (-9223372036854775808 : Int) (9223372036854775807 : Int) (seenInt_bd IntKind.i64 W
    (addOpt (addOpt a ((↑y.i : Int).toNat * (fun (x : TypeInfo) => x.size) Try.prog.types[(169 : Nat)])) ((0 : Nat) + (1 : Nat) + (1 : Nat) + (1 : Nat) + (1 : Nat) + (1 : Nat) + (1 :
    Nat))))), SC.int false IntKind.u64 (seenInt IntKind.u64 W (addOpt (addOpt a ((↑y.i : Int).toNat * (9 : Nat))) (7 : Nat))) (Bd.w (0 : Int) (18446744073709551615 : Int) (seenInt_bd
    IntKind.u64 W (addOpt (addOpt a ((↑y.i : Int).toNat * (fun (x : TypeInfo) => x.size) Try.prog.types[(169 : Nat)])) ((0 : Nat) + (1 : Nat) + (1 : Nat) + (1 : Nat) + (1 : Nat) + (1 :
    Nat) + (1 : Nat) + (1 : Nat))))), SC.int false IntKind.u64 (seenInt IntKind.u64 W (addOpt (addOpt a ((↑y.i : Int).toNat * (9 : Nat))) (8 : Nat))) (Bd.w (0 : Int)
    (18446744073709551615 : Int) (seenInt_bd IntKind.u64 W (addOpt (addOpt a ((↑y.i : Int).toNat * (fun (x : TypeInfo) => x.size) Try.prog.types[(169 : Nat)])) ((0 : Nat) + (1 : Nat) +
    (1 : Nat) + (1 : Nat) + (1 : Nat) + (1 : Nat) + (1 : Nat) + (1 : Nat) + (1 : Nat)))))]) (ST.node (SV.c (SC.raw (ρ (70 : Nat)))) (ST.node (SV.c (SC.raw (ρ (134 : Nat)))) ST.nil
    ST.nil) ST.nil) (ST.node (SV.c (SC.raw (ρ (102 : Nat)))) ST.nil ST.nil)) (ST.node (SV.c (SC.raw (ρ (54 : Nat)))) (ST.node (SV.c (SC.raw (ρ (86 : Nat)))) (ST.node (SV.c (SC.raw (ρ
    (150 : Nat)))) ST.nil ST.nil) ST.nil) (ST.node (SV.c (SC.raw (ρ (118 : Nat)))) ST.nil ST.nil))) (ST.node (SV.c (SC.raw (ρ (30 : Nat)))) (ST.node (SV.c (SC.raw (ρ (46 : Nat))))
    (ST.node (SV.c (SC.raw (ρ (78 : Nat)))) (ST.node (SV.c (SC.raw (ρ (142 : Nat)))) ST.nil ST.nil) ST.nil) (ST.node (SV.c (SC.raw (ρ (110 : Nat)))) ST.nil ST.nil)) (ST.node (SV.c
    (SC.raw (ρ (62 : Nat)))) (ST.node (SV.c (SC.raw (ρ (94 : Nat)))) ST.nil ST.nil) (ST.node (SV.c (SC.raw (ρ (126 : Nat)))) ST.nil ST.nil))))))) []) (Mem.mk [((21 : Nat), SO.ext
    (HO.obj [] y.x)), ((22 : Nat), SO.mp true y.l), ((0 : Nat), SO.seen W), ((56 : Nat), SO.cells [SC.int false IntKind.i64 (seenInt IntKind.i64 W (addOpt (addOpt a ((↑y.i : Int).toNat
    * (9 : Nat))) (0 : Nat))) Bd.any, SC.int false IntKind.i64 (seenInt IntKind.i64 W (addOpt (addOpt a ((↑y.i : Int).toNat * (9 : Nat))) (1 : Nat))) Bd.any, SC.int false IntKind.i64
    (seenInt IntKind.i64 W (addOpt (addOpt a ((↑y.i : Int).toNat * (9 : Nat))) (2 : Nat))) Bd.any, SC.sliv (seenSli W (addOpt (addOpt a ((↑y.i : Int).toNat * (9 : Nat))) ((0 : Nat) + (1
    : Nat) + (1 : Nat) + (1 : Nat)))).fst false (seenSli W (addOpt (addOpt a ((↑y.i : Int).toNat * (9 : Nat))) (3 : Nat))).snd.fst (seenSli W (addOpt (addOpt a ((↑y.i : Int).toNat * (9
    : Nat))) (3 : Nat))).snd.snd, SC.int false IntKind.u64 h, SC.int false IntKind.u64 b, SC.int false IntKind.i64 (seenInt IntKind.i64 W (addOpt (addOpt a ((↑y.i : Int).toNat * (9 :
    Nat))) (6 : Nat))) Bd.any, SC.int false IntKind.u64 (seenInt IntKind.u64 W (addOpt (addOpt a ((↑y.i : Int).toNat * (9 : Nat))) (7 : Nat))) Bd.any, SC.int false IntKind.u64 (seenInt
    IntKind.u64 W (addOpt (addOpt a ((↑y.i : Int).toNat * (9 : Nat))) (8 : Nat))) Bd.any] (169 : Nat))] (63 : Nat)) Scr.nil ∧ True) ∧ True) ∧ True) ∧ ∀ (cap_1 : Nat) (z : Nat → Option
    Addr × Nat), q ≤ cap_1 → W = W ∧ ((((((0 : Int) ≤ seenInt IntKind.u64 W (addOpt (addOpt a ((↑y.i : Int).toNat * (9 : Nat))) (4 : Nat)) ∧ seenInt IntKind.u64 W (addOpt (addOpt a
    ((↑y.i : Int).toNat * (9 : Nat))) (4 : Nat)) < (18446744073709551616 : Int)) ∧ (0 : Int) ≤ seenInt IntKind.u64 W (addOpt (addOpt a ((↑y.i : Int).toNat * (9 : Nat))) (5 : Nat)) ∧
    seenInt IntKind.u64 W (addOpt (addOpt a ((↑y.i : Int).toNat * (9 : Nat))) (5 : Nat)) < (18446744073709551616 : Int)) ∧ q ≤ (1000000000000 : Nat) ∧ ∃ (hf_1 : Nat → Int), ∃ (nf_1 :
    Nat → Nat), ∃ (z_1 : Nat → Option Addr × Nat), (∀ (i : Nat), i < q → (0 : Int) ≤ hf_1 i ∧ hf_1 i < (18446744073709551616 : Int)) ∧ some (SO.vals (E := XP) (164 : TypeId) (2 : Nat) q
    cap_1 (blkW hf nf z)) = some (SO.vals (E := XP) (164 : TypeId) (2 : Nat) q cap_1 (blkW hf_1 nf_1 z_1))) ∧ ∀ (h b : Int), ((0 : Int) ≤ h ∧ h < (18446744073709551616 : Int)) ∧ (0 :
    Int) ≤ b ∧ b < (18446744073709551616 : Int) → K (SF.mk (151 : Nat) (ST.node (SV.c (SC.int false IntKind.i64 c)) (ST.node (SV.c (SC.raw (ρ (1 : Nat)))) (ST.node (SV.c (SC.raw (ρ (3 :
    Nat)))) (ST.node (SV.c (SC.map (22 : Nat))) (ST.node (SV.c (SC.raw (ρ (15 : Nat)))) (ST.node (SV.c (SC.raw (ρ (31 : Nat)))) (ST.node (SV.c (SC.raw (ρ (63 : Nat)))) (ST.node (SV.c
    (SC.raw (ρ (127 : Nat)))) ST.nil ST.nil) ST.nil) (ST.node (SV.c (SC.raw (ρ (95 : Nat)))) ST.nil ST.nil)) (ST.node (SV.c (SC.raw (ρ (47 : Nat)))) (ST.node (SV.c (SC.raw (ρ (79 :
    Nat)))) (ST.node (SV.c (SC.raw (ρ (143 : Nat)))) ST.nil ST.nil) ST.nil) (ST.node (SV.c (SC.raw (ρ (111 : Nat)))) ST.nil ST.nil))) (ST.node (SV.c (SC.raw (ρ (23 : Nat)))) (ST.node
    (SV.agg [SC.int false IntKind.i64 (seenInt IntKind.i64 W (addOpt (addOpt a ((↑y.i : Int).toNat * (9 : Nat))) (0 : Nat))) (Bd.w (-9223372036854775808 : Int) (9223372036854775807 :
    Int) (seenInt_bd IntKind.i64 W (addOpt (addOpt a ((↑y.i : Int).toNat * (fun (x : TypeInfo) => x.size) Try.prog.types[(169 : Nat)])) (0 : Nat)))), SC.int false IntKind.i64 (seenInt
    IntKind.i64 W (addOpt (addOpt a ((↑y.i : Int).toNat * (9 : Nat))) (1 : Nat))) (Bd.w (-9223372036854775808 : Int) (9223372036854775807 : Int) (seenInt_bd IntKind.i64 W (addOpt
    (addOpt a ((↑y.i : Int).toNat * (fun (x : TypeInfo) => x.size) Try.prog.types[(169 : Nat)])) ((0 : Nat) + (1 : Nat))))), SC.int false IntKind.i64 (seenInt IntKind.i64 W (addOpt
    (addOpt a ((↑y.i : Int).toNat * (9 : Nat))) (2 : Nat))) (Bd.w (-9223372036854775808 : Int) (9223372036854775807 : Int) (seenInt_bd IntKind.i64 W (addOpt (addOpt a ((↑y.i :
    Int).toNat * (fun (x : TypeInfo) => x.size) Try.prog.types[(169 : Nat)])) ((0 : Nat) + (1 : Nat) + (1 : Nat))))), SC.sliv (seenSli W (addOpt (addOpt a ((↑y.i : Int).toNat * (9 :
    Nat))) ((0 : Nat) + (1 : Nat) + (1 : Nat) + (1 : Nat)))).fst false (seenSli W (addOpt (addOpt a ((↑y.i : Int).toNat * (9 : Nat))) (3 : Nat))).snd.fst (seenSli W (addOpt (addOpt a
    ((↑y.i : Int).toNat * (9 : Nat))) (3 : Nat))).snd.snd, SC.int false IntKind.u64 (seenInt IntKind.u64 W (addOpt (addOpt a ((↑y.i : Int).toNat * (9 : Nat))) (4 : Nat))) (Bd.w (0 :
    Int) (18446744073709551615 : Int) (seenInt_bd IntKind.u64 W (addOpt (addOpt a ((↑y.i : Int).toNat * (fun (x : TypeInfo) => x.size) Try.prog.types[(169 : Nat)])) ((0 : Nat) + (1 :
    Nat) + (1 : Nat) + (1 : Nat) + (1 : Nat))))), SC.int false IntKind.u64 (seenInt IntKind.u64 W (addOpt (addOpt a ((↑y.i : Int).toNat * (9 : Nat))) (5 : Nat))) (Bd.w (0 : Int)
    (18446744073709551615 : Int) (seenInt_bd IntKind.u64 W (addOpt (addOpt a ((↑y.i : Int).toNat * (fun (x : TypeInfo) => x.size) Try.prog.types[(169 : Nat)])) ((0 : Nat) + (1 : Nat) +
    (1 : Nat) + (1 : Nat) + (1 : Nat) + (1 : Nat))))), SC.int false IntKind.i64 (seenInt IntKind.i64 W (addOpt (addOpt a ((↑y.i : Int).toNat * (9 : Nat))) (6 : Nat))) (Bd.w
    (-9223372036854775808 : Int) (9223372036854775807 : Int) (seenInt_bd IntKind.i64 W (addOpt (addOpt a ((↑y.i : Int).toNat * (fun (x : TypeInfo) => x.size) Try.prog.types[(169 :
    Nat)])) ((0 : Nat) + (1 : Nat) + (1 : Nat) + (1 : Nat) + (1 : Nat) + (1 : Nat) + (1 : Nat))))), SC.int false IntKind.u64 (seenInt IntKind.u64 W (addOpt (addOpt a ((↑y.i : Int).toNat
    * (9 : Nat))) (7 : Nat))) (Bd.w (0 : Int) (18446744073709551615 : Int) (seenInt_bd IntKind.u64 W (addOpt (addOpt a ((↑y.i : Int).toNat * (fun (x : TypeInfo) => x.size)
    Try.prog.types[(169 : Nat)])) ((0 : Nat) + (1 : Nat) + (1 : Nat) + (1 : Nat) + (1 : Nat) + (1 : Nat) + (1 : Nat) + (1 : Nat))))), SC.int false IntKind.u64 (seenInt IntKind.u64 W
    (addOpt (addOpt a ((↑y.i : Int).toNat * (9 : Nat))) (8 : Nat))) (Bd.w (0 : Int) (18446744073709551615 : Int) (seenInt_bd IntKind.u64 W (addOpt (addOpt a ((↑y.i : Int).toNat * (fun
    (x : TypeInfo) => x.size) Try.prog.types[(169 : Nat)])) ((0 : Nat) + (1 : Nat) + (1 : Nat) + (1 : Nat) + (1 : Nat) + (1 : Nat) + (1 : Nat) + (1 : Nat) + (1 : Nat)))))]) (ST.node
    (SV.c (SC.raw (ρ (71 : Nat)))) (ST.node (SV.c (SC.raw (ρ (135 : Nat)))) ST.nil ST.nil) ST.nil) (ST.node (SV.c (SC.raw (ρ (103 : Nat)))) ST.nil ST.nil)) (ST.node (SV.c (SC.raw (ρ (55
    : Nat)))) (ST.node (SV.c (SC.raw (ρ (87 : Nat)))) ST.nil ST.nil) (ST.node (SV.c (SC.raw (ρ (119 : Nat)))) ST.nil ST.nil)))) (ST.node (SV.c (SC.raw (ρ (11 : Nat)))) (ST.node (SV.c
    (SC.raw (ρ (19 : Nat)))) (ST.node (SV.c (SC.int false IntKind.i64 (↑y.i : Int))) (ST.node (SV.c (SC.raw (ρ (67 : Nat)))) (ST.node (SV.c (SC.raw (ρ (131 : Nat)))) ST.nil ST.nil)
    ST.nil) (ST.node (SV.c (SC.raw (ρ (99 : Nat)))) ST.nil ST.nil)) (ST.node (SV.c (SC.raw (ρ (51 : Nat)))) (ST.node (SV.c (SC.raw (ρ (83 : Nat)))) (ST.node (SV.c (SC.raw (ρ (147 :
    Nat)))) ST.nil ST.nil) ST.nil) (ST.node (SV.c (SC.raw (ρ (115 : Nat)))) ST.nil ST.nil))) (ST.node (SV.c (SC.raw (ρ (27 : Nat)))) (ST.node (SV.c (SC.raw (ρ (43 : Nat)))) (ST.node
    (SV.c (SC.raw (ρ (75 : Nat)))) (ST.node (SV.c (SC.raw (ρ (139 : Nat)))) ST.nil ST.nil) ST.nil) (ST.node (SV.c (SC.raw (ρ (107 : Nat)))) ST.nil ST.nil)) (ST.node (SV.c (SC.raw (ρ (59
    : Nat)))) (ST.node (SV.c (SC.raw (ρ (91 : Nat)))) ST.nil ST.nil) (ST.node (SV.c (SC.raw (ρ (123 : Nat)))) ST.nil ST.nil))))) (ST.node (SV.c (SC.ptr (21 : Nat) (0 : Nat))) (ST.node
    (SV.c (SC.ptr (56 : Nat) (0 : Nat))) (ST.node (SV.c (SC.raw (ρ (17 : Nat)))) (ST.node (SV.c (SC.sliv a false len cap)) (ST.node (SV.c (SC.raw (ρ (65 : Nat)))) (ST.node (SV.c (SC.raw
    (ρ (129 : Nat)))) ST.nil ST.nil) ST.nil) (ST.node (SV.c (SC.raw (ρ (97 : Nat)))) ST.nil ST.nil)) (ST.node (SV.c (SC.raw (ρ (49 : Nat)))) (ST.node (SV.c (SC.raw (ρ (81 : Nat))))
    (ST.node (SV.c (SC.raw (ρ (145 : Nat)))) ST.nil ST.nil) ST.nil) (ST.node (SV.c (SC.raw (ρ (113 : Nat)))) ST.nil ST.nil))) (ST.node (SV.c (SC.raw (ρ (25 : Nat)))) (ST.node (SV.c
    (SC.sli (63 : Nat) (2 : Nat) true (0 : Nat) false q cap_1)) (ST.node (SV.c (SC.raw (ρ (73 : Nat)))) (ST.node (SV.c (SC.raw (ρ (137 : Nat)))) ST.nil ST.nil) ST.nil) (ST.node (SV.c
    (SC.raw (ρ (105 : Nat)))) ST.nil ST.nil)) (ST.node (SV.c (SC.raw (ρ (57 : Nat)))) (ST.node (SV.c (SC.raw (ρ (89 : Nat)))) ST.nil ST.nil) (ST.node (SV.c (SC.raw (ρ (121 : Nat))))
    ST.nil ST.nil)))) (ST.node (SV.c (SC.raw (ρ (13 : Nat)))) (ST.node (SV.c (SC.raw (ρ (21 : Nat)))) (ST.node (SV.c (SC.ptv (addOpt a ((↑y.i : Int).toNat * (9 : Nat))))) (ST.node (SV.c
    (SC.raw (ρ (69 : Nat)))) (ST.node (SV.c (SC.raw (ρ (133 : Nat)))) ST.nil ST.nil) ST.nil) (ST.node (SV.c (SC.raw (ρ (101 : Nat)))) ST.nil ST.nil)) (ST.node (SV.c (SC.raw (ρ (53 :
    Nat)))) (ST.node (SV.c (SC.raw (ρ (85 : Nat)))) (ST.node (SV.c (SC.raw (ρ (149 : Nat)))) ST.nil ST.nil) ST.nil) (ST.node (SV.c (SC.raw (ρ (117 : Nat)))) ST.nil ST.nil))) (ST.node
    (SV.c (SC.raw (ρ (29 : Nat)))) (ST.node (SV.c (SC.raw (ρ (45 : Nat)))) (ST.node (SV.c (SC.raw (ρ (77 : Nat)))) (ST.node (SV.c (SC.raw (ρ (141 : Nat)))) ST.nil ST.nil) ST.nil)
    (ST.node (SV.c (SC.raw (ρ (109 : Nat)))) ST.nil ST.nil)) (ST.node (SV.c (SC.raw (ρ (61 : Nat)))) (ST.node (SV.c (SC.raw (ρ (93 : Nat)))) ST.nil ST.nil) (ST.node (SV.c (SC.raw (ρ
    (125 : Nat)))) ST.nil ST.nil)))))) (ST.node (SV.c (SC.raw (ρ (2 : Nat)))) (ST.node (SV.c (SC.raw (ρ (4 : Nat)))) (ST.node (SV.c (SC.raw (ρ (8 : Nat)))) (ST.node (SV.c (SC.raw (ρ (16
    : Nat)))) (ST.node (SV.c (SC.raw (ρ (32 : Nat)))) (ST.node (SV.c (SC.raw (ρ (64 : Nat)))) (ST.node (SV.c (SC.raw (ρ (128 : Nat)))) ST.nil ST.nil) ST.nil) (ST.node (SV.c (SC.raw (ρ
    (96 : Nat)))) ST.nil ST.nil)) (ST.node (SV.c (SC.raw (ρ (48 : Nat)))) (ST.node (SV.c (SC.raw (ρ (80 : Nat)))) (ST.node (SV.c (SC.raw (ρ (144 : Nat)))) ST.nil ST.nil) ST.nil)
    (ST.node (SV.c (SC.raw (ρ (112 : Nat)))) ST.nil ST.nil))) (ST.node (SV.c (SC.raw (ρ (24 : Nat)))) (ST.node (SV.c (SC.ptr (21 : Nat) (0 : Nat))) (ST.node (SV.c (SC.raw (ρ (72 :
    Nat)))) (ST.node (SV.c (SC.raw (ρ (136 : Nat)))) ST.nil ST.nil) ST.nil) (ST.node (SV.c (SC.raw (ρ (104 : Nat)))) ST.nil ST.nil)) (ST.node (SV.c (SC.raw (ρ (56 : Nat)))) (ST.node
    (SV.c (SC.raw (ρ (88 : Nat)))) ST.nil ST.nil) (ST.node (SV.c (SC.raw (ρ (120 : Nat)))) ST.nil ST.nil)))) (ST.node (SV.c (SC.raw (ρ (12 : Nat)))) (ST.node (SV.c (SC.raw (ρ (20 :
    Nat)))) (ST.node (SV.c (SC.boo true true)) (ST.node (SV.c (SC.raw (ρ (68 : Nat)))) (ST.node (SV.c (SC.raw (ρ (132 : Nat)))) ST.nil ST.nil) ST.nil) (ST.node (SV.c (SC.raw (ρ (100 :
    Nat)))) ST.nil ST.nil)) (ST.node (SV.c (SC.raw (ρ (52 : Nat)))) (ST.node (SV.c (SC.raw (ρ (84 : Nat)))) (ST.node (SV.c (SC.raw (ρ (148 : Nat)))) ST.nil ST.nil) ST.nil) (ST.node
    (SV.c (SC.raw (ρ (116 : Nat)))) ST.nil ST.nil))) (ST.node (SV.c (SC.raw (ρ (28 : Nat)))) (ST.node (SV.c (SC.raw (ρ (44 : Nat)))) (ST.node (SV.c (SC.raw (ρ (76 : Nat)))) (ST.node
    (SV.c (SC.raw (ρ (140 : Nat)))) ST.nil ST.nil) ST.nil) (ST.node (SV.c (SC.raw (ρ (108 : Nat)))) ST.nil ST.nil)) (ST.node (SV.c (SC.raw (ρ (60 : Nat)))) (ST.node (SV.c (SC.raw (ρ (92
    : Nat)))) ST.nil ST.nil) (ST.node (SV.c (SC.raw (ρ (124 : Nat)))) ST.nil ST.nil))))) (ST.node (SV.c (SC.raw (ρ (6 : Nat)))) (ST.node (SV.c (SC.raw (ρ (10 : Nat)))) (ST.node (SV.c
    (SC.raw (ρ (18 : Nat)))) (ST.node (SV.c (SC.int false IntKind.i64 (↑len : Int))) (ST.node (SV.c (SC.raw (ρ (66 : Nat)))) (ST.node (SV.c (SC.raw (ρ (130 : Nat)))) ST.nil ST.nil)
    ST.nil) (ST.node (SV.c (SC.raw (ρ (98 : Nat)))) ST.nil ST.nil)) (ST.node (SV.c (SC.raw (ρ (50 : Nat)))) (ST.node (SV.c (SC.raw (ρ (82 : Nat)))) (ST.node (SV.c (SC.raw (ρ (146 :
    Nat)))) ST.nil ST.nil) ST.nil) (ST.node (SV.c (SC.raw (ρ (114 : Nat)))) ST.nil ST.nil))) (ST.node (SV.c (SC.raw (ρ (26 : Nat)))) (ST.node (SV.agg [SC.int false IntKind.i64 (seenInt
    IntKind.i64 W (addOpt (addOpt a ((↑y.i : Int).toNat * (9 : Nat))) (0 : Nat))) Bd.any, SC.int false IntKind.i64 (seenInt IntKind.i64 W (addOpt (addOpt a ((↑y.i : Int).toNat * (9 :
    Nat))) (1 : Nat))) Bd.any, SC.int false IntKind.i64 (seenInt IntKind.i64 W (addOpt (addOpt a ((↑y.i : Int).toNat * (9 : Nat))) (2 : Nat))) Bd.any, SC.sliv (seenSli W (addOpt (addOpt
    a ((↑y.i : Int).toNat * (9 : Nat))) ((0 : Nat) + (1 : Nat) + (1 : Nat) + (1 : Nat)))).fst false (seenSli W (addOpt (addOpt a ((↑y.i : Int).toNat * (9 : Nat))) (3 : Nat))).snd.fst
    (seenSli W (addOpt (addOpt a ((↑y.i : Int).toNat * (9 : Nat))) (3 : Nat))).snd.snd, SC.int false IntKind.u64 h, SC.int false IntKind.u64 b, SC.int false IntKind.i64 (seenInt
    IntKind.i64 W (addOpt (addOpt a ((↑y.i : Int).toNat * (9 : Nat))) (6 : Nat))) Bd.any, SC.int false IntKind.u64 (seenInt IntKind.u64 W (addOpt (addOpt a ((↑y.i : Int).toNat * (9 :
    Nat))) (7 : Nat))) Bd.any, SC.int false IntKind.u64 (seenInt IntKind.u64 W (addOpt (addOpt a ((↑y.i : Int).toNat * (9 : Nat))) (8 : Nat))) Bd.any]) (ST.node (SV.c (SC.raw (ρ (74 :
    Nat)))) (ST.node (SV.c (SC.raw (ρ (138 : Nat)))) ST.nil ST.nil) ST.nil) (ST.node (SV.c (SC.raw (ρ (106 : Nat)))) ST.nil ST.nil)) (ST.node (SV.c (SC.raw (ρ (58 : Nat)))) (ST.node
    (SV.c (SC.raw (ρ (90 : Nat)))) ST.nil ST.nil) (ST.node (SV.c (SC.raw (ρ (122 : Nat)))) ST.nil ST.nil)))) (ST.node (SV.c (SC.raw (ρ (14 : Nat)))) (ST.node (SV.c (SC.raw (ρ (22 :
    Nat)))) (ST.node (SV.agg [SC.int false IntKind.i64 (seenInt IntKind.i64 W (addOpt (addOpt a ((↑y.i : Int).toNat * (9 : Nat))) (0 : Nat))) (Bd.w (-9223372036854775808 : Int)
    (9223372036854775807 : Int) (seenInt_bd IntKind.i64 W (addOpt (addOpt a ((↑y.i : Int).toNat * (fun (x : TypeInfo) => x.size) Try.prog.types[(169 : Nat)])) (0 : Nat)))), SC.int false
    IntKind.i64 (seenInt IntKind.i64 W (addOpt (addOpt a ((↑y.i : Int).toNat * (9 : Nat))) (1 : Nat))) (Bd.w (-9223372036854775808 : Int) (9223372036854775807 : Int) (seenInt_bd
    IntKind.i64 W (addOpt (addOpt a ((↑y.i : Int).toNat * (fun (x : TypeInfo) => x.size) Try.prog.types[(169 : Nat)])) ((0 : Nat) + (1 : Nat))))), SC.int false IntKind.i64 (seenInt
    IntKind.i64 W (addOpt (addOpt a ((↑y.i : Int).toNat * (9 : Nat))) (2 : Nat))) (Bd.w (-9223372036854775808 : Int) (9223372036854775807 : Int) (seenInt_bd IntKind.i64 W (addOpt
    (addOpt a ((↑y.i : Int).toNat * (fun (x : TypeInfo) => x.size) Try.prog.types[(169 : Nat)])) ((0 : Nat) + (1 : Nat) + (1 : Nat))))), SC.sliv (seenSli W (addOpt (addOpt a ((↑y.i :
    Int).toNat * (9 : Nat))) ((0 : Nat) + (1 : Nat) + (1 : Nat) + (1 : Nat)))).fst false (seenSli W (addOpt (addOpt a ((↑y.i : Int).toNat * (9 : Nat))) (3 : Nat))).snd.fst (seenSli W
    (addOpt (addOpt a ((↑y.i : Int).toNat * (9 : Nat))) (3 : Nat))).snd.snd, SC.int false IntKind.u64 (seenInt IntKind.u64 W (addOpt (addOpt a ((↑y.i : Int).toNat * (9 : Nat))) (4 :
    Nat))) (Bd.w (0 : Int) (18446744073709551615 : Int) (seenInt_bd IntKind.u64 W (addOpt (addOpt a ((↑y.i : Int).toNat * (fun (x : TypeInfo) => x.size) Try.prog.types[(169 : Nat)]))
    ((0 : Nat) + (1 : Nat) + (1 : Nat) + (1 : Nat) + (1 : Nat))))), SC.int false IntKind.u64 (seenInt IntKind.u64 W (addOpt (addOpt a ((↑y.i : Int).toNat * (9 : Nat))) (5 : Nat))) (Bd.w
    (0 : Int) (18446744073709551615 : Int) (seenInt_bd IntKind.u64 W (addOpt (addOpt a ((↑y.i : Int).toNat * (fun (x : TypeInfo) => x.size) Try.prog.types[(169 : Nat)])) ((0 : Nat) + (1
    : Nat) + (1 : Nat) + (1 : Nat) + (1 : Nat) + (1 : Nat))))), SC.int false IntKind.i64 (seenInt IntKind.i64 W (addOpt (addOpt a ((↑y.i : Int).toNat * (9 : Nat))) (6 : Nat))) (Bd.w
    (-9223372036854775808 : Int) (9223372036854775807 : Int) (seenInt_bd IntKind.i64 W (addOpt (addOpt a ((↑y.i : Int).toNat * (fun (x : TypeInfo) => x.size) Try.prog.types[(169 :
    Nat)])) ((0 : Nat) + (1 : Nat) + (1 : Nat) + (1 : Nat) + (1 : Nat) + (1 : Nat) + (1 : Nat))))), SC.int false IntKind.u64 (seenInt IntKind.u64 W (addOpt (addOpt a ((↑y.i : Int).toNat
    * (9 : Nat))) (7 : Nat))) (Bd.w (0 : Int) (18446744073709551615 : Int) (seenInt_bd IntKind.u64 W (addOpt (addOpt a ((↑y.i : Int).toNat * (fun (x : TypeInfo) => x.size)
    Try.prog.types[(169 : Nat)])) ((0 : Nat) + (1 : Nat) + (1 : Nat) + (1 : Nat) + (1 : Nat) + (1 : Nat) + (1 : Nat) + (1 : Nat))))), SC.int false IntKind.u64 (seenInt IntKind.u64 W
    (addOpt (addOpt a ((↑y.i : Int).toNat * (9 : Nat))) (8 : Nat))) (Bd.w (0 : Int) (18446744073709551615 : Int) (seenInt_bd IntKind.u64 W (addOpt (addOpt a ((↑y.i : Int).toNat * (fun
    (x : TypeInfo) => x.size) Try.prog.types[(169 : Nat)])) ((0 : Nat) + (1 : Nat) + (1 : Nat) + (1 : Nat) + (1 : Nat) + (1 : Nat) + (1 : Nat) + (1 : Nat) + (1 : Nat)))))]) (ST.node
    (SV.c (SC.raw (ρ (70 : Nat)))) (ST.node (SV.c (SC.raw (ρ (134 : Nat)))) ST.nil ST.nil) ST.nil) (ST.node (SV.c (SC.raw (ρ (102 : Nat)))) ST.nil ST.nil)) (ST.node (SV.c (SC.raw (ρ (54
    : Nat)))) (ST.node (SV.c (SC.raw (ρ (86 : Nat)))) (ST.node (SV.c (SC.raw (ρ (150 : Nat)))) ST.nil ST.nil) ST.nil) (ST.node (SV.c (SC.raw (ρ (118 : Nat)))) ST.nil ST.nil))) (ST.node
    (SV.c (SC.raw (ρ (30 : Nat)))) (ST.node (SV.c (SC.raw (ρ (46 : Nat)))) (ST.node (SV.c (SC.raw (ρ (78 : Nat)))) (ST.node (SV.c (SC.raw (ρ (142 : Nat)))) ST.nil ST.nil) ST.nil)
    (ST.node (SV.c (SC.raw (ρ (110 : Nat)))) ST.nil ST.nil)) (ST.node (SV.c (SC.raw (ρ (62 : Nat)))) (ST.node (SV.c (SC.raw (ρ (94 : Nat)))) ST.nil ST.nil) (ST.node (SV.c (SC.raw (ρ
    (126 : Nat)))) ST.nil ST.nil))))))) []) (Mem.mk [((21 : Nat), SO.ext (HO.obj [] y.x)), ((22 : Nat), SO.mp true y.l), ((0 : Nat), SO.seen W), ((56 : Nat), SO.cells [SC.int false
    IntKind.i64 (seenInt IntKind.i64 W (addOpt (addOpt a ((↑y.i : Int).toNat * (9 : Nat))) (0 : Nat))) Bd.any, SC.int false IntKind.i64 (seenInt IntKind.i64 W (addOpt (addOpt a ((↑y.i :
    Int).toNat * (9 : Nat))) (1 : Nat))) Bd.any, SC.int false IntKind.i64 (seenInt IntKind.i64 W (addOpt (addOpt a ((↑y.i : Int).toNat * (9 : Nat))) (2 : Nat))) Bd.any, SC.sliv (seenSli
    W (addOpt (addOpt a ((↑y.i : Int).toNat * (9 : Nat))) ((0 : Nat) + (1 : Nat) + (1 : Nat) + (1 : Nat)))).fst false (seenSli W (addOpt (addOpt a ((↑y.i : Int).toNat * (9 : Nat))) (3 :
    Nat))).snd.fst (seenSli W (addOpt (addOpt a ((↑y.i : Int).toNat * (9 : Nat))) (3 : Nat))).snd.snd, SC.int false IntKind.u64 h, SC.int false IntKind.u64 b, SC.int false IntKind.i64
    (seenInt IntKind.i64 W (addOpt (addOpt a ((↑y.i : Int).toNat * (9 : Nat))) (6 : Nat))) Bd.any, SC.int false IntKind.u64 (seenInt IntKind.u64 W (addOpt (addOpt a ((↑y.i : Int).toNat
    * (9 : Nat))) (7 : Nat))) Bd.any, SC.int false IntKind.u64 (seenInt IntKind.u64 W (addOpt (addOpt a ((↑y.i : Int).toNat * (9 : Nat))) (8 : Nat))) Bd.any] (169 : Nat)), ((63 : Nat),
    SO.vals (E := XP) (164 : TypeId) (2 : Nat) q cap_1 (blkW hf nf z))] (64 : Nat)) Scr.nil ∧ True) ∧ True) ∧ True) ∧ True) ∧ ∀ (y_1 : AOC W) (ρ : Nat → Value), (decide
    (IntKind.u64.wrap y_1.k % (8 : Int) < (4 : Int)) = true → (∀ (j : Nat), j < y_1.wl → Seen IntKind.u64 W (addOpt y_1.wa j)) ∧ y_1.wl ≤ (9223372036854775807 : Nat) ∧ ((∃ (z : Nat →
    Value), ArInv (y.x.ar z)) → ((y.x.layE y_1.wl == (0 : Int)) = true → (∀ (y_2 : Int × Value), List.Mem y_2 y.l → ∃ (n : Int), y_2.snd = Value.int IntKind.i64 n) ∧ (decide (lookI y.l
    (y.x.layV y_1.wl) > (0 : Int)) = true → false = true ∧ some W = some W) ∧ (decide (lookI y.l (y.x.layV y_1.wl) > (0 : Int)) = false → (∀ (y_2 : Int × Value), List.Mem y_2 y.l → ∃ (n
    : Int), y_2.snd = Value.int IntKind.i64 n) ∧ ((-9223372036854775808 : Int) ≤ lookI y.l (y.x.layV y_1.wl) + (1 : Int) ∧ lookI y.l (y.x.layV y_1.wl) + (1 : Int) ≤ (9223372036854775807
    : Int)) ∧ ∃ (y_2 : AOE (y.i + (1 : Nat)) c), c = c ∧ a = a ∧ len = len ∧ cap = cap ∧ (↑len : Int) = (↑len : Int) ∧ W = W ∧ (↑y.i : Int) = (↑y.i : Int) ∧ y_2.x = y.x.layX y_1.wl
    (natsOf y_1.wl fun (j : Nat) => seenInt IntKind.u64 W (addOpt y_1.wa j)) ∧ y_2.l = updL y.l (y.x.layV y_1.wl) (Value.int IntKind.i64 (lookI y.l (y.x.layV y_1.wl) + (1 : Int))) ∧
    True)) ∧ ((y.x.layE y_1.wl == (0 : Int)) = false → (∀ (y_2 : Int × Value), List.Mem y_2 y.l → ∃ (n : Int), y_2.snd = Value.int IntKind.i64 n) ∧ ((-9223372036854775808 : Int) ≤ lookI
    y.l (y.x.layV y_1.wl) + (1 : Int) ∧ lookI y.l (y.x.layV y_1.wl) + (1 : Int) ≤ (9223372036854775807 : Int)) ∧ ∃ (y_2 : AOE (y.i + (1 : Nat)) c), c = c ∧ a = a ∧ len = len ∧ cap = cap
    ∧ (↑len : Int) = (↑len : Int) ∧ W = W ∧ (↑y.i : Int) = (↑y.i : Int) ∧ y_2.x = y.x.layX y_1.wl (natsOf y_1.wl fun (j : Nat) => seenInt IntKind.u64 W (addOpt y_1.wa j)) ∧ y_2.l = updL
    y.l (y.x.layV y_1.wl) (Value.int IntKind.i64 (lookI y.l (y.x.layV y_1.wl) + (1 : Int))) ∧ True))) ∧ (decide (IntKind.u64.wrap y_1.k % (8 : Int) < (4 : Int)) = false → ((0 : Int) ≤
    y_1.h ∧ y_1.h < (18446744073709551616 : Int)) ∧ ((∃ (z : Nat → Value), ArInv (y.x.ar z)) → ((y.x.frE y_1.h != (0 : Int)) = true → ∃ (y_2 : AOE (y.i + (1 : Nat)) c), c = c ∧ a = a ∧
    len = len ∧ cap = cap ∧ (↑len : Int) = (↑len : Int) ∧ W = W ∧ (↑y.i : Int) = (↑y.i : Int) ∧ y_2.x = y.x.frX y_1.h ∧ y_2.l = y.l ∧ True) ∧ ((y.x.frE y_1.h != (0 : Int)) = false → (∃
    (z : Nat → Value), ArInv ((y.x.frX y_1.h).ar z)) → ∀ (l : List (Nat × Nat × List Nat)), l.Perm (y.x.frX y_1.h).bs → (((0 : Int) ≤ y_1.h ∧ y_1.h < (18446744073709551616 : Int)) ∧
    (y.x.frX y_1.h).fx.length = (9 : Nat)) ∧ ((∃ (z : Nat → Value), ArInv ((y.x.frX y_1.h).ar z)) → ((((0 : Int) ≤ y_1.h ∧ y_1.h < (18446744073709551616 : Int)) ∧ ((y.x.frX y_1.h).rdX
    y_1.h (0 : Int)).fx.length = (9 : Nat)) ∧ ((0 : Int) ≤ y_1.m ∧ y_1.m < (18446744073709551616 : Int)) ∧ (0 : Int) ≤ y_1.n) ∧ ((∃ (z : Nat → Value), ArInv (((y.x.frX y_1.h).rdX y_1.h
    (0 : Int)).ar z)) → ((((0 : Int) ≤ y_1.h ∧ y_1.h < (18446744073709551616 : Int)) ∧ (((y.x.frX y_1.h).rdX y_1.h (0 : Int)).swX y_1.h (0 : Int) y_1.n y_1.m).fx.length = (9 : Nat)) ∧
    (0 : Int) ≤ (1 : Int) ∧ (1 : Int) < (18446744073709551616 : Int)) ∧ ((∃ (z : Nat → Value), ArInv ((((y.x.frX y_1.h).rdX y_1.h (0 : Int)).swX y_1.h (0 : Int) y_1.n y_1.m).ar z)) →
    (((y.x.frX y_1.h).atE y_1.h (0 : Int) != (23 : Int)) = true → false = true ∧ some W = some W) ∧ (((y.x.frX y_1.h).atE y_1.h (0 : Int) != (23 : Int)) = false → ((((y.x.frX y_1.h).rdX
    y_1.h (0 : Int)).atE y_1.h (0 : Int) != (23 : Int)) = true → false = true ∧ some W = some W) ∧ ((((y.x.frX y_1.h).rdX y_1.h (0 : Int)).atE y_1.h (0 : Int) != (23 : Int)) = false →
    (((((y.x.frX y_1.h).rdX y_1.h (0 : Int)).swX y_1.h (0 : Int) y_1.n y_1.m).atE y_1.h (0 : Int) != (23 : Int)) = true → false = true ∧ some W = some W) ∧ (((((y.x.frX y_1.h).rdX y_1.h
    (0 : Int)).swX y_1.h (0 : Int) y_1.n y_1.m).atE y_1.h (0 : Int) != (23 : Int)) = false → ((((0 : Int) ≤ y_1.h ∧ y_1.h < (18446744073709551616 : Int)) ∧ ((((y.x.frX y_1.h).rdX y_1.h
    (0 : Int)).swX y_1.h (0 : Int) y_1.n y_1.m).adX y_1.h (0 : Int) (1 : Int)).fx.length = (9 : Nat)) ∧ (0 : Int) ≤ (1 : Int) ∧ (1 : Int) < (18446744073709551616 : Int)) ∧ ((∃ (z : Nat
    → Value), ArInv (((((y.x.frX y_1.h).rdX y_1.h (0 : Int)).swX y_1.h (0 : Int) y_1.n y_1.m).adX y_1.h (0 : Int) (1 : Int)).ar z)) → ((((((y.x.frX y_1.h).rdX y_1.h (0 : Int)).swX y_1.h
    (0 : Int) y_1.n y_1.m).adX y_1.h (0 : Int) (1 : Int)).atE y_1.h (0 : Int) != (23 : Int)) = true → false = true ∧ some W = some W) ∧ ((((((y.x.frX y_1.h).rdX y_1.h (0 : Int)).swX
    y_1.h (0 : Int) y_1.n y_1.m).adX y_1.h (0 : Int) (1 : Int)).atE y_1.h (0 : Int) != (23 : Int)) = false → ((0 : Int) ≤ y_1.h ∧ y_1.h < (18446744073709551616 : Int)) ∧ ((∃ (z : Nat →
    Value), ArInv ((((((y.x.frX y_1.h).rdX y_1.h (0 : Int)).swX y_1.h (0 : Int) y_1.n y_1.m).adX y_1.h (0 : Int) (1 : Int)).wrX y_1.h (0 : Int) (1 : Int)).ar z)) → (((((((y.x.frX
    y_1.h).rdX y_1.h (0 : Int)).swX y_1.h (0 : Int) y_1.n y_1.m).adX y_1.h (0 : Int) (1 : Int)).wrX y_1.h (0 : Int) (1 : Int)).frE y_1.h != (23 : Int)) = true → false = true ∧ some W =
    some W) ∧ (((((((y.x.frX y_1.h).rdX y_1.h (0 : Int)).swX y_1.h (0 : Int) y_1.n y_1.m).adX y_1.h (0 : Int) (1 : Int)).wrX y_1.h (0 : Int) (1 : Int)).frE y_1.h != (23 : Int)) = false
    → ((!alikeP ((((((y.x.frX y_1.h).rdX y_1.h (0 : Int)).swX y_1.h (0 : Int) y_1.n y_1.m).adX y_1.h (0 : Int) (1 : Int)).wrX y_1.h (0 : Int) (1 : Int)).frX y_1.h) (PA.mk (y.x.frX
    y_1.h).cap (y.x.frX y_1.h).used (y.x.frX y_1.h).peak (y.x.frX y_1.h).faults (y.x.frX y_1.h).births (y.x.frX y_1.h).fx (y.x.frX y_1.h).high (y.x.frX y_1.h).us (y.x.frX y_1.h).bk l
    (y.x.frX y_1.h).t)) = true → false = true ∧ some W = some W) ∧ ((!alikeP ((((((y.x.frX y_1.h).rdX y_1.h (0 : Int)).swX y_1.h (0 : Int) y_1.n y_1.m).adX y_1.h (0 : Int) (1 :
    Int)).wrX y_1.h (0 : Int) (1 : Int)).frX y_1.h) (PA.mk (y.x.frX y_1.h).cap (y.x.frX y_1.h).used (y.x.frX y_1.h).peak (y.x.frX y_1.h).faults (y.x.frX y_1.h).births (y.x.frX y_1.h).fx
    (y.x.frX y_1.h).high (y.x.frX y_1.h).us (y.x.frX y_1.h).bk l (y.x.frX y_1.h).t)) = false → ((0 : Int) ≤ y_1.h ∧ y_1.h < (18446744073709551616 : Int)) ∧ ((∃ (z : Nat → Value), ArInv
    (((((((y.x.frX y_1.h).rdX y_1.h (0 : Int)).swX y_1.h (0 : Int) y_1.n y_1.m).adX y_1.h (0 : Int) (1 : Int)).wrX y_1.h (0 : Int) (1 : Int)).frX y_1.h).ar z)) → (((↑(((((((y.x.frX
    y_1.h).rdX y_1.h (0 : Int)).swX y_1.h (0 : Int) y_1.n y_1.m).adX y_1.h (0 : Int) (1 : Int)).wrX y_1.h (0 : Int) (1 : Int)).frX y_1.h).szV y_1.h) : Int) != (0 : Int)) = true → false
    = true ∧ some W = some W) ∧ (((↑(((((((y.x.frX y_1.h).rdX y_1.h (0 : Int)).swX y_1.h (0 : Int) y_1.n y_1.m).adX y_1.h (0 : Int) (1 : Int)).wrX y_1.h (0 : Int) (1 : Int)).frX
    y_1.h).szV y_1.h) : Int) != (0 : Int)) = false → ∃ (y_2 : AOE (y.i + (1 : Nat)) c), c = c ∧ a = a ∧ len = len ∧ cap = cap ∧ (↑len : Int) = (↑len : Int) ∧ W = W ∧ (↑y.i : Int) =
    (↑y.i : Int) ∧ y_2.x = (((((y.x.frX y_1.h).rdX y_1.h (0 : Int)).swX y_1.h (0 : Int) y_1.n y_1.m).adX y_1.h (0 : Int) (1 : Int)).wrX y_1.h (0 : Int) (1 : Int)).frX y_1.h ∧ y_2.l =
    y.l ∧ True))))))))))))))))) ∧ ∀ (y_1 : AOE (y.i + (1 : Nat)) c) (ρ : Nat → Value), ((-9223372036854775808 : Int) ≤ (↑y.i : Int) + (1 : Int) ∧ (↑y.i : Int) + (1 : Int) ≤
    (9223372036854775807 : Int)) ∧ ∃ (y' : AOY len c), len - y'.i < len - y.i ∧ c = c ∧ a = a ∧ len = len ∧ cap = cap ∧ (↑len : Int) = (↑len : Int) ∧ W = W ∧ (↑y'.i : Int) = (↑y.i :
    Int) + (1 : Int) ∧ y'.x = y_1.x ∧ y'.l = y_1.l ∧ True) ∧ (decide ((↑y.i : Int) < (↑len : Int)) = false → True ∧ ((∃ (z : Nat → Value), ArInv (y.x.ar z)) → (decide ((↑y.x.used : Int)
    ≤ c) = true → True ∧ ((∃ (z : Nat → Value), ArInv (y.x.ar z)) → decide ((↑y.x.peak : Int) ≤ c) = true ∧ some W = some W)) ∧ (decide ((↑y.x.used : Int) ≤ c) = false → false = true ∧
    some W = some W)))) ∧ (c < (0 : Int) ∨ (60000 : Int) < c → true = true ∧ some W = some W))) := by
  kernel_rfl
theorem arenaOnce_run (W : World) (a : Option Addr) (len cap : Nat) (c : Int) (hc : OpsOk W a len) : Run (callN Try.prog (tblAO : List (Smry Try.prog XP)) (fun _ t => Nat.beq t 45) 100 20 13 [.c (.int false .i64 c), .c (.sliv a false len cap)] ⟨[(0, .seen W)], 1⟩ (aoS W len c) (fun v m _ => retSeen W v m)) := by
  constructor
  rw [arenaOnce_vc]
  refine ⟨hc, fun b hb => ⟨fun _ => ⟨rfl, rfl⟩, fun hbf => ⟨fun hcap => ⟨⟨⟨0, PA.new c.toNat, [], Nat.zero_le _, AOI.start hcap⟩, ?_⟩, fun y ρ => ⟨fun hlt => ⟨?_, ?_⟩, fun hge => ?_⟩⟩, fun _ => ⟨rfl, rfl⟩⟩⟩⟩
  · exact ⟨rfl, rfl, rfl, rfl, rfl, rfl, rfl, rfl, rfl, trivial⟩
  · have hlt' : y.i < len := by have := of_decide_eq_true hlt; omega
    have hsome := hc.some (by omega)
    have hops := hc.ops y.i hlt'
    have hlens := hc.lens y.i hlt'
    have hwords := hc.words y.i hlt'
    refine ⟨?_, ?_, ?_, ?_⟩
    · exact ⟨by omega, by omega, hsome⟩
    · exact hops
    · repeat' first
        | (refine fun (K : KO XP) => ?_; simp only [eq_self, true_and, and_true]; first | done | exact id; done)
        | (refine fun (K : KO XP) => ?_; simp only [and_imp]; intros; repeat' (first | assumption | apply And.intro | exact trivial); done)
        | with_reducible apply And.intro
        | with_reducible rfl
        | exact trivial
        | (intro _)
      all_goals first
        | exact (seenInt_bd .u64 W _).1
        | exact Int.lt_of_le_of_lt (seenInt_bd .u64 W _).2 (by decide)
        | exact blk_few (x := y.x) ‹∃ l : List (Nat × List Nat), _›
        | exact blk_ex (x := y.x) ‹∃ z : Nat → Value, _› ‹∃ l : List (Nat × List Nat), _›
        | (refine ⟨aocMk W (addOpt a (y.i * 9)) ‹((0 : Int) ≤ _ ∧ _) ∧ _› hlens hwords, ?_⟩; repeat' first | rfl | trivial | apply And.intro)
    · intro z ρ
      have hmx := hc.max
      refine ⟨fun _ => ⟨z.hw, z.hl, fun hi => ⟨fun he => ⟨y.ok.ints, fun hp => (y.ok.fresh (k := z.wl) hi (eq_of_beq he) (of_decide_eq_true hp)).elim, fun hp => ⟨y.ok.ints, ?_, ⟨_, _, y.ok.lay hi z.wl (natsOf z.wl fun j => seenInt .u64 W (addOpt z.wa j))⟩, ?_⟩⟩, fun he => ⟨y.ok.ints, ?_, ⟨_, _, y.ok.lay hi z.wl (natsOf z.wl fun j => seenInt .u64 W (addOpt z.wa j))⟩, ?_⟩⟩⟩,
        fun _ => ⟨z.hh, fun hi => ⟨fun _ => ⟨⟨y.x.frX z.h, y.l, y.ok.same (frX_same _ _).1 (frX_same _ _).2.1 (frX_same _ _).2.2⟩, ?_⟩, fun he hi2 l hl => ?_⟩⟩⟩
      · have := y.ok.few (y.x.layV z.wl); omega
      · exact ⟨rfl, rfl, rfl, rfl, rfl, rfl, rfl, rfl, rfl, trivial⟩
      · have := y.ok.few (y.x.layV z.wl); omega
      · exact ⟨rfl, rfl, rfl, rfl, rfl, rfl, rfl, rfl, rfl, trivial⟩
      · exact ⟨rfl, rfl, rfl, rfl, rfl, rfl, rfl, rfl, rfl, trivial⟩
      · have g := gone_frX hi z.hh.1 (by simpa using he)
        have hfx : (y.x.frX z.h).fx.length = 9 := by rw [(frX_same _ _).1]; exact y.ok.fx
        have hok := y.ok.same (frX_same y.x z.h).1 (frX_same _ _).2.1 (frX_same _ _).2.2
        have ha := alikeP_faults (x := y.x.frX z.h) (y := (y.x.frX z.h).fault.fault.fault.fault.fault) rfl rfl hl
        generalize y.x.frX z.h = x at *
        simp only [g.rdX, g.fault.swX, g.fault.fault.adX, g.fault.fault.fault.wrX, g.fault.fault.fault.fault.frX, g.atE, g.fault.atE, g.fault.fault.atE, g.fault.fault.fault.atE, g.fault.fault.fault.fault.frE, g.fault.fault.fault.fault.fault.szV]
        have hno : ((23 : Int) != 23) = true → False := by decide
        have hno2 : (((0 : Nat) : Int) != 0) = true → False := by decide
        refine ⟨⟨z.hh, hfx⟩, fun _ => ⟨⟨⟨z.hh, hfx⟩, z.hm, z.hn.1⟩, fun _ => ⟨⟨⟨z.hh, hfx⟩, by decide⟩, fun _ => ⟨fun h => (hno h).elim, fun _ => ⟨fun h => (hno h).elim, fun _ => ⟨fun h => (hno h).elim, fun _ => ⟨⟨⟨z.hh, hfx⟩, by decide⟩, fun _ => ⟨fun h => (hno h).elim, fun _ => ⟨z.hh, fun _ => ⟨fun h => (hno h).elim, fun _ => ⟨fun h => ?_, fun _ => ⟨z.hh, fun _ => ⟨fun h => (hno2 h).elim, fun _ => ⟨⟨x.fault.fault.fault.fault.fault, y.l, ⟨hfx, hok.cap, hok.ints, hok.few, hok.met⟩⟩, ?_⟩⟩⟩⟩⟩⟩⟩⟩⟩⟩⟩⟩⟩⟩
        · exfalso
          rw [show alikeP _ _ = true from ha] at h
          cases h
        · repeat' first | exact trivial | exact rfl | apply And.intro
  · intro z ρ
    have := hc.max
    have hlt2 := of_decide_eq_true hlt
    exact ⟨by omega, ⟨y.i + 1, z.x, z.l, by have := of_decide_eq_true hlt; omega, z.ok⟩, by have := of_decide_eq_true hlt; show len - (y.i + 1) < len - y.i; omega, rfl, rfl, rfl, rfl, rfl, rfl, by show ((y.i + 1 : Nat) : Int) = (y.i : Int) + 1; omega, rfl, rfl, trivial⟩
  · have hcap' := y.ok.cap
    refine ⟨trivial, fun hi => ?_⟩
    have h2 := PA.Inv.capOk (x := y.x) hi
    refine ⟨fun _ => ⟨trivial, fun _ => ⟨decide_eq_true (by omega), rfl⟩⟩, fun h => ?_⟩
    have := of_decide_eq_false h
    omega
end Go.Proofs.Ytnhmeepifockgaa
