/- ArenaSums: for all capacities and all operations the law returns true and turns nothing; condition: the operations are read as such. -/
import Derived.Test.YtnhmeepifockgaaParV
set_option linter.all false
namespace Go.Proofs.Ytnhmeepifockgaa
open Go Go.RowKit
set_option maxRecDepth 1000000
set_option maxHeartbeats 0
def tblAS : List (Smry Try.prog XP) := [firstS 90 (fun W => by have h := law_trueR (first03_run trivial) W; exact h), great3S, ofS, newG, layR, readC.R, writeC.R, addC.R, swapC.R, freeC.R, usedC.R, peakC.R, capC.R, lenC.R, sizeC.R, tallyC.R, cloneR, sameR, blocksR]
structure ASY (len : Nat) where
  i : Nat
  x : PA
  hi : i ≤ len
  ok : ASI i x
def asI (len : Nat) (n : Nat) (y : ASY len) : List (Nat × SV) × List (Nat × SO XP) := ([(5, .c (.ptr n 0)), (35, .c (.int false .i64 (y.i : Int)))], [(n, parO y.x)])
/-- An operation with the handle that it means. -/
structure ASC (W : World) where
  k : Int
  at' : Int
  o : Int
  wa : Option Addr
  wl : Nat
  wc : Nat
  h : Int
  b : Int
  xa : Int
  n : Int
  m : Int
  hk : -9223372036854775808 ≤ k ∧ k ≤ 9223372036854775807
  hb : 0 ≤ b ∧ b < 18446744073709551616
  hh : 0 ≤ h ∧ h < 18446744073709551616
  hn : 0 ≤ n ∧ n < 18446744073709551616
  hm : 0 ≤ m ∧ m < 18446744073709551616
  hw : ∀ j, j < wl → Seen .u64 W (addOpt wa j)
  hl : wl ≤ 9223372036854775807
def asC {len : Nat} (W : World) (y : ASY len) (n : Nat) (z : ASC W) : List (Nat × SV) × List (Nat × SO XP) := ([(5, .c (.ptr n 0)), (8, .c (.ptr (n + 1) 0)), (35, .c (.int false .i64 (y.i : Int)))],
  [(n, parO y.x), (n + 1, .cells [.int false .i64 z.k, .int false .i64 z.at', .int false .i64 z.o, .sliv z.wa false z.wl z.wc, .int false .u64 z.h, .int false .u64 z.b, .int false .i64 z.xa, .int false .u64 z.n, .int false .u64 z.m] 169)])
theorem hdl_lt {x : PA} (hi : x.Inv) {q : Nat} {most : Int} {hf : Nat → Int} {nf : Nat → Nat} (h : BlkList x most q hf nf) : ∀ i, i < q → 0 ≤ hf i ∧ hf i < 18446744073709551616 := fun i hq => by
  obtain ⟨l, hl, hq1, hx⟩ := h
  rw [(hx i hq).1]
  have hil : i < l.length := by
    rw [List.length_take] at hq1
    omega
  have hm : l.getD i (0, []) ∈ l := by
    rw [List.getD_eq_getElem?_getD, List.getElem?_eq_getElem hil]
    exact List.getElem_mem hil
  obtain ⟨y, hy, e⟩ := List.mem_map.1 (hl.mem_iff.1 hm)
  have h1 := hi.hds.2 y hy
  have h2 := hi.hds.1
  rw [← e]
  omega
theorem blk_few {x : PA} {q : Nat} {hf : Nat → Int} {nf : Nat → Nat} (h : BlkList x 200 q hf nf) : q ≤ 1000000000000 := by
  obtain ⟨l, _, hq, _⟩ := h
  rw [List.length_take] at hq
  have : (200 : Int).toNat = 200 := rfl
  omega
theorem blk_ex {x : PA} (hi : x.Inv) {q cap : Nat} {hf : Nat → Int} {nf : Nat → Nat} {z : Nat → Option Addr × Nat} (h : BlkList x 200 q hf nf) : ∃ (hf1 : Nat → Int) (nf1 : Nat → Nat) (z1 : Nat → Option Addr × Nat), (∀ i, i < q → 0 ≤ hf1 i ∧ hf1 i < 18446744073709551616) ∧
    some (SO.vals (E := XP) 164 2 q cap (blkW hf nf z)) = some (SO.vals (E := XP) 164 2 q cap (blkW hf1 nf1 z1)) := ⟨hf, nf, z, hdl_lt hi h, rfl⟩
def ascMk (W : World) (B : Option Addr) {h b : Int} (hb : (0 ≤ h ∧ h < 18446744073709551616) ∧ 0 ≤ b ∧ b < 18446744073709551616) (hl : (seenSli W (addOpt B 3)).2.1 ≤ 9223372036854775807) (hw : ∀ i, i < (seenSli W (addOpt B 3)).2.1 → Seen .u64 W (addOpt (seenSli W (addOpt B 3)).1 i)) : ASC W where
  k := seenInt .i64 W (addOpt B 0)
  at' := seenInt .i64 W (addOpt B 1)
  o := seenInt .i64 W (addOpt B 2)
  wa := (seenSli W (addOpt B 3)).1
  wl := (seenSli W (addOpt B 3)).2.1
  wc := (seenSli W (addOpt B 3)).2.2
  h := h
  b := b
  xa := seenInt .i64 W (addOpt B 6)
  n := seenInt .u64 W (addOpt B 7)
  m := seenInt .u64 W (addOpt B 8)
  hk := seenInt_bd .i64 W _
  hb := hb.2
  hh := hb.1
  hn := ⟨(seenInt_bd .u64 W _).1, Int.lt_of_le_of_lt (seenInt_bd .u64 W _).2 (by decide)⟩
  hm := ⟨(seenInt_bd .u64 W _).1, Int.lt_of_le_of_lt (seenInt_bd .u64 W _).2 (by decide)⟩
  hw := hw
  hl := hl

theorem asAl {x x' : PA} {l : List (Nat × Nat × List Nat)} (h : SameW x x') (hl : l.Perm x.bs) : alikeP x' { x with bs := l } = true := alike_of h.1.symm (by rw [h.2]; exact hl)
theorem tly_wrap {t : Tly} {k : Nat} (h : t.lays = t.frees + k) (hk : k ≤ 1000) : IntKind.i64.wrap (tlyZ t 0 - tlyZ t 1) = k := by
  show IntKind.i64.wrap (IntKind.i64.wrap (t.lays : Int) - IntKind.i64.wrap (t.frees : Int)) = k
  simp only [IntKind.wrap_i64]
  omega
structure ASE (i : Nat) where
  x : PA
  ok : ASI i x
def asE {len : Nat} (y : ASY len) (n : Nat) (z : ASE (y.i + 1)) : List (Nat × SV) × List (Nat × SO XP) := ([(5, .c (.ptr n 0)), (35, .c (.int false .i64 (y.i : Int)))], [(n, parO z.x)])
/-- Behind the operation: the arena, its copy of before, whether nothing may have changed. -/
structure ASS (i : Nat) where
  x : PA
  c : PA
  s : Bool
  ok : ASI i x
  al : s = true → alikeP x c = true
def asS' {len : Nat} (y : ASY len) (n : Nat) (z : ASS (y.i + 1)) : List (Nat × SV) × List (Nat × SO XP) := ([(5, .c (.ptr n 0)), (9, .c (.ptr (n + 1) 0)), (10, .c (.boo false z.s)), (35, .c (.int false .i64 (y.i : Int)))], [(n, parO z.x), (n + 1, parO z.c)])
def asU {len : Nat} (y : ASY len) (x : PA) (n : Nat) (_ : Unit) : List (Nat × SV) × List (Nat × SO XP) := ([(5, .c (.ptr n 0)), (116, .c (.boo true false)), (35, .c (.int false .i64 (y.i : Int)))], [(n, parO x)])
/-- The loop over the blocks: none, or a row of them. -/
structure BS (x : PA) where
  i : Nat
  q : Nat
  cap : Nat
  hf : Nat → Int
  nf : Nat → Nat
  z : Nat → Option Addr × Nat
  hi : i ≤ q
  inv : x.Inv
  bl : BlkList x 300 q hf nf
inductive BY (x : PA) where
  | z (h : {_u : Unit // x.bs = [] ∧ x.Inv})
  | s (h : BS x)
def embsB (x : PA) : List (Emb (BY x)) := [⟨_, BY.z⟩, ⟨_, BY.s⟩]
def invB {len : Nat} (y : ASY len) (x : PA) (n : Nat) : BY x → List (Nat × SV) × List (Nat × SO XP)
  | .z _ => ([(5, .c (.ptr n 0)), (15, .c (.int true .i64 0)), (16, .c (.int true .i64 0)), (118, .c .nls), (119, .c (.int true .i64 0)), (120, .c (.int true .i64 0)), (35, .c (.int false .i64 (y.i : Int)))], [(n, parO x)])
  | .s p => ([(5, .c (.ptr n 0)), (15, .c (.int false .i64 (p.i : Int))), (16, .c (.int false .i64 ((sumN p.nf p.i : Nat) : Int))), (118, .c (.sli (n + 1) 2 true 0 false p.q p.cap)), (119, .c (.int false .i64 (p.q : Int))), (120, .c (.int false .i64 (p.i : Int))), (35, .c (.int false .i64 (y.i : Int)))],
      [(n, parO x), (n + 1, .vals 164 2 p.q p.cap (blkW p.hf p.nf p.z))])
def selB (f : SF) (_ : SH XP) : Nat := match f.at 118 with
  | .c .nls => 0
  | _ => 1
def muB {x : PA} : BY x → Nat
  | .z _ => 0
  | .s p => p.q - p.i
def scrB {x : PA} : BY x → Scr XP
  | .z _ => .both .nil (.both .nil (.both .nil (.both .nil (.both .nil .nil))))
  | .s _ => .both (.both .nil .nil) (.both .nil (.both .nil (.both .nil (.both .nil (.both .nil .nil)))))
def asScr (W : World) (len : Nat) : Scr XP := .both .nil (.inv (liveL [4, 5, 8, 9, 10, 11, 14, 15, 16, 18, 19, 33, 34, 35, 48, 118, 119, 120]) ((List.range 1500).map (· + 1)) (ASY len) (asI len) (fun y => len - y.i) fun y => .both
  (.cut 11 (liveL [4, 5, 8, 9, 10, 11, 14, 15, 16, 18, 19, 33, 34, 35, 48, 118, 119, 120]) ((List.range 1500).map (· + 1)) (ASE (y.i + 1)) (asE y) (.cut 11 (liveL [4, 5, 8, 9, 10, 11, 14, 15, 16, 18, 19, 33, 34, 35, 48, 118, 119, 120]) ((List.range 1500).map (· + 1)) (ASC W) (asC W y) .nil fun _ => .cut 15 (liveL [4, 5, 8, 9, 10, 11, 14, 15, 16, 18, 19, 33, 34, 35, 48, 118, 119, 120]) ((List.range 1500).map (· + 1)) (ASS (y.i + 1)) (asS' y) (.both .nil (.both .nil (.both .nil (.both .nil (.both .nil (.both .nil (.both (.both .nil .nil) .nil))))))) fun s =>
    .cut 31 (liveL [4, 5, 8, 9, 10, 11, 14, 15, 16, 18, 19, 33, 34, 35, 48, 118, 119, 120]) ((List.range 1500).map (· + 1)) Unit (asU y s.x) (.both (.both .nil .nil) .nil) fun _ => .invs (liveL [4, 5, 8, 9, 10, 11, 14, 15, 16, 18, 19, 33, 34, 35, 48, 118, 119, 120]) ((List.range 1500).map (· + 1)) (BY s.x) (embsB s.x) selB (invB y s.x) muB scrB) fun _ => .nil)
  .nil)
/-- What the executor leaves to be shown of roundelay/roundelaylaw03.ArenaSums, written out. -/
theorem arenaSums_vc (W : World) (a : Option Addr) (len cap : Nat) (c : Int) : (callN Try.prog (tblAS : List (Smry Try.prog XP)) (fun _ t => Nat.beq t 47 || Nat.beq t 157) 100 20 14 [.c (.int false .i64 c), .c (.sliv a false len cap)] ⟨[(0, .seen W)], 1⟩ (asScr W len) (fun v m _ => retSeen W v m)) = (
    OpsOk W a len ∧ ∀ (b : Bool), (b = false → len ≤ (100 : Nat)) → (b = true → true = true ∧ some W = some W) ∧ (b = false → ((0 : Int) ≤ c ∧ c ≤ (60000 : Int) → (∃ (y : ASY len), a =
    a ∧ len = len ∧ cap = cap ∧ (↑len : Int) = (↑len : Int) ∧ W = W ∧ (↑y.i : Int) = (0 : Int) ∧ y.x = PA.new c.toNat ∧ True) ∧ ∀ (y : ASY len) (ρ : Nat → Value), (decide ((↑y.i : Int)
    < (↑len : Int)) = true → (((0 : Int) ≤ (↑y.i : Int) ∧ (↑y.i : Int) < (↑len : Int) ∧ a.isSome = true) ∧ ((∃ (x : Addr), addOpt (addOpt a ((↑y.i : Int).toNat * (9 : Nat))) (0 : Nat) =
    some x ∧ W.cell? x = some (Value.int IntKind.i64 (seenInt IntKind.i64 W (addOpt (addOpt a ((↑y.i : Int).toNat * (9 : Nat))) (0 : Nat))))) ∧ (∃ (x : Addr), addOpt (addOpt a ((↑y.i :
    Int).toNat * (9 : Nat))) ((0 : Nat) + (1 : Nat)) = some x ∧ W.cell? x = some (Value.int IntKind.i64 (seenInt IntKind.i64 W (addOpt (addOpt a ((↑y.i : Int).toNat * (9 : Nat))) (1 :
    Nat))))) ∧ (∃ (x : Addr), addOpt (addOpt a ((↑y.i : Int).toNat * (9 : Nat))) ((0 : Nat) + (1 : Nat) + (1 : Nat)) = some x ∧ W.cell? x = some (Value.int IntKind.i64 (seenInt
    IntKind.i64 W (addOpt (addOpt a ((↑y.i : Int).toNat * (9 : Nat))) (2 : Nat))))) ∧ (∃ (x : Addr), addOpt (addOpt a ((↑y.i : Int).toNat * (9 : Nat))) ((0 : Nat) + (1 : Nat) + (1 :
    Nat) + (1 : Nat)) = some x ∧ W.cell? x = some (Value.slice (seenSli W (addOpt (addOpt a ((↑y.i : Int).toNat * (9 : Nat))) ((0 : Nat) + (1 : Nat) + (1 : Nat) + (1 : Nat)))).fst
    (seenSli W (addOpt (addOpt a ((↑y.i : Int).toNat * (9 : Nat))) (3 : Nat))).snd.fst (seenSli W (addOpt (addOpt a ((↑y.i : Int).toNat * (9 : Nat))) (3 : Nat))).snd.snd)) ∧ (∃ (x :
    Addr), addOpt (addOpt a ((↑y.i : Int).toNat * (9 : Nat))) ((0 : Nat) + (1 : Nat) + (1 : Nat) + (1 : Nat) + (1 : Nat)) = some x ∧ W.cell? x = some (Value.int IntKind.u64 (seenInt
    IntKind.u64 W (addOpt (addOpt a ((↑y.i : Int).toNat * (9 : Nat))) (4 : Nat))))) ∧ (∃ (x : Addr), addOpt (addOpt a ((↑y.i : Int).toNat * (9 : Nat))) ((0 : Nat) + (1 : Nat) + (1 :
    Nat) + (1 : Nat) + (1 : Nat) + (1 : Nat)) = some x ∧ W.cell? x = some (Value.int IntKind.u64 (seenInt IntKind.u64 W (addOpt (addOpt a ((↑y.i : Int).toNat * (9 : Nat))) (5 : Nat)))))
    ∧ (∃ (x : Addr), addOpt (addOpt a ((↑y.i : Int).toNat * (9 : Nat))) ((0 : Nat) + (1 : Nat) + (1 : Nat) + (1 : Nat) + (1 : Nat) + (1 : Nat) + (1 : Nat)) = some x ∧ W.cell? x = some
    (Value.int IntKind.i64 (seenInt IntKind.i64 W (addOpt (addOpt a ((↑y.i : Int).toNat * (9 : Nat))) (6 : Nat))))) ∧ (∃ (x : Addr), addOpt (addOpt a ((↑y.i : Int).toNat * (9 : Nat)))
    ((0 : Nat) + (1 : Nat) + (1 : Nat) + (1 : Nat) + (1 : Nat) + (1 : Nat) + (1 : Nat) + (1 : Nat)) = some x ∧ W.cell? x = some (Value.int IntKind.u64 (seenInt IntKind.u64 W (addOpt
    (addOpt a ((↑y.i : Int).toNat * (9 : Nat))) (7 : Nat))))) ∧ (∃ (x : Addr), addOpt (addOpt a ((↑y.i : Int).toNat * (9 : Nat))) ((0 : Nat) + (1 : Nat) + (1 : Nat) + (1 : Nat) + (1 :
    Nat) + (1 : Nat) + (1 : Nat) + (1 : Nat) + (1 : Nat)) = some x ∧ W.cell? x = some (Value.int IntKind.u64 (seenInt IntKind.u64 W (addOpt (addOpt a ((↑y.i : Int).toNat * (9 : Nat)))
    (8 : Nat))))) ∧ True) ∧ ((((∃ (z : Nat → Value), ArInv (y.x.ar z)) → ∀ (q : Nat) (hf : Nat → Int) (nf : Nat → Nat), (∃ (l : List (Nat × List Nat)), l.Perm (List.map (fun (b : Nat ×
    Nat × List Nat) => b.snd) y.x.bs) ∧ q = (List.take (Int.toNat (200 : Int)) l).length ∧ ∀ (i : Nat), i < q → hf i = (↑(l.getD i ((0 : Nat), [])).fst : Int) ∧ nf i = (l.getD i ((0 :
    Nat), [])).snd.length) → (q = (0 : Nat) → W = W ∧ (((((0 : Int) ≤ seenInt IntKind.u64 W (addOpt (addOpt a ((↑y.i : Int).toNat * (9 : Nat))) (4 : Nat)) ∧ seenInt IntKind.u64 W
    (addOpt (addOpt a ((↑y.i : Int).toNat * (9 : Nat))) (4 : Nat)) < (18446744073709551616 : Int)) ∧ (0 : Int) ≤ seenInt IntKind.u64 W (addOpt (addOpt a ((↑y.i : Int).toNat * (9 :
    Nat))) (5 : Nat)) ∧ seenInt IntKind.u64 W (addOpt (addOpt a ((↑y.i : Int).toNat * (9 : Nat))) (5 : Nat)) < (18446744073709551616 : Int)) ∧ True) ∧ ∀ (h b : Int), ((0 : Int) ≤ h ∧ h
    < (18446744073709551616 : Int)) ∧ (0 : Int) ≤ b ∧ b < (18446744073709551616 : Int) → (∃ (y_1 : ASC W), ρ (4 : Nat) = ρ (4 : Nat) ∧ ρ (9 : Nat) = ρ (9 : Nat) ∧ ρ (10 : Nat) = ρ (10 :
    Nat) ∧ ρ (11 : Nat) = ρ (11 : Nat) ∧ ρ (14 : Nat) = ρ (14 : Nat) ∧ ρ (15 : Nat) = ρ (15 : Nat) ∧ ρ (16 : Nat) = ρ (16 : Nat) ∧ ρ (18 : Nat) = ρ (18 : Nat) ∧ ρ (19 : Nat) = ρ (19 :
    Nat) ∧ a = a ∧ len = len ∧ cap = cap ∧ (↑len : Int) = (↑len : Int) ∧ ρ (48 : Nat) = ρ (48 : Nat) ∧ ρ (118 : Nat) = ρ (118 : Nat) ∧ ρ (119 : Nat) = ρ (119 : Nat) ∧ ρ (120 : Nat) = ρ
    (120 : Nat) ∧ W = W ∧ (↑y.i : Int) = (↑y.i : Int) ∧ y.x = y.x ∧ (y_1.k = seenInt IntKind.i64 W (addOpt (addOpt a ((↑y.i : Int).toNat * (9 : Nat))) (0 : Nat)) ∧ y_1.at' = seenInt
    IntKind.i64 W (addOpt (addOpt a ((↑y.i : Int).toNat * (9 : Nat))) (1 : Nat)) ∧ y_1.o = seenInt IntKind.i64 W (addOpt (addOpt a ((↑y.i : Int).toNat * (9 : Nat))) (2 : Nat)) ∧ (y_1.wa
    = (seenSli W (addOpt (addOpt a ((↑y.i : Int).toNat * (9 : Nat))) ((0 : Nat) + (1 : Nat) + (1 : Nat) + (1 : Nat)))).fst ∧ y_1.wl = (seenSli W (addOpt (addOpt a ((↑y.i : Int).toNat *
    (9 : Nat))) (3 : Nat))).snd.fst ∧ y_1.wc = (seenSli W (addOpt (addOpt a ((↑y.i : Int).toNat * (9 : Nat))) (3 : Nat))).snd.snd) ∧ y_1.h = h ∧ y_1.b = b ∧ y_1.xa = seenInt IntKind.i64
    W (addOpt (addOpt a ((↑y.i : Int).toNat * (9 : Nat))) (6 : Nat)) ∧ y_1.n = seenInt IntKind.u64 W (addOpt (addOpt a ((↑y.i : Int).toNat * (9 : Nat))) (7 : Nat)) ∧ y_1.m = seenInt
    IntKind.u64 W (addOpt (addOpt a ((↑y.i : Int).toNat * (9 : Nat))) (8 : Nat)) ∧ True) ∧ True) ∧ True) ∧ True) ∧ ∀ (cap_1 : Nat) (z : Nat → Option Addr × Nat), q ≤ cap_1 → W = W ∧
    (((((0 : Int) ≤ seenInt IntKind.u64 W (addOpt (addOpt a ((↑y.i : Int).toNat * (9 : Nat))) (4 : Nat)) ∧ seenInt IntKind.u64 W (addOpt (addOpt a ((↑y.i : Int).toNat * (9 : Nat))) (4 :
    Nat)) < (18446744073709551616 : Int)) ∧ (0 : Int) ≤ seenInt IntKind.u64 W (addOpt (addOpt a ((↑y.i : Int).toNat * (9 : Nat))) (5 : Nat)) ∧ seenInt IntKind.u64 W (addOpt (addOpt a
    ((↑y.i : Int).toNat * (9 : Nat))) (5 : Nat)) < (18446744073709551616 : Int)) ∧ q ≤ (1000000000000 : Nat) ∧ ∃ (hf_1 : Nat → Int), ∃ (nf_1 : Nat → Nat), ∃ (z_1 : Nat → Option Addr ×
    Nat), (∀ (i : Nat), i < q → (0 : Int) ≤ hf_1 i ∧ hf_1 i < (18446744073709551616 : Int)) ∧ some (SO.vals (E := XP) (164 : TypeId) (2 : Nat) q cap_1 (blkW hf nf z)) = some (SO.vals (E
    := XP) (164 : TypeId) (2 : Nat) q cap_1 (blkW hf_1 nf_1 z_1))) ∧ ∀ (h b : Int), ((0 : Int) ≤ h ∧ h < (18446744073709551616 : Int)) ∧ (0 : Int) ≤ b ∧ b < (18446744073709551616 : Int)
    → (∃ (y_1 : ASC W), ρ (4 : Nat) = ρ (4 : Nat) ∧ ρ (9 : Nat) = ρ (9 : Nat) ∧ ρ (10 : Nat) = ρ (10 : Nat) ∧ ρ (11 : Nat) = ρ (11 : Nat) ∧ ρ (14 : Nat) = ρ (14 : Nat) ∧ ρ (15 : Nat) =
    ρ (15 : Nat) ∧ ρ (16 : Nat) = ρ (16 : Nat) ∧ ρ (18 : Nat) = ρ (18 : Nat) ∧ ρ (19 : Nat) = ρ (19 : Nat) ∧ a = a ∧ len = len ∧ cap = cap ∧ (↑len : Int) = (↑len : Int) ∧ ρ (48 : Nat) =
    ρ (48 : Nat) ∧ ρ (118 : Nat) = ρ (118 : Nat) ∧ ρ (119 : Nat) = ρ (119 : Nat) ∧ ρ (120 : Nat) = ρ (120 : Nat) ∧ W = W ∧ (↑y.i : Int) = (↑y.i : Int) ∧ y.x = y.x ∧ (y_1.k = seenInt
    IntKind.i64 W (addOpt (addOpt a ((↑y.i : Int).toNat * (9 : Nat))) (0 : Nat)) ∧ y_1.at' = seenInt IntKind.i64 W (addOpt (addOpt a ((↑y.i : Int).toNat * (9 : Nat))) (1 : Nat)) ∧ y_1.o
    = seenInt IntKind.i64 W (addOpt (addOpt a ((↑y.i : Int).toNat * (9 : Nat))) (2 : Nat)) ∧ (y_1.wa = (seenSli W (addOpt (addOpt a ((↑y.i : Int).toNat * (9 : Nat))) ((0 : Nat) + (1 :
    Nat) + (1 : Nat) + (1 : Nat)))).fst ∧ y_1.wl = (seenSli W (addOpt (addOpt a ((↑y.i : Int).toNat * (9 : Nat))) (3 : Nat))).snd.fst ∧ y_1.wc = (seenSli W (addOpt (addOpt a ((↑y.i :
    Int).toNat * (9 : Nat))) (3 : Nat))).snd.snd) ∧ y_1.h = h ∧ y_1.b = b ∧ y_1.xa = seenInt IntKind.i64 W (addOpt (addOpt a ((↑y.i : Int).toNat * (9 : Nat))) (6 : Nat)) ∧ y_1.n =
    seenInt IntKind.u64 W (addOpt (addOpt a ((↑y.i : Int).toNat * (9 : Nat))) (7 : Nat)) ∧ y_1.m = seenInt IntKind.u64 W (addOpt (addOpt a ((↑y.i : Int).toNat * (9 : Nat))) (8 : Nat)) ∧
    True) ∧ True) ∧ True) ∧ True) ∧ True) ∧ (∀ (K : KO XP), ((∃ (z : Nat → Value), ArInv (y.x.ar z)) → ∀ (q : Nat) (hf : Nat → Int) (nf : Nat → Nat), (∃ (l : List (Nat × List Nat)),
    l.Perm (List.map (fun (b : Nat × Nat × List Nat) => b.snd) y.x.bs) ∧ q = (List.take (Int.toNat (200 : Int)) l).length ∧ ∀ (i : Nat), i < q → hf i = (↑(l.getD i ((0 : Nat), [])).fst
    : Int) ∧ nf i = (l.getD i ((0 : Nat), [])).snd.length) → (q = (0 : Nat) → W = W ∧ (((((0 : Int) ≤ seenInt IntKind.u64 W (addOpt (addOpt a ((↑y.i : Int).toNat * (9 : Nat))) (4 :
    Nat)) ∧ seenInt IntKind.u64 W (addOpt (addOpt a ((↑y.i : Int).toNat * (9 : Nat))) (4 : Nat)) < (18446744073709551616 : Int)) ∧ (0 : Int) ≤ seenInt IntKind.u64 W (addOpt (addOpt a
    ((↑y.i : Int).toNat * (9 : Nat))) (5 : Nat)) ∧ seenInt IntKind.u64 W (addOpt (addOpt a ((↑y.i : Int).toNat * (9 : Nat))) (5 : Nat)) < (18446744073709551616 : Int)) ∧ True) ∧ ∀ (h b
    : Int), ((0 : Int) ≤ h ∧ h < (18446744073709551616 : Int)) ∧ (0 : Int) ≤ b ∧ b < (18446744073709551616 : Int) → K (SF.mk (175 : Nat) (ST.node (SV.c (SC.raw (ρ (0 : Nat)))) (ST.node
    (SV.c (SC.raw (ρ (1 : Nat)))) (ST.node (SV.c (SC.raw (ρ (3 : Nat)))) (ST.node (SV.c (SC.raw (ρ (7 : Nat)))) (ST.node (SV.c (SC.raw (ρ (15 : Nat)))) (ST.node (SV.c (SC.raw (ρ (31 :
    Nat)))) (ST.node (SV.c (SC.raw (ρ (63 : Nat)))) (ST.node (SV.c (SC.raw (ρ (127 : Nat)))) ST.nil ST.nil) ST.nil) (ST.node (SV.c (SC.raw (ρ (95 : Nat)))) (ST.node (SV.c (SC.raw (ρ
    (159 : Nat)))) ST.nil ST.nil) ST.nil)) (ST.node (SV.c (SC.raw (ρ (47 : Nat)))) (ST.node (SV.c (SC.raw (ρ (79 : Nat)))) (ST.node (SV.c (SC.raw (ρ (143 : Nat)))) ST.nil ST.nil)
    ST.nil) (ST.node (SV.c (SC.raw (ρ (111 : Nat)))) ST.nil ST.nil))) (ST.node (SV.c (SC.raw (ρ (23 : Nat)))) (ST.node (SV.agg [SC.int false IntKind.i64 (seenInt IntKind.i64 W (addOpt
    (addOpt a ((↑y.i : Int).toNat * (9 : Nat))) (0 : Nat))) (Bd.w (-9223372036854775808 : Int) (9223372036854775807 : Int) (seenInt_bd IntKind.i64 W (addOpt (addOpt a ((↑y.i :
    Int).toNat * (fun (x : TypeInfo) => x.size) Try.prog.types[(169 : Nat)])) (0 : Nat)))), SC.int false IntKind.i64 (seenInt IntKind.i64 W (addOpt (addOpt a ((↑y.i : Int).toNat * (9 :
    Nat))) (1 : Nat))) (Bd.w (-9223372036854775808 : Int) (9223372036854775807 : Int) (seenInt_bd IntKind.i64 W (addOpt (addOpt a ((↑y.i : Int).toNat * (fun (x : TypeInfo) => x.size)
    Try.prog.types[(169 : Nat)])) ((0 : Nat) + (1 : Nat))))), SC.int false IntKind.i64 (seenInt IntKind.i64 W (addOpt (addOpt a ((↑y.i : Int).toNat * (9 : Nat))) (2 : Nat))) (Bd.w
    (-9223372036854775808 : Int) (9223372036854775807 : Int) (seenInt_bd IntKind.i64 W (addOpt (addOpt a ((↑y.i : Int).toNat * (fun (x : TypeInfo) => x.size) Try.prog.types[(169 :
    Nat)])) ((0 : Nat) + (1 : Nat) + (1 : Nat))))), SC.sliv (seenSli W (addOpt (addOpt a ((↑y.i : Int).toNat * (9 : Nat))) ((0 : Nat) + (1 : Nat) + (1 : Nat) + (1 : Nat)))).fst false
    (seenSli W (addOpt (addOpt a ((↑y.i : Int).toNat * (9 : Nat))) (3 : Nat))).snd.fst (seenSli W (addOpt (addOpt a ((↑y.i : Int).toNat * (9 : Nat))) (3 : Nat))).snd.snd, SC.int false
    IntKind.u64 (seenInt IntKind.u64 W (addOpt (addOpt a ((↑y.i : Int).toNat * (9 : Nat))) (4 : Nat))) (Bd.w (0 : Int) (18446744073709551615 : Int) (seenInt_bd IntKind.u64 W (addOpt
    (addOpt a ((↑y.i : Int).toNat * (fun (x : TypeInfo) => x.size) Try.prog.types[(169 : Nat)])) ((0 : Nat) + (1 : Nat) + (1 : Nat) + (1 : Nat) + (1 : Nat))))), SC.int false IntKind.u64
    (seenInt IntKind.u64 W (addOpt (addOpt a ((↑y.i : Int).toNat * (9 : Nat))) (5 : Nat))) (Bd.w (0 : Int) (18446744073709551615 : Int) (seenInt_bd IntKind.u64 W (addOpt (addOpt a
    ((↑y.i : Int).toNat * (fun (x : TypeInfo) => x.size) Try.prog.types[(169 : Nat)])) ((0 : Nat) + (1 : Nat) + (1 : Nat) + (1 : Nat) + (1 : Nat) + (1 : Nat))))), SC.int false
    IntKind.i64 (seenInt IntKind.i64 W (addOpt (addOpt a ((↑y.i : Int).toNat * (9 : Nat))) (6 : Nat))) (Bd.w (-9223372036854775808 : Int) (9223372036854775807 : Int) (seenInt_bd
    IntKind.i64 W (addOpt (addOpt a ((↑y.i : Int).toNat * (fun (x : TypeInfo) => x.size) Try.prog.types[(169 : Nat)])) ((0 : Nat) + (1 : Nat) + (1 : Nat) + (1 : Nat) + (1 : Nat) + (1 :
    Nat) + (1 : Nat))))), SC.int false IntKind.u64 (seenInt IntKind.u64 W (addOpt (addOpt a ((↑y.i : Int).toNat * (9 : Nat))) (7 : Nat))) (Bd.w (0 : Int) (18446744073709551615 : Int)
    (seenInt_bd IntKind.u64 W (addOpt (addOpt a ((↑y.i : Int).toNat * (fun (x : TypeInfo) => x.size) Try.prog.types[(169 : Nat)])) ((0 : Nat) + (1 : Nat) + (1 : Nat) + (1 : Nat) + (1 :
    Nat) + (1 : Nat) + (1 : Nat) + (1 : Nat))))), SC.int false IntKind.u64 (seenInt IntKind.u64 W (addOpt (addOpt a ((↑y.i : Int).toNat * (9 : Nat))) (8 : Nat))) (Bd.w (0 : Int)
    (18446744073709551615 : Int) (seenInt_bd IntKind.u64 W (addOpt (addOpt a ((↑y.i : Int).toNat * (fun (x : TypeInfo) => x.size) Try.prog.types[(169 : Nat)])) ((0 : Nat) + (1 : Nat) +
    (1 : Nat) + (1 : Nat) + (1 : Nat) + (1 : Nat) + (1 : Nat) + (1 : Nat) + (1 : Nat)))))]) (ST.node (SV.c (SC.raw (ρ (71 : Nat)))) (ST.node (SV.c (SC.raw (ρ (135 : Nat)))) ST.nil
    ST.nil) ST.nil) (ST.node (SV.c (SC.raw (ρ (103 : Nat)))) (ST.node (SV.c (SC.raw (ρ (167 : Nat)))) ST.nil ST.nil) ST.nil)) (ST.node (SV.c (SC.raw (ρ (55 : Nat)))) (ST.node (SV.c
    (SC.raw (ρ (87 : Nat)))) (ST.node (SV.c (SC.raw (ρ (151 : Nat)))) ST.nil ST.nil) ST.nil) (ST.node (SV.c (SC.raw (ρ (119 : Nat)))) ST.nil ST.nil)))) (ST.node (SV.c (SC.raw (ρ (11 :
    Nat)))) (ST.node (SV.c (SC.raw (ρ (19 : Nat)))) (ST.node (SV.c (SC.int false IntKind.i64 (↑y.i : Int))) (ST.node (SV.c (SC.raw (ρ (67 : Nat)))) (ST.node (SV.c (SC.raw (ρ (131 :
    Nat)))) ST.nil ST.nil) ST.nil) (ST.node (SV.c (SC.raw (ρ (99 : Nat)))) (ST.node (SV.c (SC.raw (ρ (163 : Nat)))) ST.nil ST.nil) ST.nil)) (ST.node (SV.c (SC.raw (ρ (51 : Nat))))
    (ST.node (SV.c (SC.raw (ρ (83 : Nat)))) (ST.node (SV.c (SC.raw (ρ (147 : Nat)))) ST.nil ST.nil) ST.nil) (ST.node (SV.c (SC.raw (ρ (115 : Nat)))) ST.nil ST.nil))) (ST.node (SV.c
    (SC.raw (ρ (27 : Nat)))) (ST.node (SV.c (SC.raw (ρ (43 : Nat)))) (ST.node (SV.c (SC.raw (ρ (75 : Nat)))) (ST.node (SV.c (SC.raw (ρ (139 : Nat)))) ST.nil ST.nil) ST.nil) (ST.node
    (SV.c (SC.raw (ρ (107 : Nat)))) (ST.node (SV.c (SC.raw (ρ (171 : Nat)))) ST.nil ST.nil) ST.nil)) (ST.node (SV.c (SC.raw (ρ (59 : Nat)))) (ST.node (SV.c (SC.raw (ρ (91 : Nat))))
    (ST.node (SV.c (SC.raw (ρ (155 : Nat)))) ST.nil ST.nil) ST.nil) (ST.node (SV.c (SC.raw (ρ (123 : Nat)))) ST.nil ST.nil))))) (ST.node (SV.c (SC.ptr (19 : Nat) (0 : Nat))) (ST.node
    (SV.c (SC.raw (ρ (9 : Nat)))) (ST.node (SV.c (SC.raw (ρ (17 : Nat)))) (ST.node (SV.c (SC.sliv a false len cap)) (ST.node (SV.c (SC.raw (ρ (65 : Nat)))) (ST.node (SV.c (SC.raw (ρ
    (129 : Nat)))) ST.nil ST.nil) ST.nil) (ST.node (SV.c (SC.raw (ρ (97 : Nat)))) (ST.node (SV.c (SC.raw (ρ (161 : Nat)))) ST.nil ST.nil) ST.nil)) (ST.node (SV.c (SC.raw (ρ (49 :
    Nat)))) (ST.node (SV.c (SC.raw (ρ (81 : Nat)))) (ST.node (SV.c (SC.raw (ρ (145 : Nat)))) ST.nil ST.nil) ST.nil) (ST.node (SV.c (SC.raw (ρ (113 : Nat)))) ST.nil ST.nil))) (ST.node
    (SV.c (SC.raw (ρ (25 : Nat)))) (ST.node (SV.c SC.nls) (ST.node (SV.c (SC.raw (ρ (73 : Nat)))) (ST.node (SV.c (SC.raw (ρ (137 : Nat)))) ST.nil ST.nil) ST.nil) (ST.node (SV.c (SC.raw
    (ρ (105 : Nat)))) (ST.node (SV.c (SC.raw (ρ (169 : Nat)))) ST.nil ST.nil) ST.nil)) (ST.node (SV.c (SC.raw (ρ (57 : Nat)))) (ST.node (SV.c (SC.raw (ρ (89 : Nat)))) (ST.node (SV.c
    (SC.raw (ρ (153 : Nat)))) ST.nil ST.nil) ST.nil) (ST.node (SV.c (SC.raw (ρ (121 : Nat)))) ST.nil ST.nil)))) (ST.node (SV.c (SC.raw (ρ (13 : Nat)))) (ST.node (SV.c (SC.raw (ρ (21 :
    Nat)))) (ST.node (SV.c (SC.ptv (addOpt a ((↑y.i : Int).toNat * (9 : Nat))))) (ST.node (SV.c (SC.raw (ρ (69 : Nat)))) (ST.node (SV.c (SC.raw (ρ (133 : Nat)))) ST.nil ST.nil) ST.nil)
    (ST.node (SV.c (SC.raw (ρ (101 : Nat)))) (ST.node (SV.c (SC.raw (ρ (165 : Nat)))) ST.nil ST.nil) ST.nil)) (ST.node (SV.c (SC.raw (ρ (53 : Nat)))) (ST.node (SV.c (SC.raw (ρ (85 :
    Nat)))) (ST.node (SV.c (SC.raw (ρ (149 : Nat)))) ST.nil ST.nil) ST.nil) (ST.node (SV.c (SC.raw (ρ (117 : Nat)))) ST.nil ST.nil))) (ST.node (SV.c (SC.raw (ρ (29 : Nat)))) (ST.node
    (SV.c (SC.raw (ρ (45 : Nat)))) (ST.node (SV.c (SC.raw (ρ (77 : Nat)))) (ST.node (SV.c (SC.raw (ρ (141 : Nat)))) ST.nil ST.nil) ST.nil) (ST.node (SV.c (SC.raw (ρ (109 : Nat))))
    (ST.node (SV.c (SC.raw (ρ (173 : Nat)))) ST.nil ST.nil) ST.nil)) (ST.node (SV.c (SC.raw (ρ (61 : Nat)))) (ST.node (SV.c (SC.raw (ρ (93 : Nat)))) (ST.node (SV.c (SC.raw (ρ (157 :
    Nat)))) ST.nil ST.nil) ST.nil) (ST.node (SV.c (SC.raw (ρ (125 : Nat)))) ST.nil ST.nil)))))) (ST.node (SV.c (SC.raw (ρ (2 : Nat)))) (ST.node (SV.c (SC.raw (ρ (4 : Nat)))) (ST.node
    (SV.c (SC.ptr (54 : Nat) (0 : Nat))) (ST.node (SV.c (SC.raw (ρ (16 : Nat)))) (ST.node (SV.c (SC.raw (ρ (32 : Nat)))) (ST.node (SV.c (SC.raw (ρ (64 : Nat)))) (ST.node (SV.c (SC.raw
    (ρ (128 : Nat)))) ST.nil ST.nil) ST.nil) (ST.node (SV.c (SC.raw (ρ (96 : Nat)))) (ST.node (SV.c (SC.raw (ρ (160 : Nat)))) ST.nil ST.nil) ST.nil)) (ST.node (SV.c (SC.raw (ρ (48 :
    Nat)))) (ST.node (SV.c (SC.raw (ρ (80 : Nat)))) (ST.node (SV.c (SC.raw (ρ (144 : Nat)))) ST.nil ST.nil) ST.nil) (ST.node (SV.c (SC.raw (ρ (112 : Nat)))) ST.nil ST.nil))) (ST.node
    (SV.c (SC.raw (ρ (24 : Nat)))) (ST.node (SV.c (SC.ptr (19 : Nat) (0 : Nat))) (ST.node (SV.c (SC.raw (ρ (72 : Nat)))) (ST.node (SV.c (SC.raw (ρ (136 : Nat)))) ST.nil ST.nil) ST.nil)
    (ST.node (SV.c (SC.raw (ρ (104 : Nat)))) (ST.node (SV.c (SC.raw (ρ (168 : Nat)))) ST.nil ST.nil) ST.nil)) (ST.node (SV.c (SC.raw (ρ (56 : Nat)))) (ST.node (SV.c (SC.raw (ρ (88 :
    Nat)))) (ST.node (SV.c (SC.raw (ρ (152 : Nat)))) ST.nil ST.nil) ST.nil) (ST.node (SV.c (SC.raw (ρ (120 : Nat)))) ST.nil ST.nil)))) (ST.node (SV.c (SC.raw (ρ (12 : Nat)))) (ST.node
    (SV.c (SC.raw (ρ (20 : Nat)))) (ST.node (SV.c (SC.boo true true)) (ST.node (SV.c (SC.raw (ρ (68 : Nat)))) (ST.node (SV.c (SC.raw (ρ (132 : Nat)))) ST.nil ST.nil) ST.nil) (ST.node
    (SV.c (SC.raw (ρ (100 : Nat)))) (ST.node (SV.c (SC.raw (ρ (164 : Nat)))) ST.nil ST.nil) ST.nil)) (ST.node (SV.c (SC.raw (ρ (52 : Nat)))) (ST.node (SV.c (SC.raw (ρ (84 : Nat))))
    (ST.node (SV.c (SC.raw (ρ (148 : Nat)))) ST.nil ST.nil) ST.nil) (ST.node (SV.c (SC.raw (ρ (116 : Nat)))) ST.nil ST.nil))) (ST.node (SV.c (SC.raw (ρ (28 : Nat)))) (ST.node (SV.c
    (SC.raw (ρ (44 : Nat)))) (ST.node (SV.c (SC.raw (ρ (76 : Nat)))) (ST.node (SV.c (SC.raw (ρ (140 : Nat)))) ST.nil ST.nil) ST.nil) (ST.node (SV.c (SC.raw (ρ (108 : Nat)))) (ST.node
    (SV.c (SC.raw (ρ (172 : Nat)))) ST.nil ST.nil) ST.nil)) (ST.node (SV.c (SC.raw (ρ (60 : Nat)))) (ST.node (SV.c (SC.raw (ρ (92 : Nat)))) (ST.node (SV.c (SC.raw (ρ (156 : Nat))))
    ST.nil ST.nil) ST.nil) (ST.node (SV.c (SC.raw (ρ (124 : Nat)))) ST.nil ST.nil))))) (ST.node (SV.c (SC.raw (ρ (6 : Nat)))) (ST.node (SV.c (SC.raw (ρ (10 : Nat)))) (ST.node (SV.c
    (SC.raw (ρ (18 : Nat)))) (ST.node (SV.c (SC.int false IntKind.i64 (↑len : Int))) (ST.node (SV.c (SC.raw (ρ (66 : Nat)))) (ST.node (SV.c (SC.raw (ρ (130 : Nat)))) ST.nil ST.nil)
    ST.nil) (ST.node (SV.c (SC.raw (ρ (98 : Nat)))) (ST.node (SV.c (SC.raw (ρ (162 : Nat)))) ST.nil ST.nil) ST.nil)) (ST.node (SV.c (SC.raw (ρ (50 : Nat)))) (ST.node (SV.c (SC.raw (ρ
    (82 : Nat)))) (ST.node (SV.c (SC.raw (ρ (146 : Nat)))) ST.nil ST.nil) ST.nil) (ST.node (SV.c (SC.raw (ρ (114 : Nat)))) ST.nil ST.nil))) (ST.node (SV.c (SC.raw (ρ (26 : Nat))))
    (ST.node (SV.agg [SC.int false IntKind.i64 (seenInt IntKind.i64 W (addOpt (addOpt a ((↑y.i : Int).toNat * (9 : Nat))) (0 : Nat))) Bd.any, SC.int false IntKind.i64 (seenInt
    IntKind.i64 W (addOpt (addOpt a ((↑y.i : Int).toNat * (9 : Nat))) (1 : Nat))) Bd.any, SC.int false IntKind.i64 (seenInt IntKind.i64 W (addOpt (addOpt a ((↑y.i : Int).toNat * (9 :
    Nat))) (2 : Nat))) Bd.any, SC.sliv (seenSli W (addOpt (addOpt a ((↑y.i : Int).toNat * (9 : Nat))) ((0 : Nat) + (1 : Nat) + (1 : Nat) + (1 : Nat)))).fst false (seenSli W (addOpt
    (addOpt a ((↑y.i : Int).toNat * (9 : Nat))) (3 : Nat))).snd.fst (seenSli W (addOpt (addOpt a ((↑y.i : Int).toNat * (9 : Nat))) (3 : Nat))).snd.snd, SC.int false IntKind.u64 h,
    SC.int false IntKind.u64 b, SC.int false IntKind.i64 (seenInt IntKind.i64 W (addOpt (addOpt a ((↑y.i : Int).toNat * (9 : Nat))) (6 : Nat))) Bd.any, SC.int false IntKind.u64 (seenInt
    IntKind.u64 W (addOpt (addOpt a ((↑y.i : Int).toNat * (9 : Nat))) (7 : Nat))) Bd.any, SC.int false IntKind.u64 (seenInt IntKind.u64 W (addOpt (addOpt a ((↑y.i : Int).toNat * (9 :
    Nat))) (8 : Nat))) Bd.any]) (ST.node (SV.c (SC.raw (ρ (74 : Nat)))) (ST.node (SV.c (SC.raw (ρ (138 : Nat)))) ST.nil ST.nil) ST.nil) (ST.node (SV.c (SC.raw (ρ (106 : Nat)))) (ST.node
    (SV.c (SC.raw (ρ (170 : Nat)))) ST.nil ST.nil) ST.nil)) (ST.node (SV.c (SC.raw (ρ (58 : Nat)))) (ST.node (SV.c (SC.raw (ρ (90 : Nat)))) (ST.node (SV.c (SC.raw (ρ (154 : Nat))))
    ST.nil ST.nil) ST.nil) (ST.node (SV.c (SC.raw (ρ (122 : Nat)))) ST.nil ST.nil)))) (ST.node (SV.c (SC.raw (ρ (14 : Nat)))) (ST.node (SV.c (SC.raw (ρ (22 : Nat)))) (ST.node (SV.agg
    [SC.int false IntKind.i64 (seenInt IntKind.i64 W (addOpt (addOpt a ((↑y.i : Int).toNat * (9 : Nat))) (0 : Nat))) (Bd.w (-9223372036854775808 : Int) (9223372036854775807 : Int)
    (seenInt_bd IntKind.i64 W (addOpt (addOpt a ((↑y.i : Int).toNat * (fun (x : TypeInfo) => x.size) Try.prog.types[(169 : Nat)])) (0 : Nat)))), SC.int false IntKind.i64 (seenInt
    IntKind.i64 W (addOpt (addOpt a ((↑y.i : Int).toNat * (9 : Nat))) (1 : Nat))) (Bd.w (-9223372036854775808 : Int) (9223372036854775807 : Int) (seenInt_bd IntKind.i64 W (addOpt
    (addOpt a ((↑y.i : Int).toNat * (fun (x : TypeInfo) => x.size) Try.prog.types[(169 : Nat)])) ((0 : Nat) + (1 : Nat))))), SC.int false IntKind.i64 (seenInt IntKind.i64 W (addOpt
    (addOpt a ((↑y.i : Int).toNat * (9 : Nat))) (2 : Nat))) (Bd.w (-9223372036854775808 : Int) (9223372036854775807 : Int) (seenInt_bd IntKind.i64 W (addOpt (addOpt a ((↑y.i :
    Int).toNat * (fun (x : TypeInfo) => x.size) Try.prog.types[(169 : Nat)])) ((0 : Nat) + (1 : Nat) + (1 : Nat))))), SC.sliv (seenSli W (addOpt (addOpt a ((↑y.i : Int).toNat * (9 :
    Nat))) ((0 : Nat) + (1 : Nat) + (1 : Nat) + (1 : Nat)))).fst false (seenSli W (addOpt (addOpt a ((↑y.i : Int).toNat * (9 : Nat))) (3 : Nat))).snd.fst (seenSli W (addOpt (addOpt a
    ((↑y.i : Int).toNat * (9 : Nat))) (3 : Nat))).snd.snd, SC.int false IntKind.u64 (seenInt IntKind.u64 W (addOpt (addOpt a ((↑y.i : Int).toNat * (9 : Nat))) (4 : Nat))) (Bd.w (0 :
    Int) (18446744073709551615 : Int) (seenInt_bd IntKind.u64 W (addOpt (addOpt a ((↑y.i : Int).toNat * (fun (x : TypeInfo) => x.size) Try.prog.types[(169 : Nat)])) ((0 : Nat) + (1 :
    Nat) + (1 : Nat) + (1 : Nat) + (1 : Nat))))), SC.int false IntKind.u64 (seenInt IntKind.u64 W (addOpt (addOpt a ((↑y.i : Int).toNat * (9 : Nat))) (5 : Nat))) (Bd.w (0 : Int)
    (18446744073709551615 : Int) (seenInt_bd IntKind.u64 W (addOpt (addOpt a ((↑y.i : Int).toNat * (fun (x : TypeInfo) => x.size) Try.prog.types[(169 : Nat)])) ((0 : Nat) + (1 : Nat) +
    (1 : Nat) + (1 : Nat) + (1 : Nat) + (1 : Nat))))), SC.int false IntKind.i64 (seenInt IntKind.i64 W (addOpt (addOpt a ((↑y.i : Int).toNat * (9 : Nat))) (6 : Nat))) (Bd.w
    (-9223372036854775808 : Int) (9223372036854775807 : Int) (seenInt_bd IntKind.i64 W (addOpt (addOpt a ((↑y.i : Int).toNat * (fun (x : TypeInfo) => x.size) Try.prog.types[(169 :
    Nat)])) ((0 : Nat) + (1 : Nat) + (1 : Nat) + (1 : Nat) + (1 : Nat) + (1 : Nat) + (1 : Nat))))), SC.int false IntKind.u64 (seenInt IntKind.u64 W (addOpt (addOpt a ((↑y.i : Int).toNat
    * (9 : Nat))) (7 : Nat))) (Bd.w (0 : Int) (18446744073709551615 : Int) (seenInt_bd IntKind.u64 W (addOpt (addOpt a ((↑y.i : Int).toNat * (fun (x : TypeInfo) => x.size)
    Try.prog.types[(169 : Nat)])) ((0 : Nat) + (1 : Nat) + (1 : Nat) + (1 : Nat) + (1 : Nat) + (1 : Nat) + (1 : Nat) + (1 : Nat))))), SC.int false IntKind.u64 (seenInt IntKind.u64 W
    (addOpt (addOpt a ((↑y.i : Int).toNat * (9 : Nat))) (8 : Nat))) (Bd.w (0 : Int) (18446744073709551615 : Int) (seenInt_bd IntKind.u64 W (addOpt (addOpt a ((↑y.i : Int).toNat * (fun
    (x : TypeInfo) => x.size) Try.prog.types[(169 : Nat)])) ((0 : Nat) + (1 : Nat) + (1 : Nat) + (1 : Nat) + (1 : Nat) + (1 : Nat) + (1 : Nat) + (1 : Nat) + (1 : Nat)))))]) (ST.node
    (SV.c (SC.raw (ρ (70 : Nat)))) (ST.node (SV.c (SC.raw (ρ (134 : Nat)))) ST.nil ST.nil) ST.nil) (ST.node (SV.c (SC.raw (ρ (102 : Nat)))) (ST.node (SV.c (SC.raw (ρ (166 : Nat))))
    ST.nil ST.nil) ST.nil)) (ST.node (SV.c (SC.raw (ρ (54 : Nat)))) (ST.node (SV.c (SC.raw (ρ (86 : Nat)))) (ST.node (SV.c (SC.raw (ρ (150 : Nat)))) ST.nil ST.nil) ST.nil) (ST.node
    (SV.c (SC.raw (ρ (118 : Nat)))) ST.nil ST.nil))) (ST.node (SV.c (SC.raw (ρ (30 : Nat)))) (ST.node (SV.c (SC.raw (ρ (46 : Nat)))) (ST.node (SV.c (SC.raw (ρ (78 : Nat)))) (ST.node
    (SV.c (SC.raw (ρ (142 : Nat)))) ST.nil ST.nil) ST.nil) (ST.node (SV.c (SC.raw (ρ (110 : Nat)))) (ST.node (SV.c (SC.raw (ρ (174 : Nat)))) ST.nil ST.nil) ST.nil)) (ST.node (SV.c
    (SC.raw (ρ (62 : Nat)))) (ST.node (SV.c (SC.raw (ρ (94 : Nat)))) (ST.node (SV.c (SC.raw (ρ (158 : Nat)))) ST.nil ST.nil) ST.nil) (ST.node (SV.c (SC.raw (ρ (126 : Nat)))) ST.nil
    ST.nil))))))) []) (Mem.mk [((19 : Nat), SO.ext (HO.obj [] y.x)), ((0 : Nat), SO.seen W), ((54 : Nat), SO.cells [SC.int false IntKind.i64 (seenInt IntKind.i64 W (addOpt (addOpt a
    ((↑y.i : Int).toNat * (9 : Nat))) (0 : Nat))) Bd.any, SC.int false IntKind.i64 (seenInt IntKind.i64 W (addOpt (addOpt a ((↑y.i : Int).toNat * (9 : Nat))) (1 : Nat))) Bd.any, SC.int
    false IntKind.i64 (seenInt IntKind.i64 W (addOpt (addOpt a ((↑y.i : Int).toNat * (9 : Nat))) (2 : Nat))) Bd.any, SC.sliv (seenSli W (addOpt (addOpt a ((↑y.i : Int).toNat * (9 :
    Nat))) ((0 : Nat) + (1 : Nat) + (1 : Nat) + (1 : Nat)))).fst false (seenSli W (addOpt (addOpt a ((↑y.i : Int).toNat * (9 : Nat))) (3 : Nat))).snd.fst (seenSli W (addOpt (addOpt a
    ((↑y.i : Int).toNat * (9 : Nat))) (3 : Nat))).snd.snd, SC.int false IntKind.u64 h, SC.int false IntKind.u64 b, SC.int false IntKind.i64 (seenInt IntKind.i64 W (addOpt (addOpt a
    ((↑y.i : Int).toNat * (9 : Nat))) (6 : Nat))) Bd.any, SC.int false IntKind.u64 (seenInt IntKind.u64 W (addOpt (addOpt a ((↑y.i : Int).toNat * (9 : Nat))) (7 : Nat))) Bd.any, SC.int
    false IntKind.u64 (seenInt IntKind.u64 W (addOpt (addOpt a ((↑y.i : Int).toNat * (9 : Nat))) (8 : Nat))) Bd.any] (169 : Nat))] (61 : Nat)) Scr.nil ∧ True) ∧ True) ∧ ∀ (cap_1 : Nat)
    (z : Nat → Option Addr × Nat), q ≤ cap_1 → W = W ∧ (((((0 : Int) ≤ seenInt IntKind.u64 W (addOpt (addOpt a ((↑y.i : Int).toNat * (9 : Nat))) (4 : Nat)) ∧ seenInt IntKind.u64 W
    (addOpt (addOpt a ((↑y.i : Int).toNat * (9 : Nat))) (4 : Nat)) < (18446744073709551616 : Int)) ∧ (0 : Int) ≤ seenInt IntKind.u64 W (addOpt (addOpt a ((↑y.i : Int).toNat * (9 :
    Nat))) (5 : Nat)) ∧ seenInt IntKind.u64 W (addOpt (addOpt a ((↑y.i : Int).toNat * (9 : Nat))) (5 : Nat)) < (18446744073709551616 : Int)) ∧ q ≤ (1000000000000 : Nat) ∧ ∃ (hf_1 : Nat
    → Int), ∃ (nf_1 : Nat → Nat), ∃ (z_1 : Nat → Option Addr × Nat), (∀ (i : Nat), i < q → (0 : Int) ≤ hf_1 i ∧ hf_1 i < (18446744073709551616 : Int)) ∧ some (SO.vals (E := XP) (164 :
    TypeId) (2 : Nat) q cap_1 (blkW hf nf z)) = some (SO.vals (E := XP) (164 : TypeId) (2 : Nat) q cap_1 (blkW hf_1 nf_1 z_1))) ∧ ∀ (h b : Int), ((0 : Int) ≤ h ∧ h <
    (18446744073709551616 : Int)) ∧ (0 : Int) ≤ b ∧ b < (18446744073709551616 : Int) → K (SF.mk (175 : Nat) (ST.node (SV.c (SC.raw (ρ (0 : Nat)))) (ST.node (SV.c (SC.raw (ρ (1 : Nat))))
    (ST.node (SV.c (SC.raw (ρ (3 : Nat)))) (ST.node (SV.c (SC.raw (ρ (7 : Nat)))) (ST.node (SV.c (SC.raw (ρ (15 : Nat)))) (ST.node (SV.c (SC.raw (ρ (31 : Nat)))) (ST.node (SV.c (SC.raw
    (ρ (63 : Nat)))) (ST.node (SV.c (SC.raw (ρ (127 : Nat)))) ST.nil ST.nil) ST.nil) (ST.node (SV.c (SC.raw (ρ (95 : Nat)))) (ST.node (SV.c (SC.raw (ρ (159 : Nat)))) ST.nil ST.nil)
    ST.nil)) (ST.node (SV.c (SC.raw (ρ (47 : Nat)))) (ST.node (SV.c (SC.raw (ρ (79 : Nat)))) (ST.node (SV.c (SC.raw (ρ (143 : Nat)))) ST.nil ST.nil) ST.nil) (ST.node (SV.c (SC.raw (ρ
    (111 : Nat)))) ST.nil ST.nil))) (ST.node (SV.c (SC.raw (ρ (23 : Nat)))) (ST.node (SV.agg [SC.int false IntKind.i64 (seenInt IntKind.i64 W (addOpt (addOpt a ((↑y.i : Int).toNat * (9
    : Nat))) (0 : Nat))) (Bd.w (-9223372036854775808 : Int) (9223372036854775807 : Int) (seenInt_bd IntKind.i64 W (addOpt (addOpt a ((↑y.i : Int).toNat * (fun (x : TypeInfo) => x.size)
    Try.prog.types[(169 : Nat)])) (0 : Nat)))), SC.int false IntKind.i64 (seenInt IntKind.i64 W (addOpt (addOpt a ((↑y.i : Int).toNat * (9 : Nat))) (1 : Nat))) (Bd.w
    (-9223372036854775808 : Int) (9223372036854775807 : Int) (seenInt_bd IntKind.i64 W (addOpt (addOpt a ((↑y.i : Int).toNat * (fun (x : TypeInfo) => x.size) Try.prog.types[(169 :
    Nat)])) ((0 : Nat) + (1 : Nat))))), SC.int false IntKind.i64 (seenInt IntKind.i64 W (addOpt (addOpt a ((↑y.i : Int).toNat * (9 : Nat))) (2 : Nat))) (Bd.w (-9223372036854775808 :
    Int) (9223372036854775807 : Int) (seenInt_bd IntKind.i64 W (addOpt (addOpt a ((↑y.i : Int).toNat * (fun (x : TypeInfo) => x.size) Try.prog.types[(169 : Nat)])) ((0 : Nat) + (1 :
    Nat) + (1 : Nat))))), SC.sliv (seenSli W (addOpt (addOpt a ((↑y.i : Int).toNat * (9 : Nat))) ((0 : Nat) + (1 : Nat) + (1 : Nat) + (1 : Nat)))).fst false (seenSli W (addOpt (addOpt a
    ((↑y.i : Int).toNat * (9 : Nat))) (3 : Nat))).snd.fst (seenSli W (addOpt (addOpt a ((↑y.i : Int).toNat * (9 : Nat))) (3 : Nat))).snd.snd, SC.int false IntKind.u64 (seenInt
    IntKind.u64 W (addOpt (addOpt a ((↑y.i : Int).toNat * (9 : Nat))) (4 : Nat))) (Bd.w (0 : Int) (18446744073709551615 : Int) (seenInt_bd IntKind.u64 W (addOpt (addOpt a ((↑y.i :
    Int).toNat * (fun (x : TypeInfo) => x.size) Try.prog.types[(169 : Nat)])) ((0 : Nat) + (1 : Nat) + (1 : Nat) + (1 : Nat) + (1 : Nat))))), SC.int false IntKind.u64 (seenInt
    IntKind.u64 W (addOpt (addOpt a ((↑y.i : Int).toNat * (9 : Nat))) (5 : Nat))) (Bd.w (0 : Int) (18446744073709551615 : Int) (seenInt_bd IntKind.u64 W (addOpt (addOpt a ((↑y.i :
    Int).toNat * (fun (x : TypeInfo) => x.size) Try.prog.types[(169 : Nat)])) ((0 : Nat) + (1 : Nat) + (1 : Nat) + (1 : Nat) + (1 : Nat) + (1 : Nat))))), SC.int false IntKind.i64
    (seenInt IntKind.i64 W (addOpt (addOpt a ((↑y.i : Int).toNat * (9 : Nat))) (6 : Nat))) (Bd.w (-9223372036854775808 : Int) (9223372036854775807 : Int) (seenInt_bd IntKind.i64 W
    (addOpt (addOpt a ((↑y.i : Int).toNat * (fun (x : TypeInfo) => x.size) Try.prog.types[(169 : Nat)])) ((0 : Nat) + (1 : Nat) + (1 : Nat) + (1 : Nat) + (1 : Nat) + (1 : Nat) + (1 :
    Nat))))), SC.int false IntKind.u64 (seenInt IntKind.u64 W (addOpt (addOpt a ((↑y.i : Int).toNat * (9 : Nat))) (7 : Nat))) (Bd.w (0 : Int) (18446744073709551615 : Int) (seenInt_bd
    IntKind.u64 W (addOpt (addOpt a ((↑y.i : Int).toNat * (fun (x : TypeInfo) => x.size) Try.prog.types[(169 : Nat)])) ((0 : Nat) + (1 : Nat) + (1 : Nat) + (1 : Nat) + (1 : Nat) + (1 :
    Nat) + (1 : Nat) + (1 : Nat))))), SC.int false IntKind.u64 (seenInt IntKind.u64 W (addOpt (addOpt a ((↑y.i : Int).toNat * (9 : Nat))) (8 : Nat))) (Bd.w (0 : Int)
    (18446744073709551615 : Int) (seenInt_bd IntKind.u64 W (addOpt (addOpt a ((↑y.i : Int).toNat * (fun (x : TypeInfo) => x.size) Try.prog.types[(169 : Nat)])) ((0 : Nat) + (1 : Nat) +
    (1 : Nat) + (1 : Nat) + (1 : Nat) + (1 : Nat) + (1 : Nat) + (1 : Nat) + (1 : Nat)))))]) (ST.node (SV.c (SC.raw (ρ (71 : Nat)))) (ST.node (SV.c (SC.raw (ρ (135 : Nat)))) ST.nil
    ST.nil) ST.nil) (ST.node (SV.c (SC.raw (ρ (103 : Nat)))) (ST.node (SV.c (SC.raw (ρ (167 : Nat)))) ST.nil ST.nil) ST.nil)) (ST.node (SV.c (SC.raw (ρ (55 : Nat)))) (ST.node (SV.c
    (SC.raw (ρ (87 : Nat)))) (ST.node (SV.c (SC.raw (ρ (151 : Nat)))) ST.nil ST.nil) ST.nil) (ST.node (SV.c (SC.raw (ρ (119 : Nat)))) ST.nil ST.nil)))) (ST.node (SV.c (SC.raw (ρ (11 :
    Nat)))) (ST.node (SV.c (SC.raw (ρ (19 : Nat)))) (ST.node (SV.c (SC.int false IntKind.i64 (↑y.i : Int))) (ST.node (SV.c (SC.raw (ρ (67 : Nat)))) (ST.node (SV.c (SC.raw (ρ (131 :
    Nat)))) ST.nil ST.nil) ST.nil) (ST.node (SV.c (SC.raw (ρ (99 : Nat)))) (ST.node (SV.c (SC.raw (ρ (163 : Nat)))) ST.nil ST.nil) ST.nil)) (ST.node (SV.c (SC.raw (ρ (51 : Nat))))
    (ST.node (SV.c (SC.raw (ρ (83 : Nat)))) (ST.node (SV.c (SC.raw (ρ (147 : Nat)))) ST.nil ST.nil) ST.nil) (ST.node (SV.c (SC.raw (ρ (115 : Nat)))) ST.nil ST.nil))) (ST.node (SV.c
    (SC.raw (ρ (27 : Nat)))) (ST.node (SV.c (SC.raw (ρ (43 : Nat)))) (ST.node (SV.c (SC.raw (ρ (75 : Nat)))) (ST.node (SV.c (SC.raw (ρ (139 : Nat)))) ST.nil ST.nil) ST.nil) (ST.node
    (SV.c (SC.raw (ρ (107 : Nat)))) (ST.node (SV.c (SC.raw (ρ (171 : Nat)))) ST.nil ST.nil) ST.nil)) (ST.node (SV.c (SC.raw (ρ (59 : Nat)))) (ST.node (SV.c (SC.raw (ρ (91 : Nat))))
    (ST.node (SV.c (SC.raw (ρ (155 : Nat)))) ST.nil ST.nil) ST.nil) (ST.node (SV.c (SC.raw (ρ (123 : Nat)))) ST.nil ST.nil))))) (ST.node (SV.c (SC.ptr (19 : Nat) (0 : Nat))) (ST.node
    (SV.c (SC.raw (ρ (9 : Nat)))) (ST.node (SV.c (SC.raw (ρ (17 : Nat)))) (ST.node (SV.c (SC.sliv a false len cap)) (ST.node (SV.c (SC.raw (ρ (65 : Nat)))) (ST.node (SV.c (SC.raw (ρ
    (129 : Nat)))) ST.nil ST.nil) ST.nil) (ST.node (SV.c (SC.raw (ρ (97 : Nat)))) (ST.node (SV.c (SC.raw (ρ (161 : Nat)))) ST.nil ST.nil) ST.nil)) (ST.node (SV.c (SC.raw (ρ (49 :
    Nat)))) (ST.node (SV.c (SC.raw (ρ (81 : Nat)))) (ST.node (SV.c (SC.raw (ρ (145 : Nat)))) ST.nil ST.nil) ST.nil) (ST.node (SV.c (SC.raw (ρ (113 : Nat)))) ST.nil ST.nil))) (ST.node
    (SV.c (SC.raw (ρ (25 : Nat)))) (ST.node (SV.c (SC.sli (61 : Nat) (2 : Nat) true (0 : Nat) false q cap_1)) (ST.node (SV.c (SC.raw (ρ (73 : Nat)))) (ST.node (SV.c (SC.raw (ρ (137 :
    Nat)))) ST.nil ST.nil) ST.nil) (ST.node (SV.c (SC.raw (ρ (105 : Nat)))) (ST.node (SV.c (SC.raw (ρ (169 : Nat)))) ST.nil ST.nil) ST.nil)) (ST.node (SV.c (SC.raw (ρ (57 : Nat))))
    (ST.node (SV.c (SC.raw (ρ (89 : Nat)))) (ST.node (SV.c (SC.raw (ρ (153 : Nat)))) ST.nil ST.nil) ST.nil) (ST.node (SV.c (SC.raw (ρ (121 : Nat)))) ST.nil ST.nil)))) (ST.node (SV.c
    (SC.raw (ρ (13 : Nat)))) (ST.node (SV.c (SC.raw (ρ (21 : Nat)))) (ST.node (SV.c (SC.ptv (addOpt a ((↑y.i : Int).toNat * (9 : Nat))))) (ST.node (SV.c (SC.raw (ρ (69 : Nat))))
    (ST.node (SV.c (SC.raw (ρ (133 : Nat)))) ST.nil ST.nil) ST.nil) (ST.node (SV.c (SC.raw (ρ (101 : Nat)))) (ST.node (SV.c (SC.raw (ρ (165 : Nat)))) ST.nil ST.nil) ST.nil)) (ST.node
    (SV.c (SC.raw (ρ (53 : Nat)))) (ST.node (SV.c (SC.raw (ρ (85 : Nat)))) (ST.node (SV.c (SC.raw (ρ (149 : Nat)))) ST.nil ST.nil) ST.nil) (ST.node (SV.c (SC.raw (ρ (117 : Nat))))
    ST.nil ST.nil))) (ST.node (SV.c (SC.raw (ρ (29 : Nat)))) (ST.node (SV.c (SC.raw (ρ (45 : Nat)))) (ST.node (SV.c (SC.raw (ρ (77 : Nat)))) (ST.node (SV.c (SC.raw (ρ (141 : Nat))))
    ST.nil ST.nil) ST.nil) (ST.node (SV.c (SC.raw (ρ (109 : Nat)))) (ST.node (SV.c (SC.raw (ρ (173 : Nat)))) ST.nil ST.nil) ST.nil)) (ST.node (SV.c (SC.raw (ρ (61 : Nat)))) (ST.node
    (SV.c (SC.raw (ρ (93 : Nat)))) (ST.node (SV.c (SC.raw (ρ (157 : Nat)))) ST.nil ST.nil) ST.nil) (ST.node (SV.c (SC.raw (ρ (125 : Nat)))) ST.nil ST.nil)))))) (ST.node (SV.c (SC.raw (ρ
    (2 : Nat)))) (ST.node (SV.c (SC.raw (ρ (4 : Nat)))) (ST.node (SV.c (SC.ptr (54 : Nat) (0 : Nat))) (ST.node (SV.c (SC.raw (ρ (16 : Nat)))) (ST.node (SV.c (SC.raw (ρ (32 : Nat))))
    (ST.node (SV.c (SC.raw (ρ (64 : Nat)))) (ST.node (SV.c (SC.raw (ρ (128 : Nat)))) ST.nil ST.nil) ST.nil) (ST.node (SV.c (SC.raw (ρ (96 : Nat)))) (ST.node (SV.c (SC.raw (ρ (160 :
    Nat)))) ST.nil ST.nil) ST.nil)) (ST.node (SV.c (SC.raw (ρ (48 : Nat)))) (ST.node (SV.c (SC.raw (ρ (80 : Nat)))) (ST.node (SV.c (SC.raw (ρ (144 : Nat)))) ST.nil ST.nil) ST.nil)
    (ST.node (SV.c (SC.raw (ρ (112 : Nat)))) ST.nil ST.nil))) (ST.node (SV.c (SC.raw (ρ (24 : Nat)))) (ST.node (SV.c (SC.ptr (19 : Nat) (0 : Nat))) (ST.node (SV.c (SC.raw (ρ (72 :
    Nat)))) (ST.node (SV.c (SC.raw (ρ (136 : Nat)))) ST.nil ST.nil) ST.nil) (ST.node (SV.c (SC.raw (ρ (104 : Nat)))) (ST.node (SV.c (SC.raw (ρ (168 : Nat)))) ST.nil ST.nil) ST.nil))
    (ST.node (SV.c (SC.raw (ρ (56 : Nat)))) (ST.node (SV.c (SC.raw (ρ (88 : Nat)))) (ST.node (SV.c (SC.raw (ρ (152 : Nat)))) ST.nil ST.nil) ST.nil) (ST.node (SV.c (SC.raw (ρ (120 :
    Nat)))) ST.nil ST.nil)))) (ST.node (SV.c (SC.raw (ρ (12 : Nat)))) (ST.node (SV.c (SC.raw (ρ (20 : Nat)))) (ST.node (SV.c (SC.boo true true)) (ST.node (SV.c (SC.raw (ρ (68 : Nat))))
    (ST.node (SV.c (SC.raw (ρ (132 : Nat)))) ST.nil ST.nil) ST.nil) (ST.node (SV.c (SC.raw (ρ (100 : Nat)))) (ST.node (SV.c (SC.raw (ρ (164 : Nat)))) ST.nil ST.nil) ST.nil)) (ST.node
    (SV.c (SC.raw (ρ (52 : Nat)))) (ST.node (SV.c (SC.raw (ρ (84 : Nat)))) (ST.node (SV.c (SC.raw (ρ (148 : Nat)))) ST.nil ST.nil) ST.nil) (ST.node (SV.c (SC.raw (ρ (116 : Nat))))
    ST.nil ST.nil))) (ST.node (SV.c (SC.raw (ρ (28 : Nat)))) (ST.node (SV.c (SC.raw (ρ (44 : Nat)))) (ST.node (SV.c (SC.raw (ρ (76 : Nat)))) (ST.node (SV.c (SC.raw (ρ (140 : Nat))))
    ST.nil ST.nil) ST.nil) (ST.node (SV.c (SC.raw (ρ (108 : Nat)))) (ST.node (SV.c (SC.raw (ρ (172 : Nat)))) ST.nil ST.nil) ST.nil)) (ST.node (SV.c (SC.raw (ρ (60 : Nat)))) (ST.node
    (SV.c (SC.raw (ρ (92 : Nat)))) (ST.node (SV.c (SC.raw (ρ (156 : Nat)))) ST.nil ST.nil) ST.nil) (ST.node (SV.c (SC.raw (ρ (124 : Nat)))) ST.nil ST.nil))))) (ST.node (SV.c (SC.raw (ρ
    (6 : Nat)))) (ST.node (SV.c (SC.raw (ρ (10 : Nat)))) (ST.node (SV.c (SC.raw (ρ (18 : Nat)))) (ST.node (SV.c (SC.int false IntKind.i64 (↑len : Int))) (ST.node (SV.c (SC.raw (ρ (66 :
    Nat)))) (ST.node (SV.c (SC.raw (ρ (130 : Nat)))) ST.nil ST.nil) ST.nil) (ST.node (SV.c (SC.raw (ρ (98 : Nat)))) (ST.node (SV.c (SC.raw (ρ (162 : Nat)))) ST.nil ST.nil) ST.nil))
    (ST.node (SV.c (SC.raw (ρ (50 : Nat)))) (ST.node (SV.c (SC.raw (ρ (82 : Nat)))) (ST.node (SV.c (SC.raw (ρ (146 : Nat)))) ST.nil ST.nil) ST.nil) (ST.node (SV.c (SC.raw (ρ (114 :
    Nat)))) ST.nil ST.nil))) (ST.node (SV.c (SC.raw (ρ (26 : Nat)))) (ST.node (SV.agg [SC.int false IntKind.i64 (seenInt IntKind.i64 W (addOpt (addOpt a ((↑y.i : Int).toNat * (9 :
    Nat))) (0 : Nat))) Bd.any, SC.int false IntKind.i64 (seenInt IntKind.i64 W (addOpt (addOpt a ((↑y.i : Int).toNat * (9 : Nat))) (1 : Nat))) Bd.any, SC.int false IntKind.i64 (seenInt
    IntKind.i64 W (addOpt (addOpt a ((↑y.i : Int).toNat * (9 : Nat))) (2 : Nat))) Bd.any, SC.sliv (seenSli W (addOpt (addOpt a ((↑y.i : Int).toNat * (9 : Nat))) ((0 : Nat) + (1 : Nat) +
    (1 : Nat) + (1 : Nat)))).fst false (seenSli W (addOpt (addOpt a ((↑y.i : Int).toNat * (9 : Nat))) (3 : Nat))).snd.fst (seenSli W (addOpt (addOpt a ((↑y.i : Int).toNat * (9 : Nat)))
    (3 : Nat))).snd.snd, SC.int false IntKind.u64 h, SC.int false IntKind.u64 b, SC.int false IntKind.i64 (seenInt IntKind.i64 W (addOpt (addOpt a ((↑y.i : Int).toNat * (9 : Nat))) (6 :
    Nat))) Bd.any, SC.int false IntKind.u64 (seenInt IntKind.u64 W (addOpt (addOpt a ((↑y.i : Int).toNat * (9 : Nat))) (7 : Nat))) Bd.any, SC.int false IntKind.u64 (seenInt IntKind.u64
    W (addOpt (addOpt a ((↑y.i : Int).toNat * (9 : Nat))) (8 : Nat))) Bd.any]) (ST.node (SV.c (SC.raw (ρ (74 : Nat)))) (ST.node (SV.c (SC.raw (ρ (138 : Nat)))) ST.nil ST.nil) ST.nil)
    (ST.node (SV.c (SC.raw (ρ (106 : Nat)))) (ST.node (SV.c (SC.raw (ρ (170 : Nat)))) ST.nil ST.nil) ST.nil)) (ST.node (SV.c (SC.raw (ρ (58 : Nat)))) (ST.node (SV.c (SC.raw (ρ (90 :
    Nat)))) (ST.node (SV.c (SC.raw (ρ (154 : Nat)))) ST.nil ST.nil) ST.nil) (ST.node (SV.c (SC.raw (ρ (122 : Nat)))) ST.nil ST.nil)))) (ST.node (SV.c (SC.raw (ρ (14 : Nat)))) (ST.node
    (SV.c (SC.raw (ρ (22 : Nat)))) (ST.node (SV.agg [SC.int false IntKind.i64 (seenInt IntKind.i64 W (addOpt (addOpt a ((↑y.i : Int).toNat * (9 : Nat))) (0 : Nat))) (Bd.w
    (-9223372036854775808 : Int) (9223372036854775807 : Int) (seenInt_bd IntKind.i64 W (addOpt (addOpt a ((↑y.i : Int).toNat * (fun (x : TypeInfo) => x.size) Try.prog.types[(169 :
    Nat)])) (0 : Nat)))), SC.int false IntKind.i64 (seenInt IntKind.i64 W (addOpt (addOpt a ((↑y.i : Int).toNat * (9 : Nat))) (1 : Nat))) (Bd.w (-9223372036854775808 : Int)
    (9223372036854775807 : Int) (seenInt_bd IntKind.i64 W (addOpt (addOpt a ((↑y.i : Int).toNat * (fun (x : TypeInfo) => x.size) Try.prog.types[(169 : Nat)])) ((0 : Nat) + (1 :
    Nat))))), SC.int false IntKind.i64 (seenInt IntKind.i64 W (addOpt (addOpt a ((↑y.i : Int).toNat * (9 : Nat))) (2 : Nat))) (Bd.w (-9223372036854775808 : Int) (9223372036854775807 :
    Int) (seenInt_bd IntKind.i64 W (addOpt (addOpt a ((↑y.i : Int).toNat * (fun (x : TypeInfo) => x.size) Try.prog.types[(169 : Nat)])) ((0 : Nat) + (1 : Nat) + (1 : Nat))))), SC.sliv
    (seenSli W (addOpt (addOpt a ((↑y.i : Int).toNat * (9 : Nat))) ((0 : Nat) + (1 : Nat) + (1 : Nat) + (1 : Nat)))).fst false (seenSli W (addOpt (addOpt a ((↑y.i : Int).toNat * (9 :
    Nat))) (3 : Nat))).snd.fst (seenSli W (addOpt (addOpt a ((↑y.i : Int).toNat * (9 : Nat))) (3 : Nat))).snd.snd, SC.int false IntKind.u64 (seenInt IntKind.u64 W (addOpt (addOpt a
    ((↑y.i : Int).toNat * (9 : Nat))) (4 : Nat))) (Bd.w (0 : Int) (18446744073709551615 : Int) (seenInt_bd IntKind.u64 W (addOpt (addOpt a ((↑y.i : Int).toNat * (fun (x : TypeInfo) =>
    x.size) Try.prog.types[(169 : Nat)])) ((0 : Nat) + (1 : Nat) + (1 : Nat) + (1 : Nat) + (1 : Nat))))), SC.int false IntKind.u64 (seenInt IntKind.u64 W (addOpt (addOpt a ((↑y.i :
    Int).toNat * (9 : Nat))) (5 : Nat))) (Bd.w (0 : Int) (18446744073709551615 : Int) (seenInt_bd IntKind.u64 W (addOpt (addOpt a ((↑y.i : Int).toNat * (fun (x : TypeInfo) => x.size)
    Try.prog.types[(169 : Nat)])) ((0 : Nat) + (1 : Nat) + (1 : Nat) + (1 : Nat) + (1 : Nat) + (1 : Nat))))), SC.int false IntKind.i64 (seenInt IntKind.i64 W (addOpt (addOpt a ((↑y.i :
    Int).toNat * (9 : Nat))) (6 : Nat))) (Bd.w (-9223372036854775808 : Int) (9223372036854775807 : Int) (seenInt_bd IntKind.i64 W (addOpt (addOpt a ((↑y.i : Int).toNat * (fun (x :
    TypeInfo) => x.size) Try.prog.types[(169 : Nat)])) ((0 : Nat) + (1 : Nat) + (1 : Nat) + (1 : Nat) + (1 : Nat) + (1 : Nat) + (1 : Nat))))), SC.int false IntKind.u64 (seenInt
    IntKind.u64 W (addOpt (addOpt a ((↑y.i : Int).toNat * (9 : Nat))) (7 : Nat))) (Bd.w (0 : Int) (18446744073709551615 : Int) (seenInt_bd IntKind.u64 W (addOpt (addOpt a ((↑y.i :
    Int).toNat * (fun (x : TypeInfo) => x.size) Try.prog.types[(169 : Nat)])) ((0 : Nat) + (1 : Nat) + (1 : Nat) + (1 : Nat) + (1 : Nat) + (1 : Nat) + (1 : Nat) + (1 : Nat))))), SC.int
    false IntKind.u64 (seenInt IntKind.u64 W (addOpt (addOpt a ((↑y.i : Int).toNat * (9 : Nat))) (8 : Nat))) (Bd.w (0 : Int) (18446744073709551615 : Int) (seenInt_bd IntKind.u64 W
    (addOpt (addOpt a ((↑y.i : Int).toNat * (fun (x : TypeInfo) => x.size) Try.prog.types[(169 : Nat)])) ((0 : Nat) + (1 : Nat) + (1 : Nat) + (1 : Nat) + (1 : Nat) + (1 : Nat) + (1 :
    Nat) + (1 : Nat) + (1 : Nat)))))]) (ST.node (SV.c (SC.raw (ρ (70 : Nat)))) (ST.node (SV.c (SC.raw (ρ (134 : Nat)))) ST.nil ST.nil) ST.nil) (ST.node (SV.c (SC.raw (ρ (102 : Nat))))
    (ST.node (SV.c (SC.raw (ρ (166 : Nat)))) ST.nil ST.nil) ST.nil)) (ST.node (SV.c (SC.raw (ρ (54 : Nat)))) (ST.node (SV.c (SC.raw (ρ (86 : Nat)))) (ST.node (SV.c (SC.raw (ρ (150 :
    Nat)))) ST.nil ST.nil) ST.nil) (ST.node (SV.c (SC.raw (ρ (118 : Nat)))) ST.nil ST.nil))) (ST.node (SV.c (SC.raw (ρ (30 : Nat)))) (ST.node (SV.c (SC.raw (ρ (46 : Nat)))) (ST.node
    (SV.c (SC.raw (ρ (78 : Nat)))) (ST.node (SV.c (SC.raw (ρ (142 : Nat)))) ST.nil ST.nil) ST.nil) (ST.node (SV.c (SC.raw (ρ (110 : Nat)))) (ST.node (SV.c (SC.raw (ρ (174 : Nat))))
    ST.nil ST.nil) ST.nil)) (ST.node (SV.c (SC.raw (ρ (62 : Nat)))) (ST.node (SV.c (SC.raw (ρ (94 : Nat)))) (ST.node (SV.c (SC.raw (ρ (158 : Nat)))) ST.nil ST.nil) ST.nil) (ST.node
    (SV.c (SC.raw (ρ (126 : Nat)))) ST.nil ST.nil))))))) []) (Mem.mk [((19 : Nat), SO.ext (HO.obj [] y.x)), ((0 : Nat), SO.seen W), ((54 : Nat), SO.cells [SC.int false IntKind.i64
    (seenInt IntKind.i64 W (addOpt (addOpt a ((↑y.i : Int).toNat * (9 : Nat))) (0 : Nat))) Bd.any, SC.int false IntKind.i64 (seenInt IntKind.i64 W (addOpt (addOpt a ((↑y.i : Int).toNat
    * (9 : Nat))) (1 : Nat))) Bd.any, SC.int false IntKind.i64 (seenInt IntKind.i64 W (addOpt (addOpt a ((↑y.i : Int).toNat * (9 : Nat))) (2 : Nat))) Bd.any, SC.sliv (seenSli W (addOpt
    (addOpt a ((↑y.i : Int).toNat * (9 : Nat))) ((0 : Nat) + (1 : Nat) + (1 : Nat) + (1 : Nat)))).fst false (seenSli W (addOpt (addOpt a ((↑y.i : Int).toNat * (9 : Nat))) (3 :
    Nat))).snd.fst (seenSli W (addOpt (addOpt a ((↑y.i : Int).toNat * (9 : Nat))) (3 : Nat))).snd.snd, SC.int false IntKind.u64 h, SC.int false IntKind.u64 b, SC.int false IntKind.i64
    (seenInt IntKind.i64 W (addOpt (addOpt a ((↑y.i : Int).toNat * (9 : Nat))) (6 : Nat))) Bd.any, SC.int false IntKind.u64 (seenInt IntKind.u64 W (addOpt (addOpt a ((↑y.i : Int).toNat
    * (9 : Nat))) (7 : Nat))) Bd.any, SC.int false IntKind.u64 (seenInt IntKind.u64 W (addOpt (addOpt a ((↑y.i : Int).toNat * (9 : Nat))) (8 : Nat))) Bd.any] (169 : Nat)), ((61 : Nat),
    SO.vals (E := XP) (164 : TypeId) (2 : Nat) q cap_1 (blkW hf nf z))] (62 : Nat)) Scr.nil ∧ True) ∧ True) ∧ True → (∃ (z : Nat → Value), ArInv (y.x.ar z)) → ∀ (q : Nat) (hf : Nat →
    Int) (nf : Nat → Nat), (∃ (l : List (Nat × List Nat)), l.Perm (List.map (fun (b : Nat × Nat × List Nat) => b.snd) y.x.bs) ∧ q = (List.take (Int.toNat (200 : Int)) l).length ∧ ∀ (i :
    Nat), i < q → hf i = (↑(l.getD i ((0 : Nat), [])).fst : Int) ∧ nf i = (l.getD i ((0 : Nat), [])).snd.length) → (q = (0 : Nat) → W = W ∧ ((((((0 : Int) ≤ seenInt IntKind.u64 W
    (addOpt (addOpt a ((↑y.i : Int).toNat * (9 : Nat))) (4 : Nat)) ∧ seenInt IntKind.u64 W (addOpt (addOpt a ((↑y.i : Int).toNat * (9 : Nat))) (4 : Nat)) < (18446744073709551616 : Int))
    ∧ (0 : Int) ≤ seenInt IntKind.u64 W (addOpt (addOpt a ((↑y.i : Int).toNat * (9 : Nat))) (5 : Nat)) ∧ seenInt IntKind.u64 W (addOpt (addOpt a ((↑y.i : Int).toNat * (9 : Nat))) (5 :
    Nat)) < (18446744073709551616 : Int)) ∧ True) ∧ ∀ (h b : Int), ((0 : Int) ≤ h ∧ h < (18446744073709551616 : Int)) ∧ (0 : Int) ≤ b ∧ b < (18446744073709551616 : Int) → K (SF.mk (175
    : Nat) (ST.node (SV.c (SC.raw (ρ (0 : Nat)))) (ST.node (SV.c (SC.raw (ρ (1 : Nat)))) (ST.node (SV.c (SC.raw (ρ (3 : Nat)))) (ST.node (SV.c (SC.raw (ρ (7 : Nat)))) (ST.node (SV.c
    (SC.raw (ρ (15 : Nat)))) (ST.node (SV.c (SC.raw (ρ (31 : Nat)))) (ST.node (SV.c (SC.raw (ρ (63 : Nat)))) (ST.node (SV.c (SC.raw (ρ (127 : Nat)))) ST.nil ST.nil) ST.nil) (ST.node
    (SV.c (SC.raw (ρ (95 : Nat)))) (ST.node (SV.c (SC.raw (ρ (159 : Nat)))) ST.nil ST.nil) ST.nil)) (ST.node (SV.c (SC.raw (ρ (47 : Nat)))) (ST.node (SV.c (SC.raw (ρ (79 : Nat))))
    (ST.node (SV.c (SC.raw (ρ (143 : Nat)))) ST.nil ST.nil) ST.nil) (ST.node (SV.c (SC.raw (ρ (111 : Nat)))) ST.nil ST.nil))) (ST.node (SV.c (SC.raw (ρ (23 : Nat)))) (ST.node (SV.agg
    [SC.int false IntKind.i64 (seenInt IntKind.i64 W (addOpt (addOpt a ((↑y.i : Int).toNat * (9 : Nat))) (0 : Nat))) (Bd.w (-9223372036854775808 : Int) (9223372036854775807 : Int)
    (seenInt_bd IntKind.i64 W (addOpt (addOpt a ((↑y.i : Int).toNat * (fun (x : TypeInfo) => x.size) Try.prog.types[(169 : Nat)])) (0 : Nat)))), SC.int false IntKind.i64 (seenInt
    IntKind.i64 W (addOpt (addOpt a ((↑y.i : Int).toNat * (9 : Nat))) (1 : Nat))) (Bd.w (-9223372036854775808 : Int) (9223372036854775807 : Int) (seenInt_bd IntKind.i64 W (addOpt
    (addOpt a ((↑y.i : Int).toNat * (fun (x : TypeInfo) => x.size) Try.prog.types[(169 : Nat)])) ((0 : Nat) + (1 : Nat))))), SC.int false IntKind.i64 (seenInt IntKind.i64 W (addOpt
    (addOpt a ((↑y.i : Int).toNat * (9 : Nat))) (2 : Nat))) (Bd.w (-9223372036854775808 : Int) (9223372036854775807 : Int) (seenInt_bd IntKind.i64 W (addOpt (addOpt a ((↑y.i :
    Int).toNat * (fun (x : TypeInfo) => x.size) Try.prog.types[(169 : Nat)])) ((0 : Nat) + (1 : Nat) + (1 : Nat))))), SC.sliv (seenSli W (addOpt (addOpt a ((↑y.i : Int).toNat * (9 :
    Nat))) ((0 : Nat) + (1 : Nat) + (1 : Nat) + (1 : Nat)))).fst false (seenSli W (addOpt (addOpt a ((↑y.i : Int).toNat * (9 : Nat))) (3 : Nat))).snd.fst (seenSli W (addOpt (addOpt a
    ((↑y.i : Int).toNat * (9 : Nat))) (3 : Nat))).snd.snd, SC.int false IntKind.u64 (seenInt IntKind.u64 W (addOpt (addOpt a ((↑y.i : Int).toNat * (9 : Nat))) (4 : Nat))) (Bd.w (0 :
    Int) (18446744073709551615 : Int) (seenInt_bd IntKind.u64 W (addOpt (addOpt a ((↑y.i : Int).toNat * (fun (x : TypeInfo) => x.size) Try.prog.types[(169 : Nat)])) ((0 : Nat) + (1 :
    Nat) + (1 : Nat) + (1 : Nat) + (1 : Nat))))), SC.int false IntKind.u64 (seenInt IntKind.u64 W (addOpt (addOpt a ((↑y.i : Int).toNat * (9 : Nat))) (5 : Nat))) (Bd.w (0 : Int)
    (18446744073709551615 : Int) (seenInt_bd IntKind.u64 W (addOpt (addOpt a ((↑y.i : Int).toNat * (fun (x : TypeInfo) => x.size) Try.prog.types[(169 : Nat)])) ((0 : Nat) + (1 : Nat) +
    (1 : Nat) + (1 : Nat) + (1 : Nat) + (1 : Nat))))), SC.int false IntKind.i64 (seenInt IntKind.i64 W (addOpt (addOpt a ((↑y.i : Int).toNat * (9 : Nat))) (6 : Nat))) (Bd.w
    (-9223372036854775808 : Int) (9223372036854775807 : Int) (seenInt_bd IntKind.i64 W (addOpt (addOpt a ((↑y.i : Int).toNat * (fun (x : TypeInfo) => x.size) Try.prog.types[(169 :
    Nat)])) ((0 : Nat) + (1 : Nat) + (1 : Nat) + (1 : Nat) + (1 : Nat) + (1 : Nat) + (1 : Nat))))), SC.int false IntKind.u64 (seenInt IntKind.u64 W (addOpt (addOpt a ((↑y.i : Int).toNat
    * (9 : Nat))) (7 : Nat))) (Bd.w (0 : Int) (18446744073709551615 : Int) (seenInt_bd IntKind.u64 W (addOpt (addOpt a ((↑y.i : Int).toNat * (fun (x : TypeInfo) => x.size)
    Try.prog.types[(169 : Nat)])) ((0 : Nat) + (1 : Nat) + (1 : Nat) + (1 : Nat) + (1 : Nat) + (1 : Nat) + (1 : Nat) + (1 : Nat))))), SC.int false IntKind.u64 (seenInt IntKind.u64 W
    (addOpt (addOpt a ((↑y.i : Int).toNat * (9 : Nat))) (8 : Nat))) (Bd.w (0 : Int) (18446744073709551615 : Int) (seenInt_bd IntKind.u64 W (addOpt (addOpt a ((↑y.i : Int).toNat * (fun
    (x : TypeInfo) => x.size) Try.prog.types[(169 : Nat)])) ((0 : Nat) + (1 : Nat) + (1 : Nat) + (1 : Nat) + (1 : Nat) + (1 : Nat) + (1 : Nat) + (1 : Nat) + (1 : Nat)))))]) (ST.node
    (SV.c (SC.raw (ρ (71 : Nat)))) (ST.node (SV.c (SC.raw (ρ (135 : Nat)))) ST.nil ST.nil) ST.nil) (ST.node (SV.c (SC.raw (ρ (103 : Nat)))) (ST.node (SV.c (SC.raw (ρ (167 : Nat))))
    ST.nil ST.nil) ST.nil)) (ST.node (SV.c (SC.raw (ρ (55 : Nat)))) (ST.node (SV.c (SC.raw (ρ (87 : Nat)))) (ST.node (SV.c (SC.raw (ρ (151 : Nat)))) ST.nil ST.nil) ST.nil) (ST.node
    (SV.c (SC.raw (ρ (119 : Nat)))) ST.nil ST.nil)))) (ST.node (SV.c (SC.raw (ρ (11 : Nat)))) (ST.node (SV.c (SC.raw (ρ (19 : Nat)))) (ST.node (SV.c (SC.int false IntKind.i64 (↑y.i :
    Int))) (ST.node (SV.c (SC.raw (ρ (67 : Nat)))) (ST.node (SV.c (SC.raw (ρ (131 : Nat)))) ST.nil ST.nil) ST.nil) (ST.node (SV.c (SC.raw (ρ (99 : Nat)))) (ST.node (SV.c (SC.raw (ρ (163
    : Nat)))) ST.nil ST.nil) ST.nil)) (ST.node (SV.c (SC.raw (ρ (51 : Nat)))) (ST.node (SV.c (SC.raw (ρ (83 : Nat)))) (ST.node (SV.c (SC.raw (ρ (147 : Nat)))) ST.nil ST.nil) ST.nil)
    (ST.node (SV.c (SC.raw (ρ (115 : Nat)))) ST.nil ST.nil))) (ST.node (SV.c (SC.raw (ρ (27 : Nat)))) (ST.node (SV.c (SC.raw (ρ (43 : Nat)))) (ST.node (SV.c (SC.raw (ρ (75 : Nat))))
    (ST.node (SV.c (SC.raw (ρ (139 : Nat)))) ST.nil ST.nil) ST.nil) (ST.node (SV.c (SC.raw (ρ (107 : Nat)))) (ST.node (SV.c (SC.raw (ρ (171 : Nat)))) ST.nil ST.nil) ST.nil)) (ST.node
    (SV.c (SC.raw (ρ (59 : Nat)))) (ST.node (SV.c (SC.raw (ρ (91 : Nat)))) (ST.node (SV.c (SC.raw (ρ (155 : Nat)))) ST.nil ST.nil) ST.nil) (ST.node (SV.c (SC.raw (ρ (123 : Nat))))
    ST.nil ST.nil))))) (ST.node (SV.c (SC.ptr (19 : Nat) (0 : Nat))) (ST.node (SV.c (SC.raw (ρ (9 : Nat)))) (ST.node (SV.c (SC.raw (ρ (17 : Nat)))) (ST.node (SV.c (SC.sliv a false len
    cap)) (ST.node (SV.c (SC.raw (ρ (65 : Nat)))) (ST.node (SV.c (SC.raw (ρ (129 : Nat)))) ST.nil ST.nil) ST.nil) (ST.node (SV.c (SC.raw (ρ (97 : Nat)))) (ST.node (SV.c (SC.raw (ρ (161
    : Nat)))) ST.nil ST.nil) ST.nil)) (ST.node (SV.c (SC.raw (ρ (49 : Nat)))) (ST.node (SV.c (SC.raw (ρ (81 : Nat)))) (ST.node (SV.c (SC.raw (ρ (145 : Nat)))) ST.nil ST.nil) ST.nil)
    (ST.node (SV.c (SC.raw (ρ (113 : Nat)))) ST.nil ST.nil))) (ST.node (SV.c (SC.raw (ρ (25 : Nat)))) (ST.node (SV.c SC.nls) (ST.node (SV.c (SC.raw (ρ (73 : Nat)))) (ST.node (SV.c
    (SC.raw (ρ (137 : Nat)))) ST.nil ST.nil) ST.nil) (ST.node (SV.c (SC.raw (ρ (105 : Nat)))) (ST.node (SV.c (SC.raw (ρ (169 : Nat)))) ST.nil ST.nil) ST.nil)) (ST.node (SV.c (SC.raw (ρ
    (57 : Nat)))) (ST.node (SV.c (SC.raw (ρ (89 : Nat)))) (ST.node (SV.c (SC.raw (ρ (153 : Nat)))) ST.nil ST.nil) ST.nil) (ST.node (SV.c (SC.raw (ρ (121 : Nat)))) ST.nil ST.nil))))
    (ST.node (SV.c (SC.raw (ρ (13 : Nat)))) (ST.node (SV.c (SC.raw (ρ (21 : Nat)))) (ST.node (SV.c (SC.ptv (addOpt a ((↑y.i : Int).toNat * (9 : Nat))))) (ST.node (SV.c (SC.raw (ρ (69 :
    Nat)))) (ST.node (SV.c (SC.raw (ρ (133 : Nat)))) ST.nil ST.nil) ST.nil) (ST.node (SV.c (SC.raw (ρ (101 : Nat)))) (ST.node (SV.c (SC.raw (ρ (165 : Nat)))) ST.nil ST.nil) ST.nil))
    (ST.node (SV.c (SC.raw (ρ (53 : Nat)))) (ST.node (SV.c (SC.raw (ρ (85 : Nat)))) (ST.node (SV.c (SC.raw (ρ (149 : Nat)))) ST.nil ST.nil) ST.nil) (ST.node (SV.c (SC.raw (ρ (117 :
    Nat)))) ST.nil ST.nil))) (ST.node (SV.c (SC.raw (ρ (29 : Nat)))) (ST.node (SV.c (SC.raw (ρ (45 : Nat)))) (ST.node (SV.c (SC.raw (ρ (77 : Nat)))) (ST.node (SV.c (SC.raw (ρ (141 :
    Nat)))) ST.nil ST.nil) ST.nil) (ST.node (SV.c (SC.raw (ρ (109 : Nat)))) (ST.node (SV.c (SC.raw (ρ (173 : Nat)))) ST.nil ST.nil) ST.nil)) (ST.node (SV.c (SC.raw (ρ (61 : Nat))))
    (ST.node (SV.c (SC.raw (ρ (93 : Nat)))) (ST.node (SV.c (SC.raw (ρ (157 : Nat)))) ST.nil ST.nil) ST.nil) (ST.node (SV.c (SC.raw (ρ (125 : Nat)))) ST.nil ST.nil)))))) (ST.node (SV.c
    (SC.raw (ρ (2 : Nat)))) (ST.node (SV.c (SC.raw (ρ (4 : Nat)))) (ST.node (SV.c (SC.ptr (54 : Nat) (0 : Nat))) (ST.node (SV.c (SC.raw (ρ (16 : Nat)))) (ST.node (SV.c (SC.raw (ρ (32 :
    Nat)))) (ST.node (SV.c (SC.raw (ρ (64 : Nat)))) (ST.node (SV.c (SC.raw (ρ (128 : Nat)))) ST.nil ST.nil) ST.nil) (ST.node (SV.c (SC.raw (ρ (96 : Nat)))) (ST.node (SV.c (SC.raw (ρ
    (160 : Nat)))) ST.nil ST.nil) ST.nil)) (ST.node (SV.c (SC.raw (ρ (48 : Nat)))) (ST.node (SV.c (SC.raw (ρ (80 : Nat)))) (ST.node (SV.c (SC.raw (ρ (144 : Nat)))) ST.nil ST.nil)
    ST.nil) (ST.node (SV.c (SC.raw (ρ (112 : Nat)))) ST.nil ST.nil))) (ST.node (SV.c (SC.raw (ρ (24 : Nat)))) (ST.node (SV.c (SC.ptr (19 : Nat) (0 : Nat))) (ST.node (SV.c (SC.raw (ρ (72
    : Nat)))) (ST.node (SV.c (SC.raw (ρ (136 : Nat)))) ST.nil ST.nil) ST.nil) (ST.node (SV.c (SC.raw (ρ (104 : Nat)))) (ST.node (SV.c (SC.raw (ρ (168 : Nat)))) ST.nil ST.nil) ST.nil))
    (ST.node (SV.c (SC.raw (ρ (56 : Nat)))) (ST.node (SV.c (SC.raw (ρ (88 : Nat)))) (ST.node (SV.c (SC.raw (ρ (152 : Nat)))) ST.nil ST.nil) ST.nil) (ST.node (SV.c (SC.raw (ρ (120 :
    Nat)))) ST.nil ST.nil)))) (ST.node (SV.c (SC.raw (ρ (12 : Nat)))) (ST.node (SV.c (SC.raw (ρ (20 : Nat)))) (ST.node (SV.c (SC.boo true true)) (ST.node (SV.c (SC.raw (ρ (68 : Nat))))
    (ST.node (SV.c (SC.raw (ρ (132 : Nat)))) ST.nil ST.nil) ST.nil) (ST.node (SV.c (SC.raw (ρ (100 : Nat)))) (ST.node (SV.c (SC.raw (ρ (164 : Nat)))) ST.nil ST.nil) ST.nil)) (ST.node
    (SV.c (SC.raw (ρ (52 : Nat)))) (ST.node (SV.c (SC.raw (ρ (84 : Nat)))) (ST.node (SV.c (SC.raw (ρ (148 : Nat)))) ST.nil ST.nil) ST.nil) (ST.node (SV.c (SC.raw (ρ (116 : Nat))))
    ST.nil ST.nil))) (ST.node (SV.c (SC.raw (ρ (28 : Nat)))) (ST.node (SV.c (SC.raw (ρ (44 : Nat)))) (ST.node (SV.c (SC.raw (ρ (76 : Nat)))) (ST.node (SV.c (SC.raw (ρ (140 : Nat))))
    ST.nil ST.nil) ST.nil) (ST.node (SV.c (SC.raw (ρ (108 : Nat)))) (ST.node (SV.c (SC.raw (ρ (172 : Nat)))) ST.nil ST.nil) ST.nil)) (ST.node (SV.c (SC.raw (ρ (60 : Nat)))) (ST.node
    (SV.c (SC.raw (ρ (92 : Nat)))) (ST.node (SV.c (SC.raw (ρ (156 : Nat)))) ST.nil ST.nil) ST.nil) (ST.node (SV.c (SC.raw (ρ (124 : Nat)))) ST.nil ST.nil))))) (ST.node (SV.c (SC.raw (ρ
    (6 : Nat)))) (ST.node (SV.c (SC.raw (ρ (10 : Nat)))) (ST.node (SV.c (SC.raw (ρ (18 : Nat)))) (ST.node (SV.c (SC.int false IntKind.i64 (↑len : Int))) (ST.node (SV.c (SC.raw (ρ (66 :
    Nat)))) (ST.node (SV.c (SC.raw (ρ (130 : Nat)))) ST.nil ST.nil) ST.nil) (ST.node (SV.c (SC.raw (ρ (98 : Nat)))) (ST.node (SV.c (SC.raw (ρ (162 : Nat)))) ST.nil ST.nil) ST.nil))
    (ST.node (SV.c (SC.raw (ρ (50 : Nat)))) (ST.node (SV.c (SC.raw (ρ (82 : Nat)))) (ST.node (SV.c (SC.raw (ρ (146 : Nat)))) ST.nil ST.nil) ST.nil) (ST.node (SV.c (SC.raw (ρ (114 :
    Nat)))) ST.nil ST.nil))) (ST.node (SV.c (SC.raw (ρ (26 : Nat)))) (ST.node (SV.agg [SC.int false IntKind.i64 (seenInt IntKind.i64 W (addOpt (addOpt a ((↑y.i : Int).toNat * (9 :
    Nat))) (0 : Nat))) Bd.any, SC.int false IntKind.i64 (seenInt IntKind.i64 W (addOpt (addOpt a ((↑y.i : Int).toNat * (9 : Nat))) (1 : Nat))) Bd.any, SC.int false IntKind.i64 (seenInt
    IntKind.i64 W (addOpt (addOpt a ((↑y.i : Int).toNat * (9 : Nat))) (2 : Nat))) Bd.any, SC.sliv (seenSli W (addOpt (addOpt a ((↑y.i : Int).toNat * (9 : Nat))) ((0 : Nat) + (1 : Nat) +
    (1 : Nat) + (1 : Nat)))).fst false (seenSli W (addOpt (addOpt a ((↑y.i : Int).toNat * (9 : Nat))) (3 : Nat))).snd.fst (seenSli W (addOpt (addOpt a ((↑y.i : Int).toNat * (9 : Nat)))
    (3 : Nat))).snd.snd, SC.int false IntKind.u64 h, SC.int false IntKind.u64 b, SC.int false IntKind.i64 (seenInt IntKind.i64 W (addOpt (addOpt a ((↑y.i : Int).toNat * (9 : Nat))) (6 :
    Nat))) Bd.any, SC.int false IntKind.u64 (seenInt IntKind.u64 W (addOpt (addOpt a ((↑y.i : Int).toNat * (9 : Nat))) (7 : Nat))) Bd.any, SC.int false IntKind.u64 (seenInt IntKind.u64
    W (addOpt (addOpt a ((↑y.i : Int).toNat * (9 : Nat))) (8 : Nat))) Bd.any]) (ST.node (SV.c (SC.raw (ρ (74 : Nat)))) (ST.node (SV.c (SC.raw (ρ (138 : Nat)))) ST.nil ST.nil) ST.nil)
    (ST.node (SV.c (SC.raw (ρ (106 : Nat)))) (ST.node (SV.c (SC.raw (ρ (170 : Nat)))) ST.nil ST.nil) ST.nil)) (ST.node (SV.c (SC.raw (ρ (58 : Nat)))) (ST.node (SV.c (SC.raw (ρ (90 :
    Nat)))) (ST.node (SV.c (SC.raw (ρ (154 : Nat)))) ST.nil ST.nil) ST.nil) (ST.node (SV.c (SC.raw (ρ (122 : Nat)))) ST.nil ST.nil)))) (ST.node (SV.c (SC.raw (ρ (14 : Nat)))) (ST.node
    (SV.c (SC.raw (ρ (22 : Nat)))) (ST.node (SV.agg [SC.int false IntKind.i64 (seenInt IntKind.i64 W (addOpt (addOpt a ((↑y.i : Int).toNat * (9 : Nat))) (0 : Nat))) (Bd.w
    (-9223372036854775808 : Int) (9223372036854775807 : Int) (seenInt_bd IntKind.i64 W (addOpt (addOpt a ((↑y.i : Int).toNat * (fun (x : TypeInfo) => x.size) Try.prog.types[(169 :
    Nat)])) (0 : Nat)))), SC.int false IntKind.i64 (seenInt IntKind.i64 W (addOpt (addOpt a ((↑y.i : Int).toNat * (9 : Nat))) (1 : Nat))) (Bd.w (-9223372036854775808 : Int)
    (9223372036854775807 : Int) (seenInt_bd IntKind.i64 W (addOpt (addOpt a ((↑y.i : Int).toNat * (fun (x : TypeInfo) => x.size) Try.prog.types[(169 : Nat)])) ((0 : Nat) + (1 :
    Nat))))), SC.int false IntKind.i64 (seenInt IntKind.i64 W (addOpt (addOpt a ((↑y.i : Int).toNat * (9 : Nat))) (2 : Nat))) (Bd.w (-9223372036854775808 : Int) (9223372036854775807 :
    Int) (seenInt_bd IntKind.i64 W (addOpt (addOpt a ((↑y.i : Int).toNat * (fun (x : TypeInfo) => x.size) Try.prog.types[(169 : Nat)])) ((0 : Nat) + (1 : Nat) + (1 : Nat))))), SC.sliv
    (seenSli W (addOpt (addOpt a ((↑y.i : Int).toNat * (9 : Nat))) ((0 : Nat) + (1 : Nat) + (1 : Nat) + (1 : Nat)))).fst false (seenSli W (addOpt (addOpt a ((↑y.i : Int).toNat * (9 :
    Nat))) (3 : Nat))).snd.fst (seenSli W (addOpt (addOpt a ((↑y.i : Int).toNat * (9 : Nat))) (3 : Nat))).snd.snd, SC.int false IntKind.u64 (seenInt IntKind.u64 W (addOpt (addOpt a
    ((↑y.i : Int).toNat * (9 : Nat))) (4 : Nat))) (Bd.w (0 : Int) (18446744073709551615 : Int) (seenInt_bd IntKind.u64 W (addOpt (addOpt a ((↑y.i : Int).toNat * (fun (x : TypeInfo) =>
    x.size) Try.prog.types[(169 : Nat)])) ((0 : Nat) + (1 : Nat) + (1 : Nat) + (1 : Nat) + (1 : Nat))))), SC.int false IntKind.u64 (seenInt IntKind.u64 W (addOpt (addOpt a ((↑y.i :
    Int).toNat * (9 : Nat))) (5 : Nat))) (Bd.w (0 : Int) (18446744073709551615 : Int) (seenInt_bd IntKind.u64 W (addOpt (addOpt a ((↑y.i : Int).toNat * (fun (x : TypeInfo) => x.size)
    Try.prog.types[(169 : Nat)])) ((0 : Nat) + (1 : Nat) + (1 : Nat) + (1 : Nat) + (1 : Nat) + (1 : Nat))))), SC.int false IntKind.i64 (seenInt IntKind.i64 W (addOpt (addOpt a ((↑y.i :
    Int).toNat * (9 : Nat))) (6 : Nat))) (Bd.w (-9223372036854775808 : Int) (9223372036854775807 : Int) (seenInt_bd IntKind.i64 W (addOpt (addOpt a ((↑y.i : Int).toNat * (fun (x :
    TypeInfo) => x.size) Try.prog.types[(169 : Nat)])) ((0 : Nat) + (1 : Nat) + (1 : Nat) + (1 : Nat) + (1 : Nat) + (1 : Nat) + (1 : Nat))))), SC.int false IntKind.u64 (seenInt
    IntKind.u64 W (addOpt (addOpt a ((↑y.i : Int).toNat * (9 : Nat))) (7 : Nat))) (Bd.w (0 : Int) (18446744073709551615 : Int) (seenInt_bd IntKind.u64 W (addOpt (addOpt a ((↑y.i :
    Int).toNat * (fun (x : TypeInfo) => x.size) Try.prog.types[(169 : Nat)])) ((0 : Nat) + (1 : Nat) + (1 : Nat) + (1 : Nat) + (1 : Nat) + (1 : Nat) + (1 : Nat) + (1 : Nat))))), SC.int
    false IntKind.u64 (seenInt IntKind.u64 W (addOpt (addOpt a ((↑y.i : Int).toNat * (9 : Nat))) (8 : Nat))) (Bd.w (0 : Int) (18446744073709551615 : Int) (seenInt_bd IntKind.u64 W
    (addOpt (addOpt a ((↑y.i : Int).toNat * (fun (x : TypeInfo) => x.size) Try.prog.types[(169 : Nat)])) ((0 : Nat) + (1 : Nat) + (1 : Nat) + (1 : Nat) + (1 : Nat) + (1 : Nat) + (1 :
    Nat) + (1 : Nat) + (1 : Nat)))))]) (ST.node (SV.c (SC.raw (ρ (70 : Nat)))) (ST.node (SV.c (SC.raw (ρ (134 : Nat)))) ST.nil ST.nil) ST.nil) (ST.node (SV.c (SC.raw (ρ (102 : Nat))))
    (ST.node (SV.c (SC.raw (ρ (166 : Nat)))) ST.nil ST.nil) ST.nil)) (ST.node (SV.c (SC.raw (ρ (54 : Nat)))) (ST.node (SV.c (SC.raw (ρ (86 : Nat)))) (ST.node (SV.c (SC.raw (ρ (150 :
    Nat)))) ST.nil ST.nil) ST.nil) (ST.node (SV.c (SC.raw (ρ (118 : Nat)))) ST.nil ST.nil))) (ST.node (SV.c (SC.raw (ρ (30 : Nat)))) (ST.node (SV.c (SC.raw (ρ (46 : Nat)))) (ST.node
    (SV.c (SC.raw (ρ (78 : Nat)))) (ST.node (SV.c (SC.raw (ρ (142 : Nat)))) ST.nil ST.nil) ST.nil) (ST.node (SV.c (SC.raw (ρ (110 : Nat)))) (ST.node (SV.c (SC.raw (ρ (174 : Nat))))
    ST.nil ST.nil) ST.nil)) (ST.node (SV.c (SC.raw (ρ (62 : Nat)))) (ST.node (SV.c (SC.raw (ρ (94 : Nat)))) (ST.node (SV.c (SC.raw (ρ (158 : Nat)))) ST.nil ST.nil) ST.nil) (ST.node
    (SV.c (SC.raw (ρ (126 : Nat)))) ST.nil ST.nil))))))) []) (Mem.mk [((19 : Nat), SO.ext (HO.obj [] y.x)), ((0 : Nat), SO.seen W), ((54 : Nat), SO.cells [SC.int false IntKind.i64
    (seenInt IntKind.i64 W (addOpt (addOpt a ((↑y.i : Int).toNat * (9 : Nat))) (0 : Nat))) Bd.any, SC.int false IntKind.i64 (seenInt IntKind.i64 W (addOpt (addOpt a ((↑y.i : Int).toNat
    * (9 : Nat))) (1 : Nat))) Bd.any, SC.int false IntKind.i64 (seenInt IntKind.i64 W (addOpt (addOpt a ((↑y.i : Int).toNat * (9 : Nat))) (2 : Nat))) Bd.any, SC.sliv (seenSli W (addOpt
    (addOpt a ((↑y.i : Int).toNat * (9 : Nat))) ((0 : Nat) + (1 : Nat) + (1 : Nat) + (1 : Nat)))).fst false (seenSli W (addOpt (addOpt a ((↑y.i : Int).toNat * (9 : Nat))) (3 :
    Nat))).snd.fst (seenSli W (addOpt (addOpt a ((↑y.i : Int).toNat * (9 : Nat))) (3 : Nat))).snd.snd, SC.int false IntKind.u64 h, SC.int false IntKind.u64 b, SC.int false IntKind.i64
    (seenInt IntKind.i64 W (addOpt (addOpt a ((↑y.i : Int).toNat * (9 : Nat))) (6 : Nat))) Bd.any, SC.int false IntKind.u64 (seenInt IntKind.u64 W (addOpt (addOpt a ((↑y.i : Int).toNat
    * (9 : Nat))) (7 : Nat))) Bd.any, SC.int false IntKind.u64 (seenInt IntKind.u64 W (addOpt (addOpt a ((↑y.i : Int).toNat * (9 : Nat))) (8 : Nat))) Bd.any] (169 : Nat))] (61 : Nat))
    Scr.nil ∧ True) ∧ True) ∧ True) ∧ ∀ (cap_1 : Nat) (z : Nat → Option Addr × Nat), q ≤ cap_1 → W = W ∧ ((((((0 : Int) ≤ seenInt IntKind.u64 W (addOpt (addOpt a ((↑y.i : Int).toNat *
    (9 : Nat))) (4 : Nat)) ∧ seenInt IntKind.u64 W (addOpt (addOpt a ((↑y.i : Int).toNat * (9 : Nat))) (4 : Nat)) < (18446744073709551616 : Int)) ∧ (0 : Int) ≤ seenInt IntKind.u64 W
    (addOpt (addOpt a ((↑y.i : Int).toNat * (9 : Nat))) (5 : Nat)) ∧ seenInt IntKind.u64 W (addOpt (addOpt a ((↑y.i : Int).toNat * (9 : Nat))) (5 : Nat)) < (18446744073709551616 : Int))
    ∧ q ≤ (1000000000000 : Nat) ∧ ∃ (hf_1 : Nat → Int), ∃ (nf_1 : Nat → Nat), ∃ (z_1 : Nat → Option Addr × Nat), (∀ (i : Nat), i < q → (0 : Int) ≤ hf_1 i ∧ hf_1 i <
    (18446744073709551616 : Int)) ∧ some (SO.vals (E := XP) (164 : TypeId) (2 : Nat) q cap_1 (blkW hf nf z)) = some (SO.vals (E := XP) (164 : TypeId) (2 : Nat) q cap_1 (blkW hf_1 nf_1
    z_1))) ∧ ∀ (h b : Int), ((0 : Int) ≤ h ∧ h < (18446744073709551616 : Int)) ∧ (0 : Int) ≤ b ∧ b < (18446744073709551616 : Int) → K (SF.mk (175 : Nat) (ST.node (SV.c (SC.raw (ρ (0 :
    Nat)))) (ST.node (SV.c (SC.raw (ρ (1 : Nat)))) (ST.node (SV.c (SC.raw (ρ (3 : Nat)))) (ST.node (SV.c (SC.raw (ρ (7 : Nat)))) (ST.node (SV.c (SC.raw (ρ (15 : Nat)))) (ST.node (SV.c
    (SC.raw (ρ (31 : Nat)))) (ST.node (SV.c (SC.raw (ρ (63 : Nat)))) (ST.node (SV.c (SC.raw (ρ (127 : Nat)))) ST.nil ST.nil) ST.nil) (ST.node (SV.c (SC.raw (ρ (95 : Nat)))) (ST.node
    (SV.c (SC.raw (ρ (159 : Nat)))) ST.nil ST.nil) ST.nil)) (ST.node (SV.c (SC.raw (ρ (47 : Nat)))) (ST.node (SV.c (SC.raw (ρ (79 : Nat)))) (ST.node (SV.c (SC.raw (ρ (143 : Nat))))
    ST.nil ST.nil) ST.nil) (ST.node (SV.c (SC.raw (ρ (111 : Nat)))) ST.nil ST.nil))) (ST.node (SV.c (SC.raw (ρ (23 : Nat)))) (ST.node (SV.agg [SC.int false IntKind.i64 (seenInt
    IntKind.i64 W (addOpt (addOpt a ((↑y.i : Int).toNat * (9 : Nat))) (0 : Nat))) (Bd.w (-9223372036854775808 : Int) (9223372036854775807 : Int) (seenInt_bd IntKind.i64 W (addOpt
    (addOpt a ((↑y.i : Int).toNat * (fun (x : TypeInfo) => x.size) Try.prog.types[(169 : Nat)])) (0 : Nat)))), SC.int false IntKind.i64 (seenInt IntKind.i64 W (addOpt (addOpt a ((↑y.i :
    Int).toNat * (9 : Nat))) (1 : Nat))) (Bd.w (-9223372036854775808 : Int) (9223372036854775807 : Int) (seenInt_bd IntKind.i64 W (addOpt (addOpt a ((↑y.i : Int).toNat * (fun (x :
    TypeInfo) => x.size) Try.prog.types[(169 : Nat)])) ((0 : Nat) + (1 : Nat))))), SC.int false IntKind.i64 (seenInt IntKind.i64 W (addOpt (addOpt a ((↑y.i : Int).toNat * (9 : Nat))) (2
    : Nat))) (Bd.w (-9223372036854775808 : Int) (9223372036854775807 : Int) (seenInt_bd IntKind.i64 W (addOpt (addOpt a ((↑y.i : Int).toNat * (fun (x : TypeInfo) => x.size)
    Try.prog.types[(169 : Nat)])) ((0 : Nat) + (1 : Nat) + (1 : Nat))))), SC.sliv (seenSli W (addOpt (addOpt a ((↑y.i : Int).toNat * (9 : Nat))) ((0 : Nat) + (1 : Nat) + (1 : Nat) + (1
    : Nat)))).fst false (seenSli W (addOpt (addOpt a ((↑y.i : Int).toNat * (9 : Nat))) (3 : Nat))).snd.fst (seenSli W (addOpt (addOpt a ((↑y.i : Int).toNat * (9 : Nat))) (3 :
    Nat))).snd.snd, SC.int false IntKind.u64 (seenInt IntKind.u64 W (addOpt (addOpt a ((↑y.i : Int).toNat * (9 : Nat))) (4 : Nat))) (Bd.w (0 : Int) (18446744073709551615 : Int)
    (seenInt_bd IntKind.u64 W (addOpt (addOpt a ((↑y.i : Int).toNat * (fun (x : TypeInfo) => x.size) Try.prog.types[(169 : Nat)])) ((0 : Nat) + (1 : Nat) + (1 : Nat) + (1 : Nat) + (1 :
    Nat))))), SC.int false IntKind.u64 (seenInt IntKind.u64 W (addOpt (addOpt a ((↑y.i : Int).toNat * (9 : Nat))) (5 : Nat))) (Bd.w (0 : Int) (18446744073709551615 : Int) (seenInt_bd
    IntKind.u64 W (addOpt (addOpt a ((↑y.i : Int).toNat * (fun (x : TypeInfo) => x.size) Try.prog.types[(169 : Nat)])) ((0 : Nat) + (1 : Nat) + (1 : Nat) + (1 : Nat) + (1 : Nat) + (1 :
    Nat))))), SC.int false IntKind.i64 (seenInt IntKind.i64 W (addOpt (addOpt a ((↑y.i : Int).toNat * (9 : Nat))) (6 : Nat))) (Bd.w (-9223372036854775808 : Int) (9223372036854775807 :
    Int) (seenInt_bd IntKind.i64 W (addOpt (addOpt a ((↑y.i : Int).toNat * (fun (x : TypeInfo) => x.size) Try.prog.types[(169 : Nat)])) ((0 : Nat) + (1 : Nat) + (1 : Nat) + (1 : Nat) +
    (1 : Nat) + (1 : Nat) + (1 : Nat))))), SC.int false IntKind.u64 (seenInt IntKind.u64 W (addOpt (addOpt a ((↑y.i : Int).toNat * (9 : Nat))) (7 : Nat))) (Bd.w (0 : Int)
    (18446744073709551615 : Int) (seenInt_bd IntKind.u64 W (addOpt (addOpt a ((↑y.i : Int).toNat * (fun (x : TypeInfo) => x.size) Try.prog.types[(169 : Nat)])) ((0 : Nat) + (1 : Nat) +
    (1 : Nat) + (1 : Nat) + (1 : Nat) + (1 : Nat) + (1 : Nat) + (1 : Nat))))), SC.int false IntKind.u64 (seenInt IntKind.u64 W (addOpt (addOpt a ((↑y.i : Int).toNat * (9 : Nat))) (8 :
    Nat))) (Bd.w (0 : Int) (18446744073709551615 : Int) (seenInt_bd IntKind.u64 W (addOpt (addOpt a ((↑y.i : Int).toNat * (fun (x : TypeInfo) => x.size) Try.prog.types[(169 : Nat)]))
    ((0 : Nat) + (1 : Nat) + (1 : Nat) + (1 : Nat) + (1 : Nat) + (1 : Nat) + (1 : Nat) + (1 : Nat) + (1 : Nat)))))]) (ST.node (SV.c (SC.raw (ρ (71 : Nat)))) (ST.node (SV.c (SC.raw (ρ
    (135 : Nat)))) ST.nil ST.nil) ST.nil) (ST.node (SV.c (SC.raw (ρ (103 : Nat)))) (ST.node (SV.c (SC.raw (ρ (167 : Nat)))) ST.nil ST.nil) ST.nil)) (ST.node (SV.c (SC.raw (ρ (55 :
    Nat)))) (ST.node (SV.c (SC.raw (ρ (87 : Nat)))) (ST.node (SV.c (SC.raw (ρ (151 : Nat)))) ST.nil ST.nil) ST.nil) (ST.node (SV.c (SC.raw (ρ (119 : Nat)))) ST.nil ST.nil)))) (ST.node
    (SV.c (SC.raw (ρ (11 : Nat)))) (ST.node (SV.c (SC.raw (ρ (19 : Nat)))) (ST.node (SV.c (SC.int false IntKind.i64 (↑y.i : Int))) (ST.node (SV.c (SC.raw (ρ (67 : Nat)))) (ST.node (SV.c
    (SC.raw (ρ (131 : Nat)))) ST.nil ST.nil) ST.nil) (ST.node (SV.c (SC.raw (ρ (99 : Nat)))) (ST.node (SV.c (SC.raw (ρ (163 : Nat)))) ST.nil ST.nil) ST.nil)) (ST.node (SV.c (SC.raw (ρ
    (51 : Nat)))) (ST.node (SV.c (SC.raw (ρ (83 : Nat)))) (ST.node (SV.c (SC.raw (ρ (147 : Nat)))) ST.nil ST.nil) ST.nil) (ST.node (SV.c (SC.raw (ρ (115 : Nat)))) ST.nil ST.nil)))
    (ST.node (SV.c (SC.raw (ρ (27 : Nat)))) (ST.node (SV.c (SC.raw (ρ (43 : Nat)))) (ST.node (SV.c (SC.raw (ρ (75 : Nat)))) (ST.node (SV.c (SC.raw (ρ (139 : Nat)))) ST.nil ST.nil)
    ST.nil) (ST.node (SV.c (SC.raw (ρ (107 : Nat)))) (ST.node (SV.c (SC.raw (ρ (171 : Nat)))) ST.nil ST.nil) ST.nil)) (ST.node (SV.c (SC.raw (ρ (59 : Nat)))) (ST.node (SV.c (SC.raw (ρ
    (91 : Nat)))) (ST.node (SV.c (SC.raw (ρ (155 : Nat)))) ST.nil ST.nil) ST.nil) (ST.node (SV.c (SC.raw (ρ (123 : Nat)))) ST.nil ST.nil))))) (ST.node (SV.c (SC.ptr (19 : Nat) (0 :
    Nat))) (ST.node (SV.c (SC.raw (ρ (9 : Nat)))) (ST.node (SV.c (SC.raw (ρ (17 : Nat)))) (ST.node (SV.c (SC.sliv a false len cap)) (ST.node (SV.c (SC.raw (ρ (65 : Nat)))) (ST.node
    (SV.c (SC.raw (ρ (129 : Nat)))) ST.nil ST.nil) ST.nil) (ST.node (SV.c (SC.raw (ρ (97 : Nat)))) (ST.node (SV.c (SC.raw (ρ (161 : Nat)))) ST.nil ST.nil) ST.nil)) (ST.node (SV.c
    (SC.raw (ρ (49 : Nat)))) (ST.node (SV.c (SC.raw (ρ (81 : Nat)))) (ST.node (SV.c (SC.raw (ρ (145 : Nat)))) ST.nil ST.nil) ST.nil) (ST.node (SV.c (SC.raw (ρ (113 : Nat)))) ST.nil
    ST.nil))) (ST.node (SV.c (SC.raw (ρ (25 : Nat)))) (ST.node (SV.c (SC.sli (61 : Nat) (2 : Nat) true (0 : Nat) false q cap_1)) (ST.node (SV.c (SC.raw (ρ (73 : Nat)))) (ST.node (SV.c
    (SC.raw (ρ (137 : Nat)))) ST.nil ST.nil) ST.nil) (ST.node (SV.c (SC.raw (ρ (105 : Nat)))) (ST.node (SV.c (SC.raw (ρ (169 : Nat)))) ST.nil ST.nil) ST.nil)) (ST.node (SV.c (SC.raw (ρ
    (57 : Nat)))) (ST.node (SV.c (SC.raw (ρ (89 : Nat)))) (ST.node (SV.c (SC.raw (ρ (153 : Nat)))) ST.nil ST.nil) ST.nil) (ST.node (SV.c (SC.raw (ρ (121 : Nat)))) ST.nil ST.nil))))
    (ST.node (SV.c (SC.raw (ρ (13 : Nat)))) (ST.node (SV.c (SC.raw (ρ (21 : Nat)))) (ST.node (SV.c (SC.ptv (addOpt a ((↑y.i : Int).toNat * (9 : Nat))))) (ST.node (SV.c (SC.raw (ρ (69 :
    Nat)))) (ST.node (SV.c (SC.raw (ρ (133 : Nat)))) ST.nil ST.nil) ST.nil) (ST.node (SV.c (SC.raw (ρ (101 : Nat)))) (ST.node (SV.c (SC.raw (ρ (165 : Nat)))) ST.nil ST.nil) ST.nil))
    (ST.node (SV.c (SC.raw (ρ (53 : Nat)))) (ST.node (SV.c (SC.raw (ρ (85 : Nat)))) (ST.node (SV.c (SC.raw (ρ (149 : Nat)))) ST.nil ST.nil) ST.nil) (ST.node (SV.c (SC.raw (ρ (117 :
    Nat)))) ST.nil ST.nil))) (ST.node (SV.c (SC.raw (ρ (29 : Nat)))) (ST.node (SV.c (SC.raw (ρ (45 : Nat)))) (ST.node (SV.c (SC.raw (ρ (77 : Nat)))) (ST.node (SV.c (SC.raw (ρ (141 :
    Nat)))) ST.nil ST.nil) ST.nil) (ST.node (SV.c (SC.raw (ρ (109 : Nat)))) (ST.node (SV.c (SC.raw (ρ (173 : Nat)))) ST.nil ST.nil) ST.nil)) (ST.node (SV.c (SC.raw (ρ (61 : Nat))))
    (ST.node (SV.c (SC.raw (ρ (93 : Nat)))) (ST.node (SV.c (SC.raw (ρ (157 : Nat)))) ST.nil ST.nil) ST.nil) (ST.node (SV.c (SC.raw (ρ (125 : Nat)))) ST.nil ST.nil)))))) (ST.node (SV.c
    (SC.raw (ρ (2 : Nat)))) (ST.node (SV.c (SC.raw (ρ (4 : Nat)))) (ST.node (SV.c (SC.ptr (54 : Nat) (0 : Nat))) (ST.node (SV.c (SC.raw (ρ (16 : Nat)))) (ST.node (SV.c (SC.raw (ρ (32 :
    Nat)))) (ST.node (SV.c (SC.raw (ρ (64 : Nat)))) (ST.node (SV.c (SC.raw (ρ (128 : Nat)))) ST.nil ST.nil) ST.nil) (ST.node (SV.c (SC.raw (ρ (96 : Nat)))) (ST.node (SV.c (SC.raw (ρ
    (160 : Nat)))) ST.nil ST.nil) ST.nil)) (ST.node (SV.c (SC.raw (ρ (48 : Nat)))) (ST.node (SV.c (SC.raw (ρ (80 : Nat)))) (ST.node (SV.c (SC.raw (ρ (144 : Nat)))) ST.nil ST.nil)
    ST.nil) (ST.node (SV.c (SC.raw (ρ (112 : Nat)))) ST.nil ST.nil))) (ST.node (SV.c (SC.raw (ρ (24 : Nat)))) (ST.node (SV.c (SC.ptr (19 : Nat) (0 : Nat))) (ST.node (SV.c (SC.raw (ρ (72
    : Nat)))) (ST.node (SV.c (SC.raw (ρ (136 : Nat)))) ST.nil ST.nil) ST.nil) (ST.node (SV.c (SC.raw (ρ (104 : Nat)))) (ST.node (SV.c (SC.raw (ρ (168 : Nat)))) ST.nil ST.nil) ST.nil))
    (ST.node (SV.c (SC.raw (ρ (56 : Nat)))) (ST.node (SV.c (SC.raw (ρ (88 : Nat)))) (ST.node (SV.c (SC.raw (ρ (152 : Nat)))) ST.nil ST.nil) ST.nil) (ST.node (SV.c (SC.raw (ρ (120 :
    Nat)))) ST.nil ST.nil)))) (ST.node (SV.c (SC.raw (ρ (12 : Nat)))) (ST.node (SV.c (SC.raw (ρ (20 : Nat)))) (ST.node (SV.c (SC.boo true true)) (ST.node (SV.c (SC.raw (ρ (68 : Nat))))
    (ST.node (SV.c (SC.raw (ρ (132 : Nat)))) ST.nil ST.nil) ST.nil) (ST.node (SV.c (SC.raw (ρ (100 : Nat)))) (ST.node (SV.c (SC.raw (ρ (164 : Nat)))) ST.nil ST.nil) ST.nil)) (ST.node
    (SV.c (SC.raw (ρ (52 : Nat)))) (ST.node (SV.c (SC.raw (ρ (84 : Nat)))) (ST.node (SV.c (SC.raw (ρ (148 : Nat)))) ST.nil ST.nil) ST.nil) (ST.node (SV.c (SC.raw (ρ (116 : Nat))))
    ST.nil ST.nil))) (ST.node (SV.c (SC.raw (ρ (28 : Nat)))) (ST.node (SV.c (SC.raw (ρ (44 : Nat)))) (ST.node (SV.c (SC.raw (ρ (76 : Nat)))) (ST.node (SV.c (SC.raw (ρ (140 : Nat))))
    ST.nil ST.nil) ST.nil) (ST.node (SV.c (SC.raw (ρ (108 : Nat)))) (ST.node (SV.c (SC.raw (ρ (172 : Nat)))) ST.nil ST.nil) ST.nil)) (ST.node (SV.c (SC.raw (ρ (60 : Nat)))) (ST.node
    (SV.c (SC.raw (ρ (92 : Nat)))) (ST.node (SV.c (SC.raw (ρ (156 : Nat)))) ST.nil ST.nil) ST.nil) (ST.node (SV.c (SC.raw (ρ (124 : Nat)))) ST.nil ST.nil))))) (ST.node (SV.c (SC.raw (ρ
    (6 : Nat)))) (ST.node (SV.c (SC.raw (ρ (10 : Nat)))) (ST.node (SV.c (SC.raw (ρ (18 : Nat)))) (ST.node (SV.c (SC.int false IntKind.i64 (↑len : Int))) (ST.node (SV.c (SC.raw (ρ (66 :
    Nat)))) (ST.node (SV.c (SC.raw (ρ (130 : Nat)))) ST.nil ST.nil) ST.nil) (ST.node (SV.c (SC.raw (ρ (98 : Nat)))) (ST.node (SV.c (SC.raw (ρ (162 : Nat)))) ST.nil ST.nil) ST.nil))
    (ST.node (SV.c (SC.raw (ρ (50 : Nat)))) (ST.node (SV.c (SC.raw (ρ (82 : Nat)))) (ST.node (SV.c (SC.raw (ρ (146 : Nat)))) ST.nil ST.nil) ST.nil) (ST.node (SV.c (SC.raw (ρ (114 :
    Nat)))) ST.nil ST.nil))) (ST.node (SV.c (SC.raw (ρ (26 : Nat)))) (ST.node (SV.agg [SC.int false IntKind.i64 (seenInt IntKind.i64 W (addOpt (addOpt a ((↑y.i : Int).toNat * (9 :
    Nat))) (0 : Nat))) Bd.any, SC.int false IntKind.i64 (seenInt IntKind.i64 W (addOpt (addOpt a ((↑y.i : Int).toNat * (9 : Nat))) (1 : Nat))) Bd.any, SC.int false IntKind.i64 (seenInt
    IntKind.i64 W (addOpt (addOpt a ((↑y.i : Int).toNat * (9 : Nat))) (2 : Nat))) Bd.any, SC.sliv (seenSli W (addOpt (addOpt a ((↑y.i : Int).toNat * (9 : Nat))) ((0 : Nat) + (1 : Nat) +
    (1 : Nat) + (1 : Nat)))).fst false (seenSli W (addOpt (addOpt a ((↑y.i : Int).toNat * (9 : Nat))) (3 : Nat))).snd.fst (seenSli W (addOpt (addOpt a ((↑y.i : Int).toNat * (9 : Nat)))
    (3 : Nat))).snd.snd, SC.int false IntKind.u64 h, SC.int false IntKind.u64 b, SC.int false IntKind.i64 (seenInt IntKind.i64 W (addOpt (addOpt a ((↑y.i : Int).toNat * (9 : Nat))) (6 :
    Nat))) Bd.any, SC.int false IntKind.u64 (seenInt IntKind.u64 W (addOpt (addOpt a ((↑y.i : Int).toNat * (9 : Nat))) (7 : Nat))) Bd.any, SC.int false IntKind.u64 (seenInt IntKind.u64
    W (addOpt (addOpt a ((↑y.i : Int).toNat * (9 : Nat))) (8 : Nat))) Bd.any]) (ST.node (SV.c (SC.raw (ρ (74 : Nat)))) (ST.node (SV.c (SC.raw (ρ (138 : Nat)))) ST.nil ST.nil) ST.nil)
    (ST.node (SV.c (SC.raw (ρ (106 : Nat)))) (ST.node (SV.c (SC.raw (ρ (170 : Nat)))) ST.nil ST.nil) ST.nil)) (ST.node (SV.c (SC.raw (ρ (58 : Nat)))) (ST.node (SV.c (SC.raw (ρ (90 :
    Nat)))) (ST.node (SV.c (SC.raw (ρ (154 : Nat)))) ST.nil ST.nil) ST.nil) (ST.node (SV.c (SC.raw (ρ (122 : Nat)))) ST.nil ST.nil)))) (ST.node (SV.c (SC.raw (ρ (14 : Nat)))) (ST.node
    (SV.c (SC.raw (ρ (22 : Nat)))) (ST.node (SV.agg [SC.int false IntKind.i64 (seenInt IntKind.i64 W (addOpt (addOpt a ((↑y.i : Int).toNat * (9 : Nat))) (0 : Nat))) (Bd.w
    (-9223372036854775808 : Int) (9223372036854775807 : Int) (seenInt_bd IntKind.i64 W (addOpt (addOpt a ((↑y.i : Int).toNat * (fun (x : TypeInfo) => x.size) Try.prog.types[(169 :
    Nat)])) (0 : Nat)))), SC.int false IntKind.i64 (seenInt IntKind.i64 W (addOpt (addOpt a ((↑y.i : Int).toNat * (9 : Nat))) (1 : Nat))) (Bd.w (-9223372036854775808 : Int)
    (9223372036854775807 : Int) (seenInt_bd IntKind.i64 W (addOpt (addOpt a ((↑y.i : Int).toNat * (fun (x : TypeInfo) => x.size) Try.prog.types[(169 : Nat)])) ((0 : Nat) + (1 :
    Nat))))), SC.int false IntKind.i64 (seenInt IntKind.i64 W (addOpt (addOpt a ((↑y.i : Int).toNat * (9 : Nat))) (2 : Nat))) (Bd.w (-9223372036854775808 : Int) (9223372036854775807 :
    Int) (seenInt_bd IntKind.i64 W (addOpt (addOpt a ((↑y.i : Int).toNat * (fun (x : TypeInfo) => x.size) Try.prog.types[(169 : Nat)])) ((0 : Nat) + (1 : Nat) + (1 : Nat))))), SC.sliv
    (seenSli W (addOpt (addOpt a ((↑y.i : Int).toNat * (9 : Nat))) ((0 : Nat) + (1 : Nat) + (1 : Nat) + (1 : Nat)))).fst false (seenSli W (addOpt (addOpt a ((↑y.i : Int).toNat * (9 :
    Nat))) (3 : Nat))).snd.fst (seenSli W (addOpt (addOpt a ((↑y.i : Int).toNat * (9 : Nat))) (3 : Nat))).snd.snd, SC.int false IntKind.u64 (seenInt IntKind.u64 W (addOpt (addOpt a
    ((↑y.i : Int).toNat * (9 : Nat))) (4 : Nat))) (Bd.w (0 : Int) (18446744073709551615 : Int) (seenInt_bd IntKind.u64 W (addOpt (addOpt a ((↑y.i : Int).toNat * (fun (x : TypeInfo) =>
    x.size) Try.prog.types[(169 : Nat)])) ((0 : Nat) + (1 : Nat) + (1 : Nat) + (1 : Nat) + (1 : Nat))))), SC.int false IntKind.u64 (seenInt IntKind.u64 W (addOpt (addOpt a ((↑y.i :
    Int).toNat * (9 : Nat))) (5 : Nat))) (Bd.w (0 : Int) (18446744073709551615 : Int) (seenInt_bd IntKind.u64 W (addOpt (addOpt a ((↑y.i : Int).toNat * (fun (x : TypeInfo) => x.size)
    Try.prog.types[(169 : Nat)])) ((0 : Nat) + (1 : Nat) + (1 : Nat) + (1 : Nat) + (1 : Nat) + (1 : Nat))))), SC.int false IntKind.i64 (seenInt IntKind.i64 W (addOpt (addOpt a ((↑y.i :
    Int).toNat * (9 : Nat))) (6 : Nat))) (Bd.w (-9223372036854775808 : Int) (9223372036854775807 : Int) (seenInt_bd IntKind.i64 W (addOpt (addOpt a ((↑y.i : Int).toNat * (fun (x :
    TypeInfo) => x.size) Try.prog.types[(169 : Nat)])) ((0 : Nat) + (1 : Nat) + (1 : Nat) + (1 : Nat) + (1 : Nat) + (1 : Nat) + (1 : Nat))))), SC.int false IntKind.u64 (seenInt
    IntKind.u64 W (addOpt (addOpt a ((↑y.i : Int).toNat * (9 : Nat))) (7 : Nat))) (Bd.w (0 : Int) (18446744073709551615 : Int) (seenInt_bd IntKind.u64 W (addOpt (addOpt a ((↑y.i :
    Int).toNat * (fun (x : TypeInfo) => x.size) Try.prog.types[(169 : Nat)])) ((0 : Nat) + (1 : Nat) + (1 : Nat) + (1 : Nat) + (1 : Nat) + (1 : Nat) + (1 : Nat) + (1 : Nat))))), SC.int
    false IntKind.u64 (seenInt IntKind.u64 W (addOpt (addOpt a ((↑y.i : Int).toNat * (9 : Nat))) (8 : Nat))) (Bd.w (0 : Int) (18446744073709551615 : Int) (seenInt_bd IntKind.u64 W
    (addOpt (addOpt a ((↑y.i : Int).toNat * (fun (x : TypeInfo) => x.size) Try.prog.types[(169 : Nat)])) ((0 : Nat) + (1 : Nat) + (1 : Nat) + (1 : Nat) + (1 : Nat) + (1 : Nat) + (1 :
    Nat) + (1 : Nat) + (1 : Nat)))))]) (ST.node (SV.c (SC.raw (ρ (70 : Nat)))) (ST.node (SV.c (SC.raw (ρ (134 : Nat)))) ST.nil ST.nil) ST.nil) (ST.node (SV.c (SC.raw (ρ (102 : Nat))))
    (ST.node (SV.c (SC.raw (ρ (166 : Nat)))) ST.nil ST.nil) ST.nil)) (ST.node (SV.c (SC.raw (ρ (54 : Nat)))) (ST.node (SV.c (SC.raw (ρ (86 : Nat)))) (ST.node (SV.c (SC.raw (ρ (150 :
    Nat)))) ST.nil ST.nil) ST.nil) (ST.node (SV.c (SC.raw (ρ (118 : Nat)))) ST.nil ST.nil))) (ST.node (SV.c (SC.raw (ρ (30 : Nat)))) (ST.node (SV.c (SC.raw (ρ (46 : Nat)))) (ST.node
    (SV.c (SC.raw (ρ (78 : Nat)))) (ST.node (SV.c (SC.raw (ρ (142 : Nat)))) ST.nil ST.nil) ST.nil) (ST.node (SV.c (SC.raw (ρ (110 : Nat)))) (ST.node (SV.c (SC.raw (ρ (174 : Nat))))
    ST.nil ST.nil) ST.nil)) (ST.node (SV.c (SC.raw (ρ (62 : Nat)))) (ST.node (SV.c (SC.raw (ρ (94 : Nat)))) (ST.node (SV.c (SC.raw (ρ (158 : Nat)))) ST.nil ST.nil) ST.nil) (ST.node
    (SV.c (SC.raw (ρ (126 : Nat)))) ST.nil ST.nil))))))) []) (Mem.mk [((19 : Nat), SO.ext (HO.obj [] y.x)), ((0 : Nat), SO.seen W), ((54 : Nat), SO.cells [SC.int false IntKind.i64
    (seenInt IntKind.i64 W (addOpt (addOpt a ((↑y.i : Int).toNat * (9 : Nat))) (0 : Nat))) Bd.any, SC.int false IntKind.i64 (seenInt IntKind.i64 W (addOpt (addOpt a ((↑y.i : Int).toNat
    * (9 : Nat))) (1 : Nat))) Bd.any, SC.int false IntKind.i64 (seenInt IntKind.i64 W (addOpt (addOpt a ((↑y.i : Int).toNat * (9 : Nat))) (2 : Nat))) Bd.any, SC.sliv (seenSli W (addOpt
    (addOpt a ((↑y.i : Int).toNat * (9 : Nat))) ((0 : Nat) + (1 : Nat) + (1 : Nat) + (1 : Nat)))).fst false (seenSli W (addOpt (addOpt a ((↑y.i : Int).toNat * (9 : Nat))) (3 :
    Nat))).snd.fst (seenSli W (addOpt (addOpt a ((↑y.i : Int).toNat * (9 : Nat))) (3 : Nat))).snd.snd, SC.int false IntKind.u64 h, SC.int false IntKind.u64 b, SC.int false IntKind.i64
    (seenInt IntKind.i64 W (addOpt (addOpt a ((↑y.i : Int).toNat * (9 : Nat))) (6 : Nat))) Bd.any, SC.int false IntKind.u64 (seenInt IntKind.u64 W (addOpt (addOpt a ((↑y.i : Int).toNat
    * (9 : Nat))) (7 : Nat))) Bd.any, SC.int false IntKind.u64 (seenInt IntKind.u64 W (addOpt (addOpt a ((↑y.i : Int).toNat * (9 : Nat))) (8 : Nat))) Bd.any] (169 : Nat)), ((61 : Nat),
    SO.vals (E := XP) (164 : TypeId) (2 : Nat) q cap_1 (blkW hf nf z))] (62 : Nat)) Scr.nil ∧ True) ∧ True) ∧ True) ∧ True) ∧ ∀ (y_1 : ASC W) (ρ_1 : Nat → Value), (∃ (z : Nat → Value),
    ArInv (y.x.ar z)) → ∀ (l : List (Nat × Nat × List Nat)), l.Perm y.x.bs → (((IntKind.u64.wrap y_1.k % (8 : Int) == (0 : Int)) = true → (∀ (j : Nat), j < y_1.wl → Seen IntKind.u64 W
    (addOpt y_1.wa j)) ∧ y_1.wl ≤ (9223372036854775807 : Nat) ∧ ((∃ (z : Nat → Value), ArInv (y.x.ar z)) → ∃ (y_2 : ASS (y.i + (1 : Nat))), ρ (4 : Nat) = ρ (4 : Nat) ∧ ρ (15 : Nat) = ρ
    (15 : Nat) ∧ ρ (16 : Nat) = ρ (16 : Nat) ∧ ρ (18 : Nat) = ρ (18 : Nat) ∧ ρ (19 : Nat) = ρ (19 : Nat) ∧ a = a ∧ len = len ∧ cap = cap ∧ (↑len : Int) = (↑len : Int) ∧ ρ (118 : Nat) =
    ρ (118 : Nat) ∧ ρ (119 : Nat) = ρ (119 : Nat) ∧ ρ (120 : Nat) = ρ (120 : Nat) ∧ W = W ∧ y_2.s = false ∧ (↑y.i : Int) = (↑y.i : Int) ∧ y_2.x = y.x.layX y_1.wl (natsOf y_1.wl fun (j :
    Nat) => seenInt IntKind.u64 W (addOpt y_1.wa j)) ∧ y_2.c = PA.mk y.x.cap y.x.used y.x.peak y.x.faults y.x.births y.x.fx y.x.high y.x.us y.x.bk l y.x.t ∧ True)) ∧ ((IntKind.u64.wrap
    y_1.k % (8 : Int) == (0 : Int)) = false → ((IntKind.u64.wrap y_1.k % (8 : Int) == (1 : Int)) = true → (∀ (j : Nat), j < y_1.wl → Seen IntKind.u64 W (addOpt y_1.wa j)) ∧ y_1.wl ≤
    (9223372036854775807 : Nat) ∧ ((∃ (z : Nat → Value), ArInv (y.x.ar z)) → ∃ (y_2 : ASS (y.i + (1 : Nat))), ρ (4 : Nat) = ρ (4 : Nat) ∧ ρ (15 : Nat) = ρ (15 : Nat) ∧ ρ (16 : Nat) = ρ
    (16 : Nat) ∧ ρ (18 : Nat) = ρ (18 : Nat) ∧ ρ (19 : Nat) = ρ (19 : Nat) ∧ a = a ∧ len = len ∧ cap = cap ∧ (↑len : Int) = (↑len : Int) ∧ ρ (118 : Nat) = ρ (118 : Nat) ∧ ρ (119 : Nat)
    = ρ (119 : Nat) ∧ ρ (120 : Nat) = ρ (120 : Nat) ∧ W = W ∧ y_2.s = false ∧ (↑y.i : Int) = (↑y.i : Int) ∧ y_2.x = y.x.layX y_1.wl (natsOf y_1.wl fun (j : Nat) => seenInt IntKind.u64 W
    (addOpt y_1.wa j)) ∧ y_2.c = PA.mk y.x.cap y.x.used y.x.peak y.x.faults y.x.births y.x.fx y.x.high y.x.us y.x.bk l y.x.t ∧ True)) ∧ ((IntKind.u64.wrap y_1.k % (8 : Int) == (1 :
    Int)) = false → ((IntKind.u64.wrap y_1.k % (8 : Int) == (2 : Int)) = true → ((0 : Int) ≤ y_1.h ∧ y_1.h < (18446744073709551616 : Int)) ∧ ((∃ (z : Nat → Value), ArInv (y.x.ar z)) → ∃
    (y_2 : ASS (y.i + (1 : Nat))), ρ (4 : Nat) = ρ (4 : Nat) ∧ ρ (15 : Nat) = ρ (15 : Nat) ∧ ρ (16 : Nat) = ρ (16 : Nat) ∧ ρ (18 : Nat) = ρ (18 : Nat) ∧ ρ (19 : Nat) = ρ (19 : Nat) ∧ a
    = a ∧ len = len ∧ cap = cap ∧ (↑len : Int) = (↑len : Int) ∧ ρ (118 : Nat) = ρ (118 : Nat) ∧ ρ (119 : Nat) = ρ (119 : Nat) ∧ ρ (120 : Nat) = ρ (120 : Nat) ∧ W = W ∧ y_2.s = false ∧
    (↑y.i : Int) = (↑y.i : Int) ∧ y_2.x = y.x.frX y_1.h ∧ y_2.c = PA.mk y.x.cap y.x.used y.x.peak y.x.faults y.x.births y.x.fx y.x.high y.x.us y.x.bk l y.x.t ∧ True)) ∧
    ((IntKind.u64.wrap y_1.k % (8 : Int) == (2 : Int)) = false → ((IntKind.u64.wrap y_1.k % (8 : Int) == (3 : Int)) = true → (((0 : Int) ≤ y_1.b ∧ y_1.b < (18446744073709551616 : Int))
    ∧ y.x.fx.length = (9 : Nat)) ∧ ((∃ (z : Nat → Value), ArInv (y.x.ar z)) → ∃ (y_2 : ASS (y.i + (1 : Nat))), ρ (4 : Nat) = ρ (4 : Nat) ∧ ρ (15 : Nat) = ρ (15 : Nat) ∧ ρ (16 : Nat) = ρ
    (16 : Nat) ∧ ρ (18 : Nat) = ρ (18 : Nat) ∧ ρ (19 : Nat) = ρ (19 : Nat) ∧ a = a ∧ len = len ∧ cap = cap ∧ (↑len : Int) = (↑len : Int) ∧ ρ (118 : Nat) = ρ (118 : Nat) ∧ ρ (119 : Nat)
    = ρ (119 : Nat) ∧ ρ (120 : Nat) = ρ (120 : Nat) ∧ W = W ∧ y_2.s = true ∧ (↑y.i : Int) = (↑y.i : Int) ∧ y_2.x = y.x.rdX y_1.b y_1.xa ∧ y_2.c = PA.mk y.x.cap y.x.used y.x.peak
    y.x.faults y.x.births y.x.fx y.x.high y.x.us y.x.bk l y.x.t ∧ True)) ∧ ((IntKind.u64.wrap y_1.k % (8 : Int) == (3 : Int)) = false → ((IntKind.u64.wrap y_1.k % (8 : Int) == (4 :
    Int)) = true → ((((0 : Int) ≤ y_1.b ∧ y_1.b < (18446744073709551616 : Int)) ∧ y.x.fx.length = (9 : Nat)) ∧ (0 : Int) ≤ y_1.n ∧ y_1.n < (18446744073709551616 : Int)) ∧ ((∃ (z : Nat →
    Value), ArInv (y.x.ar z)) → ∃ (y_2 : ASS (y.i + (1 : Nat))), ρ (4 : Nat) = ρ (4 : Nat) ∧ ρ (15 : Nat) = ρ (15 : Nat) ∧ ρ (16 : Nat) = ρ (16 : Nat) ∧ ρ (18 : Nat) = ρ (18 : Nat) ∧ ρ
    (19 : Nat) = ρ (19 : Nat) ∧ a = a ∧ len = len ∧ cap = cap ∧ (↑len : Int) = (↑len : Int) ∧ ρ (118 : Nat) = ρ (118 : Nat) ∧ ρ (119 : Nat) = ρ (119 : Nat) ∧ ρ (120 : Nat) = ρ (120 :
    Nat) ∧ W = W ∧ y_2.s = (y.x.atE y_1.b y_1.xa != (0 : Int)) ∧ (↑y.i : Int) = (↑y.i : Int) ∧ y_2.x = y.x.wrX y_1.b y_1.xa y_1.n ∧ y_2.c = PA.mk y.x.cap y.x.used y.x.peak y.x.faults
    y.x.births y.x.fx y.x.high y.x.us y.x.bk l y.x.t ∧ True)) ∧ ((IntKind.u64.wrap y_1.k % (8 : Int) == (4 : Int)) = false → ((IntKind.u64.wrap y_1.k % (8 : Int) == (5 : Int)) = true →
    ((((0 : Int) ≤ y_1.b ∧ y_1.b < (18446744073709551616 : Int)) ∧ y.x.fx.length = (9 : Nat)) ∧ ((0 : Int) ≤ y_1.m ∧ y_1.m < (18446744073709551616 : Int)) ∧ (0 : Int) ≤ y_1.n) ∧ ((∃ (z
    : Nat → Value), ArInv (y.x.ar z)) → ∃ (y_2 : ASS (y.i + (1 : Nat))), ρ (4 : Nat) = ρ (4 : Nat) ∧ ρ (15 : Nat) = ρ (15 : Nat) ∧ ρ (16 : Nat) = ρ (16 : Nat) ∧ ρ (18 : Nat) = ρ (18 :
    Nat) ∧ ρ (19 : Nat) = ρ (19 : Nat) ∧ a = a ∧ len = len ∧ cap = cap ∧ (↑len : Int) = (↑len : Int) ∧ ρ (118 : Nat) = ρ (118 : Nat) ∧ ρ (119 : Nat) = ρ (119 : Nat) ∧ ρ (120 : Nat) = ρ
    (120 : Nat) ∧ W = W ∧ y_2.s = !y.x.swB y_1.b y_1.xa y_1.n ∧ (↑y.i : Int) = (↑y.i : Int) ∧ y_2.x = y.x.swX y_1.b y_1.xa y_1.n y_1.m ∧ y_2.c = PA.mk y.x.cap y.x.used y.x.peak
    y.x.faults y.x.births y.x.fx y.x.high y.x.us y.x.bk l y.x.t ∧ True)) ∧ ((IntKind.u64.wrap y_1.k % (8 : Int) == (5 : Int)) = false → ((IntKind.u64.wrap y_1.k % (8 : Int) == (6 :
    Int)) = true → ((((0 : Int) ≤ y_1.b ∧ y_1.b < (18446744073709551616 : Int)) ∧ y.x.fx.length = (9 : Nat)) ∧ (0 : Int) ≤ y_1.n ∧ y_1.n < (18446744073709551616 : Int)) ∧ ((∃ (z : Nat →
    Value), ArInv (y.x.ar z)) → ((y.x.atE y_1.b y_1.xa != (0 : Int)) = true → ∃ (y_2 : ASS (y.i + (1 : Nat))), ρ (4 : Nat) = ρ (4 : Nat) ∧ ρ (15 : Nat) = ρ (15 : Nat) ∧ ρ (16 : Nat) = ρ
    (16 : Nat) ∧ ρ (18 : Nat) = ρ (18 : Nat) ∧ ρ (19 : Nat) = ρ (19 : Nat) ∧ a = a ∧ len = len ∧ cap = cap ∧ (↑len : Int) = (↑len : Int) ∧ ρ (118 : Nat) = ρ (118 : Nat) ∧ ρ (119 : Nat)
    = ρ (119 : Nat) ∧ ρ (120 : Nat) = ρ (120 : Nat) ∧ W = W ∧ y_2.s = true ∧ (↑y.i : Int) = (↑y.i : Int) ∧ y_2.x = y.x.adX y_1.b y_1.xa y_1.n ∧ y_2.c = PA.mk y.x.cap y.x.used y.x.peak
    y.x.faults y.x.births y.x.fx y.x.high y.x.us y.x.bk l y.x.t ∧ True) ∧ ((y.x.atE y_1.b y_1.xa != (0 : Int)) = false → ∃ (y_2 : ASS (y.i + (1 : Nat))), ρ (4 : Nat) = ρ (4 : Nat) ∧ ρ
    (15 : Nat) = ρ (15 : Nat) ∧ ρ (16 : Nat) = ρ (16 : Nat) ∧ ρ (18 : Nat) = ρ (18 : Nat) ∧ ρ (19 : Nat) = ρ (19 : Nat) ∧ a = a ∧ len = len ∧ cap = cap ∧ (↑len : Int) = (↑len : Int) ∧ ρ
    (118 : Nat) = ρ (118 : Nat) ∧ ρ (119 : Nat) = ρ (119 : Nat) ∧ ρ (120 : Nat) = ρ (120 : Nat) ∧ W = W ∧ y_2.s = (y_1.n == (0 : Int)) ∧ (↑y.i : Int) = (↑y.i : Int) ∧ y_2.x = y.x.adX
    y_1.b y_1.xa y_1.n ∧ y_2.c = PA.mk y.x.cap y.x.used y.x.peak y.x.faults y.x.births y.x.fx y.x.high y.x.us y.x.bk l y.x.t ∧ True))) ∧ ((IntKind.u64.wrap y_1.k % (8 : Int) == (6 :
    Int)) = false → ∃ (y_2 : ASS (y.i + (1 : Nat))), ρ (4 : Nat) = ρ (4 : Nat) ∧ ρ (15 : Nat) = ρ (15 : Nat) ∧ ρ (16 : Nat) = ρ (16 : Nat) ∧ ρ (18 : Nat) = ρ (18 : Nat) ∧ ρ (19 : Nat) =
    ρ (19 : Nat) ∧ a = a ∧ len = len ∧ cap = cap ∧ (↑len : Int) = (↑len : Int) ∧ ρ (118 : Nat) = ρ (118 : Nat) ∧ ρ (119 : Nat) = ρ (119 : Nat) ∧ ρ (120 : Nat) = ρ (120 : Nat) ∧ W = W ∧
    y_2.s = false ∧ (↑y.i : Int) = (↑y.i : Int) ∧ y_2.x = y.x ∧ y_2.c = PA.mk y.x.cap y.x.used y.x.peak y.x.faults y.x.births y.x.fx y.x.high y.x.us y.x.bk l y.x.t ∧ True)))))))) ∧ ∀
    (y_2 : ASS (y.i + (1 : Nat))) (ρ_2 : Nat → Value), ((y_2.s = true → ((!alikeP y_2.x y_2.c) = true → false = true ∧ some W = some W) ∧ ((!alikeP y_2.x y_2.c) = false → ∃ (y_3 :
    Unit), y_2.s = y_2.s ∧ ρ_2 (11 : Nat) = ρ_2 (11 : Nat) ∧ ρ_2 (14 : Nat) = ρ_2 (14 : Nat) ∧ ρ (15 : Nat) = ρ (15 : Nat) ∧ ρ (16 : Nat) = ρ (16 : Nat) ∧ ρ (18 : Nat) = ρ (18 : Nat) ∧
    ρ (19 : Nat) = ρ (19 : Nat) ∧ a = a ∧ len = len ∧ cap = cap ∧ (↑len : Int) = (↑len : Int) ∧ ρ_2 (48 : Nat) = ρ_2 (48 : Nat) ∧ ρ (118 : Nat) = ρ (118 : Nat) ∧ ρ (119 : Nat) = ρ (119
    : Nat) ∧ ρ (120 : Nat) = ρ (120 : Nat) ∧ W = W ∧ (↑y.i : Int) = (↑y.i : Int) ∧ y_2.x = y_2.x ∧ True)) ∧ (y_2.s = false → ∃ (y_3 : Unit), y_2.s = y_2.s ∧ ρ_2 (11 : Nat) = ρ_2 (11 :
    Nat) ∧ ρ_2 (14 : Nat) = ρ_2 (14 : Nat) ∧ ρ (15 : Nat) = ρ (15 : Nat) ∧ ρ (16 : Nat) = ρ (16 : Nat) ∧ ρ (18 : Nat) = ρ (18 : Nat) ∧ ρ (19 : Nat) = ρ (19 : Nat) ∧ a = a ∧ len = len ∧
    cap = cap ∧ (↑len : Int) = (↑len : Int) ∧ ρ_2 (48 : Nat) = ρ_2 (48 : Nat) ∧ ρ (118 : Nat) = ρ (118 : Nat) ∧ ρ (119 : Nat) = ρ (119 : Nat) ∧ ρ (120 : Nat) = ρ (120 : Nat) ∧ W = W ∧
    (↑y.i : Int) = (↑y.i : Int) ∧ y_2.x = y_2.x ∧ True)) ∧ ∀ (y_3 : Unit) (ρ_3 : Nat → Value), (∃ (z : Nat → Value), ArInv (y_2.x.ar z)) → ∀ (q : Nat) (hf : Nat → Int) (nf : Nat → Nat),
    (∃ (l : List (Nat × List Nat)), l.Perm (List.map (fun (b : Nat × Nat × List Nat) => b.snd) y_2.x.bs) ∧ q = (List.take (Int.toNat (300 : Int)) l).length ∧ ∀ (i : Nat), i < q → hf i =
    (↑(l.getD i ((0 : Nat), [])).fst : Int) ∧ nf i = (l.getD i ((0 : Nat), [])).snd.length) → (q = (0 : Nat) → (∀ (y_4 : BY y_2.x), (∃ (z : (Emb.mk { _u : Unit // y_2.x.bs = [] ∧
    y_2.x.Inv } BY.z).Z), BY.z z = y_4) ∨ (∃ (z : (Emb.mk (BS y_2.x) BY.s).Z), BY.s z = y_4) ∨ False) ∧ (∃ (z : (Emb.mk { _u : Unit // y_2.x.bs = [] ∧ y_2.x.Inv } BY.z).Z), y_2.s =
    y_2.s ∧ ρ_2 (11 : Nat) = ρ_2 (11 : Nat) ∧ ρ_2 (14 : Nat) = ρ_2 (14 : Nat) ∧ ρ (19 : Nat) = ρ (19 : Nat) ∧ a = a ∧ len = len ∧ cap = cap ∧ (↑len : Int) = (↑len : Int) ∧ ρ_2 (48 :
    Nat) = ρ_2 (48 : Nat) ∧ W = W ∧ (↑y.i : Int) = (↑y.i : Int) ∧ y_2.x = y_2.x ∧ True) ∧ (∀ (z : (Emb.mk { _u : Unit // y_2.x.bs = [] ∧ y_2.x.Inv } BY.z).Z) (ρ : Nat → Value), True ∧
    ((∃ (z : Nat → Value), ArInv (y_2.x.ar z)) → True ∧ ((∃ (z : Nat → Value), ArInv (y_2.x.ar z)) → (((↑y_2.x.bs.length : Int) != (0 : Int)) = true → false = true ∧ some W = some W) ∧
    (((↑y_2.x.bs.length : Int) != (0 : Int)) = false → True ∧ ((∃ (z : Nat → Value), ArInv (y_2.x.ar z)) → (((↑y_2.x.used : Int) != (0 : Int)) = true → false = true ∧ some W = some W) ∧
    (((↑y_2.x.used : Int) != (0 : Int)) = false → ((IntKind.i64.wrap (tlyZ y_2.x.t (0 : Nat) - tlyZ y_2.x.t (1 : Nat)) != (0 : Int)) = true → false = true ∧ some W = some W) ∧
    ((IntKind.i64.wrap (tlyZ y_2.x.t (0 : Nat) - tlyZ y_2.x.t (1 : Nat)) != (0 : Int)) = false → True ∧ ((∃ (z : Nat → Value), ArInv (y_2.x.ar z)) → (decide ((↑y_2.x.peak : Int) < (0 :
    Int)) = true → false = true ∧ some W = some W) ∧ (decide ((↑y_2.x.peak : Int) < (0 : Int)) = false → True ∧ ((∃ (z : Nat → Value), ArInv (y_2.x.ar z)) → True ∧ ((∃ (z : Nat →
    Value), ArInv (y_2.x.ar z)) → (decide ((↑y_2.x.used : Int) > (↑y_2.x.cap : Int)) = true → false = true ∧ some W = some W) ∧ (decide ((↑y_2.x.used : Int) > (↑y_2.x.cap : Int)) =
    false → ∃ (y_4 : ASE (y.i + (1 : Nat))), a = a ∧ len = len ∧ cap = cap ∧ (↑len : Int) = (↑len : Int) ∧ W = W ∧ (↑y.i : Int) = (↑y.i : Int) ∧ y_4.x = y_2.x ∧ True)))))))))))) ∧ (∀ (z
    : (Emb.mk (BS y_2.x) BY.s).Z) (ρ_4 : Nat → Value), (decide ((↑z.i : Int) < (↑z.q : Int)) = true → ((0 : Int) ≤ (↑z.i : Int) ∧ (↑z.i : Int) < (↑z.q : Int)) ∧ addO true (0 : Nat)
    (↑z.i : Int).toNat < z.q ∧ ((-9223372036854775808 : Int) ≤ (↑z.i : Int) + (1 : Int) ∧ (↑z.i : Int) + (1 : Int) ≤ (9223372036854775807 : Int)) ∧ ((-9223372036854775808 : Int) ≤
    (↑(sumN z.nf z.i) : Int) + (↑(z.5 (addO true (0 : Nat) (↑z.i : Int).toNat)) : Int) ∧ (↑(sumN z.nf z.i) : Int) + (↑(z.5 (addO true (0 : Nat) (↑z.i : Int).toNat)) : Int) ≤
    (9223372036854775807 : Int)) ∧ (((0 : Int) ≤ z.4 (addO true (0 : Nat) (↑z.i : Int).toNat) ∧ z.4 (addO true (0 : Nat) (↑z.i : Int).toNat) < (18446744073709551616 : Int)) ∧ ((∃ (z :
    Nat → Value), ArInv (y_2.x.ar z)) → W = W ∧ z.4 (addO true (0 : Nat) (↑z.i : Int).toNat) = z.4 (addO true (0 : Nat) (↑z.i : Int).toNat) ∧ (z.z (addO true (0 : Nat) (↑z.i :
    Int).toNat)).fst = (z.z (addO true (0 : Nat) (↑z.i : Int).toNat)).fst ∧ z.5 (addO true (0 : Nat) (↑z.i : Int).toNat) = z.5 (addO true (0 : Nat) (↑z.i : Int).toNat) ∧ (z.6 (addO true
    (0 : Nat) (↑z.i : Int).toNat)).snd = (z.6 (addO true (0 : Nat) (↑z.i : Int).toNat)).snd ∧ (((↑(y_2.x.szV (z.4 (addO true (0 : Nat) (↑z.i : Int).toNat))) : Int) != (↑(z.5 (addO true
    (0 : Nat) (↑z.i : Int).toNat)) : Int)) = true → false = true ∧ some W = some W) ∧ (((↑(y_2.x.szV (z.4 (addO true (0 : Nat) (↑z.i : Int).toNat))) : Int) != (↑(z.5 (addO true (0 :
    Nat) (↑z.i : Int).toNat)) : Int)) = false → ((-9223372036854775808 : Int) ≤ (↑z.i : Int) + (1 : Int) ∧ (↑z.i : Int) + (1 : Int) ≤ (9223372036854775807 : Int)) ∧ ∃ (z_1 : (Emb.mk (BS
    y_2.x) BY.s).Z), muB (BY.s z_1) < muB (BY.s z) ∧ y_2.s = y_2.s ∧ ρ_2 (11 : Nat) = ρ_2 (11 : Nat) ∧ ρ_2 (14 : Nat) = ρ_2 (14 : Nat) ∧ ρ (19 : Nat) = ρ (19 : Nat) ∧ a = a ∧ len = len
    ∧ cap = cap ∧ (↑len : Int) = (↑len : Int) ∧ ρ_2 (48 : Nat) = ρ_2 (48 : Nat) ∧ W = W ∧ (↑z_1.i : Int) = (↑z.i : Int) + (1 : Int) ∧ (↑(sumN z_1.nf z_1.i) : Int) = (↑(sumN z.nf z.i) :
    Int) + (↑(z.5 (addO true (0 : Nat) (↑z.i : Int).toNat)) : Int) ∧ (0 : Nat) = (0 : Nat) ∧ z_1.q = z.q ∧ z_1.cap = z.cap ∧ (↑z_1.q : Int) = (↑z.q : Int) ∧ (↑z_1.i : Int) = (↑z.i :
    Int) + (1 : Int) ∧ (↑y.i : Int) = (↑y.i : Int) ∧ y_2.x = y_2.x ∧ (z_1.q = z.q ∧ z_1.cap = z.cap ∧ ∀ (i : Nat), i < z_1.q → [Value.int IntKind.u64 (z_1.4 i), Value.slice (z_1.z
    i).fst (z_1.5 i) (z_1.6 i).snd] = [Value.int IntKind.u64 (z.4 i), Value.slice (z.z i).fst (z.5 i) (z.6 i).snd]) ∧ True))) ∧ True) ∧ (decide ((↑z.i : Int) < (↑z.q : Int)) = false →
    True ∧ ((∃ (z : Nat → Value), ArInv (y_2.x.ar z)) → True ∧ ((∃ (z : Nat → Value), ArInv (y_2.x.ar z)) → (((↑y_2.x.bs.length : Int) != (↑z.i : Int)) = true → false = true ∧ some W =
    some W) ∧ (((↑y_2.x.bs.length : Int) != (↑z.i : Int)) = false → True ∧ ((∃ (z : Nat → Value), ArInv (y_2.x.ar z)) → (((↑y_2.x.used : Int) != (↑(sumN z.nf z.i) : Int)) = true → false
    = true ∧ some W = some W) ∧ (((↑y_2.x.used : Int) != (↑(sumN z.nf z.i) : Int)) = false → ((IntKind.i64.wrap (tlyZ y_2.x.t (0 : Nat) - tlyZ y_2.x.t (1 : Nat)) != (↑z.i : Int)) = true
    → false = true ∧ some W = some W) ∧ ((IntKind.i64.wrap (tlyZ y_2.x.t (0 : Nat) - tlyZ y_2.x.t (1 : Nat)) != (↑z.i : Int)) = false → True ∧ ((∃ (z : Nat → Value), ArInv (y_2.x.ar z))
    → (decide ((↑y_2.x.peak : Int) < (↑(sumN z.nf z.i) : Int)) = true → false = true ∧ some W = some W) ∧ (decide ((↑y_2.x.peak : Int) < (↑(sumN z.nf z.i) : Int)) = false → True ∧ ((∃
    (z : Nat → Value), ArInv (y_2.x.ar z)) → True ∧ ((∃ (z : Nat → Value), ArInv (y_2.x.ar z)) → (decide ((↑y_2.x.used : Int) > (↑y_2.x.cap : Int)) = true → false = true ∧ some W = some
    W) ∧ (decide ((↑y_2.x.used : Int) > (↑y_2.x.cap : Int)) = false → ∃ (y_4 : ASE (y.i + (1 : Nat))), a = a ∧ len = len ∧ cap = cap ∧ (↑len : Int) = (↑len : Int) ∧ W = W ∧ (↑y.i : Int)
    = (↑y.i : Int) ∧ y_4.x = y_2.x ∧ True))))))))))))) ∧ True) ∧ ∀ (cap_1 : Nat) (z : Nat → Option Addr × Nat), q ≤ cap_1 → (∀ (y_4 : BY y_2.x), (∃ (z : (Emb.mk { _u : Unit // y_2.x.bs
    = [] ∧ y_2.x.Inv } BY.z).Z), BY.z z = y_4) ∨ (∃ (z : (Emb.mk (BS y_2.x) BY.s).Z), BY.s z = y_4) ∨ False) ∧ (∃ (z_1 : (Emb.mk (BS y_2.x) BY.s).Z), y_2.s = y_2.s ∧ ρ_2 (11 : Nat) =
    ρ_2 (11 : Nat) ∧ ρ_2 (14 : Nat) = ρ_2 (14 : Nat) ∧ ρ (19 : Nat) = ρ (19 : Nat) ∧ a = a ∧ len = len ∧ cap = cap ∧ (↑len : Int) = (↑len : Int) ∧ ρ_2 (48 : Nat) = ρ_2 (48 : Nat) ∧ W =
    W ∧ (↑z_1.i : Int) = (0 : Int) ∧ (↑(sumN z_1.nf z_1.i) : Int) = (0 : Int) ∧ (0 : Nat) = (0 : Nat) ∧ z_1.q = q ∧ z_1.cap = cap_1 ∧ (↑z_1.q : Int) = (↑q : Int) ∧ (↑z_1.i : Int) = (0 :
    Int) ∧ (↑y.i : Int) = (↑y.i : Int) ∧ y_2.x = y_2.x ∧ (z_1.q = q ∧ z_1.cap = cap_1 ∧ ∀ (i : Nat), i < z_1.q → [Value.int IntKind.u64 (z_1.4 i), Value.slice (z_1.z i).fst (z_1.5 i)
    (z_1.6 i).snd] = [Value.int IntKind.u64 (hf i), Value.slice (z i).fst (nf i) (z i).snd]) ∧ True) ∧ (∀ (z : (Emb.mk { _u : Unit // y_2.x.bs = [] ∧ y_2.x.Inv } BY.z).Z) (ρ : Nat →
    Value), True ∧ ((∃ (z : Nat → Value), ArInv (y_2.x.ar z)) → True ∧ ((∃ (z : Nat → Value), ArInv (y_2.x.ar z)) → (((↑y_2.x.bs.length : Int) != (0 : Int)) = true → false = true ∧ some
    W = some W) ∧ (((↑y_2.x.bs.length : Int) != (0 : Int)) = false → True ∧ ((∃ (z : Nat → Value), ArInv (y_2.x.ar z)) → (((↑y_2.x.used : Int) != (0 : Int)) = true → false = true ∧ some
    W = some W) ∧ (((↑y_2.x.used : Int) != (0 : Int)) = false → ((IntKind.i64.wrap (tlyZ y_2.x.t (0 : Nat) - tlyZ y_2.x.t (1 : Nat)) != (0 : Int)) = true → false = true ∧ some W = some
    W) ∧ ((IntKind.i64.wrap (tlyZ y_2.x.t (0 : Nat) - tlyZ y_2.x.t (1 : Nat)) != (0 : Int)) = false → True ∧ ((∃ (z : Nat → Value), ArInv (y_2.x.ar z)) → (decide ((↑y_2.x.peak : Int) <
    (0 : Int)) = true → false = true ∧ some W = some W) ∧ (decide ((↑y_2.x.peak : Int) < (0 : Int)) = false → True ∧ ((∃ (z : Nat → Value), ArInv (y_2.x.ar z)) → True ∧ ((∃ (z : Nat →
    Value), ArInv (y_2.x.ar z)) → (decide ((↑y_2.x.used : Int) > (↑y_2.x.cap : Int)) = true → false = true ∧ some W = some W) ∧ (decide ((↑y_2.x.used : Int) > (↑y_2.x.cap : Int)) =
    false → ∃ (y_4 : ASE (y.i + (1 : Nat))), a = a ∧ len = len ∧ cap = cap ∧ (↑len : Int) = (↑len : Int) ∧ W = W ∧ (↑y.i : Int) = (↑y.i : Int) ∧ y_4.x = y_2.x ∧ True)))))))))))) ∧ (∀ (z
    : (Emb.mk (BS y_2.x) BY.s).Z) (ρ_4 : Nat → Value), (decide ((↑z.i : Int) < (↑z.q : Int)) = true → ((0 : Int) ≤ (↑z.i : Int) ∧ (↑z.i : Int) < (↑z.q : Int)) ∧ addO true (0 : Nat)
    (↑z.i : Int).toNat < z.q ∧ ((-9223372036854775808 : Int) ≤ (↑z.i : Int) + (1 : Int) ∧ (↑z.i : Int) + (1 : Int) ≤ (9223372036854775807 : Int)) ∧ ((-9223372036854775808 : Int) ≤
    (↑(sumN z.nf z.i) : Int) + (↑(z.5 (addO true (0 : Nat) (↑z.i : Int).toNat)) : Int) ∧ (↑(sumN z.nf z.i) : Int) + (↑(z.5 (addO true (0 : Nat) (↑z.i : Int).toNat)) : Int) ≤
    (9223372036854775807 : Int)) ∧ (((0 : Int) ≤ z.4 (addO true (0 : Nat) (↑z.i : Int).toNat) ∧ z.4 (addO true (0 : Nat) (↑z.i : Int).toNat) < (18446744073709551616 : Int)) ∧ ((∃ (z :
    Nat → Value), ArInv (y_2.x.ar z)) → W = W ∧ z.4 (addO true (0 : Nat) (↑z.i : Int).toNat) = z.4 (addO true (0 : Nat) (↑z.i : Int).toNat) ∧ (z.z (addO true (0 : Nat) (↑z.i :
    Int).toNat)).fst = (z.z (addO true (0 : Nat) (↑z.i : Int).toNat)).fst ∧ z.5 (addO true (0 : Nat) (↑z.i : Int).toNat) = z.5 (addO true (0 : Nat) (↑z.i : Int).toNat) ∧ (z.6 (addO true
    (0 : Nat) (↑z.i : Int).toNat)).snd = (z.6 (addO true (0 : Nat) (↑z.i : Int).toNat)).snd ∧ (((↑(y_2.x.szV (z.4 (addO true (0 : Nat) (↑z.i : Int).toNat))) : Int) != (↑(z.5 (addO true
    (0 : Nat) (↑z.i : Int).toNat)) : Int)) = true → false = true ∧ some W = some W) ∧ (((↑(y_2.x.szV (z.4 (addO true (0 : Nat) (↑z.i : Int).toNat))) : Int) != (↑(z.5 (addO true (0 :
    Nat) (↑z.i : Int).toNat)) : Int)) = false → ((-9223372036854775808 : Int) ≤ (↑z.i : Int) + (1 : Int) ∧ (↑z.i : Int) + (1 : Int) ≤ (9223372036854775807 : Int)) ∧ ∃ (z_1 : (Emb.mk (BS
    y_2.x) BY.s).Z), muB (BY.s z_1) < muB (BY.s z) ∧ y_2.s = y_2.s ∧ ρ_2 (11 : Nat) = ρ_2 (11 : Nat) ∧ ρ_2 (14 : Nat) = ρ_2 (14 : Nat) ∧ ρ (19 : Nat) = ρ (19 : Nat) ∧ a = a ∧ len = len
    ∧ cap = cap ∧ (↑len : Int) = (↑len : Int) ∧ ρ_2 (48 : Nat) = ρ_2 (48 : Nat) ∧ W = W ∧ (↑z_1.i : Int) = (↑z.i : Int) + (1 : Int) ∧ (↑(sumN z_1.nf z_1.i) : Int) = (↑(sumN z.nf z.i) :
    Int) + (↑(z.5 (addO true (0 : Nat) (↑z.i : Int).toNat)) : Int) ∧ (0 : Nat) = (0 : Nat) ∧ z_1.q = z.q ∧ z_1.cap = z.cap ∧ (↑z_1.q : Int) = (↑z.q : Int) ∧ (↑z_1.i : Int) = (↑z.i :
    Int) + (1 : Int) ∧ (↑y.i : Int) = (↑y.i : Int) ∧ y_2.x = y_2.x ∧ (z_1.q = z.q ∧ z_1.cap = z.cap ∧ ∀ (i : Nat), i < z_1.q → [Value.int IntKind.u64 (z_1.4 i), Value.slice (z_1.z
    i).fst (z_1.5 i) (z_1.6 i).snd] = [Value.int IntKind.u64 (z.4 i), Value.slice (z.z i).fst (z.5 i) (z.6 i).snd]) ∧ True))) ∧ True) ∧ (decide ((↑z.i : Int) < (↑z.q : Int)) = false →
    True ∧ ((∃ (z : Nat → Value), ArInv (y_2.x.ar z)) → True ∧ ((∃ (z : Nat → Value), ArInv (y_2.x.ar z)) → (((↑y_2.x.bs.length : Int) != (↑z.i : Int)) = true → false = true ∧ some W =
    some W) ∧ (((↑y_2.x.bs.length : Int) != (↑z.i : Int)) = false → True ∧ ((∃ (z : Nat → Value), ArInv (y_2.x.ar z)) → (((↑y_2.x.used : Int) != (↑(sumN z.nf z.i) : Int)) = true → false
    = true ∧ some W = some W) ∧ (((↑y_2.x.used : Int) != (↑(sumN z.nf z.i) : Int)) = false → ((IntKind.i64.wrap (tlyZ y_2.x.t (0 : Nat) - tlyZ y_2.x.t (1 : Nat)) != (↑z.i : Int)) = true
    → false = true ∧ some W = some W) ∧ ((IntKind.i64.wrap (tlyZ y_2.x.t (0 : Nat) - tlyZ y_2.x.t (1 : Nat)) != (↑z.i : Int)) = false → True ∧ ((∃ (z : Nat → Value), ArInv (y_2.x.ar z))
    → (decide ((↑y_2.x.peak : Int) < (↑(sumN z.nf z.i) : Int)) = true → false = true ∧ some W = some W) ∧ (decide ((↑y_2.x.peak : Int) < (↑(sumN z.nf z.i) : Int)) = false → True ∧ ((∃
    (z : Nat → Value), ArInv (y_2.x.ar z)) → True ∧ ((∃ (z : Nat → Value), ArInv (y_2.x.ar z)) → (decide ((↑y_2.x.used : Int) > (↑y_2.x.cap : Int)) = true → false = true ∧ some W = some
    W) ∧ (decide ((↑y_2.x.used : Int) > (↑y_2.x.cap : Int)) = false → ∃ (y_4 : ASE (y.i + (1 : Nat))), a = a ∧ len = len ∧ cap = cap ∧ (↑len : Int) = (↑len : Int) ∧ W = W ∧ (↑y.i : Int)
    = (↑y.i : Int) ∧ y_4.x = y_2.x ∧ True))))))))))))) ∧ True) ∧ ∀ (y_1 : ASE (y.i + (1 : Nat))) (ρ : Nat → Value), ((-9223372036854775808 : Int) ≤ (↑y.i : Int) + (1 : Int) ∧ (↑y.i :
    Int) + (1 : Int) ≤ (9223372036854775807 : Int)) ∧ ∃ (y' : ASY len), len - y'.i < len - y.i ∧ a = a ∧ len = len ∧ cap = cap ∧ (↑len : Int) = (↑len : Int) ∧ W = W ∧ (↑y'.i : Int) =
    (↑y.i : Int) + (1 : Int) ∧ y'.x = y_1.x ∧ True) ∧ (decide ((↑y.i : Int) < (↑len : Int)) = false → true = true ∧ some W = some W)) ∧ (c < (0 : Int) ∨ (60000 : Int) < c → true = true
    ∧ some W = some W))) := by
  kernel_rfl
theorem arenaSums_run (W : World) (a : Option Addr) (len cap : Nat) (c : Int) (hc : OpsOk W a len) : Run (callN Try.prog (tblAS : List (Smry Try.prog XP)) (fun _ t => Nat.beq t 47 || Nat.beq t 157) 100 20 14 [.c (.int false .i64 c), .c (.sliv a false len cap)] ⟨[(0, .seen W)], 1⟩ (asScr W len) (fun v m _ => retSeen W v m)) := by
  constructor
  rw [arenaSums_vc]
  have e0 : ∀ n : Nat, addO true 0 ((n : Nat) : Int).toNat = n := fun n => by rw [addO_eq, Int.toNat_natCast, Nat.zero_add]
  refine ⟨hc, fun b hb => ⟨fun _ => ⟨rfl, rfl⟩, fun hbf => ⟨fun hcap => ⟨⟨⟨0, PA.new c.toNat, Nat.zero_le _, ASI.start⟩, ?_⟩, fun y ρ => ⟨fun hlt => ⟨?_, ?_⟩, fun hge => ?_⟩⟩, fun _ => ⟨rfl, rfl⟩⟩⟩⟩
  · repeat' first | exact rfl | exact trivial | apply And.intro
  · have hlt' : y.i < len := by have := of_decide_eq_true hlt; omega
    have hlen := hb hbf
    have hsome := hc.some (by omega)
    have hops := hc.ops y.i hlt'
    have hlens := hc.lens y.i hlt'
    have hwords := hc.words y.i hlt'
    refine ⟨?_, ?_, ?_, ?_⟩
    · exact ⟨by omega, by omega, hsome⟩
    · exact hops
    · repeat' first
        | (refine fun (K : KO XP) => ?_; simp only [eq_self, true_and, and_true]; first | done | exact id; done)
        | (refine fun (K : KO XP) => ?_; simp only [and_imp]; intros; repeat' (first | assumption | apply And.intro | exact trivial); done)
        | with_reducible apply And.intro
        | with_reducible rfl
        | exact trivial
        | (intro _)
      all_goals first
        | exact (seenInt_bd .u64 W _).1
        | exact Int.lt_of_le_of_lt (seenInt_bd .u64 W _).2 (by decide)
        | exact blk_few (x := y.x) ‹∃ l : List (Nat × List Nat), _›
        | exact blk_ex (x := y.x) ‹∃ z : Nat → Value, _› ‹∃ l : List (Nat × List Nat), _›
        | (refine ⟨ascMk W (addOpt a (y.i * 9)) ‹((0 : Int) ≤ _ ∧ _) ∧ _› hlens hwords, ?_⟩; repeat' first | rfl | trivial | apply And.intro)
    · intro z ρ1 hi l hl
      refine ⟨?_, ?_⟩
      · refine ⟨fun _ => ⟨z.hw, z.hl, fun _ => ⟨⟨y.x.layX z.wl (natsOf z.wl fun j => seenInt .u64 W (addOpt z.wa j)), { y.x with bs := l }, false, y.ok.lay z.wl _, fun h => by cases h⟩, (by repeat' first | exact rfl | exact trivial | apply And.intro)⟩⟩, fun _ => ⟨fun _ => ⟨z.hw, z.hl, fun _ => ⟨⟨y.x.layX z.wl (natsOf z.wl fun j => seenInt .u64 W (addOpt z.wa j)), { y.x with bs := l }, false, y.ok.lay z.wl _, fun h => by cases h⟩, (by repeat' first | exact rfl | exact trivial | apply And.intro)⟩⟩, fun _ => ⟨fun _ => ⟨z.hh, fun _ => ⟨⟨y.x.frX z.h, { y.x with bs := l }, false, y.ok.free z.h, fun h => by cases h⟩, (by repeat' first | exact rfl | exact trivial | apply And.intro)⟩⟩, fun _ => ?_⟩⟩⟩
        refine ⟨fun _ => ⟨⟨z.hb, y.ok.fx⟩, fun _ => ⟨⟨y.x.rdX z.b z.xa, { y.x with bs := l }, true, y.ok.len (alen_rdX y.x z.b z.xa), fun _ => asAl (same_rdX y.x z.b z.xa) hl⟩, (by repeat' first | exact rfl | exact trivial | apply And.intro)⟩⟩, fun _ => ?_⟩
        refine ⟨fun _ => ⟨⟨⟨z.hb, y.ok.fx⟩, z.hn⟩, fun _ => ⟨⟨y.x.wrX z.b z.xa z.n, { y.x with bs := l }, (y.x.atE z.b z.xa != 0), y.ok.len (alen_wrX y.x z.b z.xa z.n), fun h => asAl (same_wrX (by simpa using h)) hl⟩, (by repeat' first | exact rfl | exact trivial | apply And.intro)⟩⟩, fun _ => ?_⟩
        refine ⟨fun _ => ⟨⟨⟨z.hb, y.ok.fx⟩, z.hm, z.hn.1⟩, fun _ => ⟨⟨y.x.swX z.b z.xa z.n z.m, { y.x with bs := l }, !y.x.swB z.b z.xa z.n, y.ok.len (alen_swX y.x z.b z.xa z.n z.m), fun h => asAl (same_swX (by simpa using h)) hl⟩, (by repeat' first | exact rfl | exact trivial | apply And.intro)⟩⟩, fun _ => ?_⟩
        refine ⟨fun _ => ⟨⟨⟨z.hb, y.ok.fx⟩, z.hn⟩, fun hi => ⟨fun he => ⟨⟨y.x.adX z.b z.xa z.n, { y.x with bs := l }, true, y.ok.len (alen_adX y.x z.b z.xa z.n), fun _ => asAl (same_adX hi y.ok.fx (.inl (by simpa using he))) hl⟩, (by repeat' first | exact rfl | exact trivial | apply And.intro)⟩, fun he => ⟨⟨y.x.adX z.b z.xa z.n, { y.x with bs := l }, (z.n == 0), y.ok.len (alen_adX y.x z.b z.xa z.n), fun h => asAl (same_adX hi y.ok.fx (.inr (by simpa using h))) hl⟩, (by repeat' first | exact rfl | exact trivial | apply And.intro)⟩⟩⟩, fun _ => ⟨⟨y.x, { y.x with bs := l }, false, y.ok.len (Alen.refl _), fun h => by cases h⟩, (by repeat' first | exact rfl | exact trivial | apply And.intro)⟩⟩
      · intro s ρ2
        have hfew : s.x.bs.length ≤ 300 := by have := s.ok.few; omega
        refine ⟨⟨fun hs => ⟨fun h => ?_, fun _ => ⟨(), (by repeat' first | exact rfl | exact trivial | apply And.intro)⟩⟩, fun _ => ⟨(), (by repeat' first | exact rfl | exact trivial | apply And.intro)⟩⟩, fun _ ρ3 hi2 q hf nf hbl => ⟨fun hq => ?_, fun cap1 z1 hqc => ?_⟩⟩
        · rw [s.al hs] at h; cases h
        · have hq0 := (blk_all hi2 hfew hbl).1
          have hnil : s.x.bs = [] := List.eq_nil_of_length_eq_zero (by omega)
          refine ⟨?_, ⟨⟨(), hnil, hi2⟩, (by repeat' first | exact rfl | exact trivial | apply And.intro)⟩, ?_, ?_, trivial⟩
          · intro y4; cases y4 with | z u => exact .inl ⟨u, rfl⟩ | s u => exact .inr (.inl ⟨u, rfl⟩)
          · refine fun (zz : {_u : Unit // s.x.bs = [] ∧ s.x.Inv}) ρ4 => ?_
            obtain ⟨_, hz, hzi⟩ := zz
            have hu : s.x.used = 0 := by rw [PA.Inv.sum hzi, hz]; rfl
            have e1 : ((s.x.bs.length : Nat) : Int) = 0 := by rw [hz]; rfl
            have e2 : ((s.x.used : Nat) : Int) = 0 := by rw [hu]; rfl
            have e3 := tly_wrap (t := s.x.t) s.ok.t (by omega)
            have e4 := PA.Inv.usedLe hzi
            have e5 := PA.Inv.capOk hzi
            clear hbl
            repeat' first
              | with_reducible exact rfl
              | exact trivial
              | apply And.intro
              | intro _
            all_goals first
              | omega
              | exact ⟨⟨s.x, s.ok⟩, (by repeat' first | exact rfl | exact trivial | apply And.intro)⟩
              | (exfalso; simp only [bne_iff_ne, ne_eq, decide_eq_true_eq, gt_iff_lt] at *; omega)
          · refine fun (p : BS s.x) ρ4 => ?_
            have hall := blk_all p.inv hfew p.bl
            have e3 := tly_wrap (t := s.x.t) s.ok.t (by omega)
            have e4 := PA.Inv.usedLe p.inv
            have e5 := PA.Inv.capOk p.inv
            have hpi := p.hi
            clear hbl
            refine ⟨fun hlt => ?_, fun hge => ?_⟩
            · have hip : p.i < p.q := by have := of_decide_eq_true hlt; omega
              have hsz := blk_size p.inv p.bl hip
              have hsum := sumN_succ p.nf p.i
              have hmono := sumN_mono p.nf (show p.i + 1 ≤ p.q from hip)
              have hh := hdl_lt p.inv p.bl p.i hip
              have hmx : p.q ≤ 300 := by omega
              simp only [e0, hsz]
              repeat' first
                | with_reducible exact rfl
                | exact trivial
                | apply And.intro
                | intro _
              all_goals first
                | omega
                | exact absurd (show ((p.nf p.i : Int) != (p.nf p.i : Int)) = true by assumption) (by simp)
                | exact ⟨⟨s.x, s.ok⟩, (by repeat' first | exact rfl | exact trivial | apply And.intro)⟩
                | (refine ⟨⟨p.i + 1, p.q, p.cap, p.hf, p.nf, p.z, hip, p.inv, p.bl⟩, ?_⟩; repeat' first | exact rfl | exact trivial | apply And.intro | (intro _ _; exact rfl) | (show ((p.i + 1 : Nat) : Int) = (p.i : Int) + 1; omega) | (show p.q - (p.i + 1) < p.q - p.i; omega) | (show ((sumN p.nf (p.i + 1) : Nat) : Int) = _; rw [sumN_succ]; omega))
                | (exfalso; simp only [bne_iff_ne, ne_eq, decide_eq_true_eq, gt_iff_lt] at *; omega)
            · have hiq : p.i = p.q := by have := of_decide_eq_false hge; omega
              have e1 : ((s.x.bs.length : Nat) : Int) = (p.i : Int) := by omega
              have e2 : ((s.x.used : Nat) : Int) = ((sumN p.nf p.i : Nat) : Int) := by rw [hiq, hall.2]
              repeat' first
                | with_reducible exact rfl
                | exact trivial
                | apply And.intro
                | intro _
              all_goals first
                | omega
                | exact absurd (show ((p.nf p.i : Int) != (p.nf p.i : Int)) = true by assumption) (by simp)
                | exact ⟨⟨s.x, s.ok⟩, (by repeat' first | exact rfl | exact trivial | apply And.intro)⟩
                | (exfalso; simp only [bne_iff_ne, ne_eq, decide_eq_true_eq, gt_iff_lt] at *; omega)
        · refine ⟨?_, ⟨⟨0, q, cap1, hf, nf, z1, Nat.zero_le _, hi2, hbl⟩, (by repeat' first | exact rfl | exact trivial | apply And.intro | (intro _ _; exact rfl))⟩, ?_, ?_, trivial⟩
          · intro y4; cases y4 with | z u => exact .inl ⟨u, rfl⟩ | s u => exact .inr (.inl ⟨u, rfl⟩)
          · refine fun (zz : {_u : Unit // s.x.bs = [] ∧ s.x.Inv}) ρ4 => ?_
            obtain ⟨_, hz, hzi⟩ := zz
            have hu : s.x.used = 0 := by rw [PA.Inv.sum hzi, hz]; rfl
            have e1 : ((s.x.bs.length : Nat) : Int) = 0 := by rw [hz]; rfl
            have e2 : ((s.x.used : Nat) : Int) = 0 := by rw [hu]; rfl
            have e3 := tly_wrap (t := s.x.t) s.ok.t (by omega)
            have e4 := PA.Inv.usedLe hzi
            have e5 := PA.Inv.capOk hzi
            clear hbl
            repeat' first
              | with_reducible exact rfl
              | exact trivial
              | apply And.intro
              | intro _
            all_goals first
              | omega
              | exact ⟨⟨s.x, s.ok⟩, (by repeat' first | exact rfl | exact trivial | apply And.intro)⟩
              | (exfalso; simp only [bne_iff_ne, ne_eq, decide_eq_true_eq, gt_iff_lt] at *; omega)
          · refine fun (p : BS s.x) ρ4 => ?_
            have hall := blk_all p.inv hfew p.bl
            have e3 := tly_wrap (t := s.x.t) s.ok.t (by omega)
            have e4 := PA.Inv.usedLe p.inv
            have e5 := PA.Inv.capOk p.inv
            have hpi := p.hi
            clear hbl
            refine ⟨fun hlt => ?_, fun hge => ?_⟩
            · have hip : p.i < p.q := by have := of_decide_eq_true hlt; omega
              have hsz := blk_size p.inv p.bl hip
              have hsum := sumN_succ p.nf p.i
              have hmono := sumN_mono p.nf (show p.i + 1 ≤ p.q from hip)
              have hh := hdl_lt p.inv p.bl p.i hip
              have hmx : p.q ≤ 300 := by omega
              simp only [e0, hsz]
              repeat' first
                | with_reducible exact rfl
                | exact trivial
                | apply And.intro
                | intro _
              all_goals first
                | omega
                | exact absurd (show ((p.nf p.i : Int) != (p.nf p.i : Int)) = true by assumption) (by simp)
                | exact ⟨⟨s.x, s.ok⟩, (by repeat' first | exact rfl | exact trivial | apply And.intro)⟩
                | (refine ⟨⟨p.i + 1, p.q, p.cap, p.hf, p.nf, p.z, hip, p.inv, p.bl⟩, ?_⟩; repeat' first | exact rfl | exact trivial | apply And.intro | (intro _ _; exact rfl) | (show ((p.i + 1 : Nat) : Int) = (p.i : Int) + 1; omega) | (show p.q - (p.i + 1) < p.q - p.i; omega) | (show ((sumN p.nf (p.i + 1) : Nat) : Int) = _; rw [sumN_succ]; omega))
                | (exfalso; simp only [bne_iff_ne, ne_eq, decide_eq_true_eq, gt_iff_lt] at *; omega)
            · have hiq : p.i = p.q := by have := of_decide_eq_false hge; omega
              have e1 : ((s.x.bs.length : Nat) : Int) = (p.i : Int) := by omega
              have e2 : ((s.x.used : Nat) : Int) = ((sumN p.nf p.i : Nat) : Int) := by rw [hiq, hall.2]
              repeat' first
                | with_reducible exact rfl
                | exact trivial
                | apply And.intro
                | intro _
              all_goals first
                | omega
                | exact absurd (show ((p.nf p.i : Int) != (p.nf p.i : Int)) = true by assumption) (by simp)
                | exact ⟨⟨s.x, s.ok⟩, (by repeat' first | exact rfl | exact trivial | apply And.intro)⟩
                | (exfalso; simp only [bne_iff_ne, ne_eq, decide_eq_true_eq, gt_iff_lt] at *; omega)
  · intro z ρ
    have hmx := hc.max
    have hlt2 := of_decide_eq_true hlt
    exact ⟨by omega, ⟨y.i + 1, z.x, by omega, z.ok⟩, by show len - (y.i + 1) < len - y.i; omega, (by repeat' first | exact rfl | exact trivial | apply And.intro)⟩
  · exact ⟨rfl, rfl⟩
end Go.Proofs.Ytnhmeepifockgaa
