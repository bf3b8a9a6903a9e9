/- The statements of layer 3: first answers true, by the executor over arenas that are known. -/
import Derived.Test.YtnhmeepifockgaaParT
import Derived.Test.YtnhmeepifockgaaBaseC
set_option linter.all false
namespace Go.Proofs.Ytnhmeepifockgaa
open Go Go.RowKit
set_option maxRecDepth 1000000
set_option maxHeartbeats 0
def tbl03 : List (Smry Try.prog XP) := [newP, layK, readC.K, writeC.K, addC.K, swapC.K, freeC.K, usedC.K, peakC.K, lenC.K, sizeC.K, faultsP, wordsR, blocksK]
/-- What the executor leaves to be shown of roundelay/roundelaylaw03.first, written out. -/
theorem first03_vc  : (callN Try.prog (tbl03 : List (Smry Try.prog XP)) (fun _ _ => false) 100 20 90 [] ⟨[], 0⟩ (.know) (fun v _ _ => retTrue v)) = (
    ∀ (cap : Nat), (9 : Nat) ≤ cap → true = true ∧ ∀ (cap : Nat) (hf : Nat → Int) (nf : Nat → Nat) (z : Nat → Option Addr × Nat), true = true) := by
  kernel_rfl
theorem first03_run  (hc : True) : Run (callN Try.prog (tbl03 : List (Smry Try.prog XP)) (fun _ _ => false) 100 20 90 [] ⟨[], 0⟩ (.know) (fun v _ _ => retTrue v)) := by
  constructor
  rw [first03_vc]
  repeat' first
    | with_reducible apply And.intro
    | with_reducible exact trivial
    | with_reducible exact fun (h : true = false) => Bool.noConfusion h
    | with_reducible exact fun (h : false = true) => Bool.noConfusion h
    | with_reducible exact fun _ h => h
    | intro _
    | with_reducible exact Eq.refl _
    | decide
end Go.Proofs.Ytnhmeepifockgaa

/- Are operations upon arenas too many to be asked? Either answer; if not, there are a hundred at most. -/
namespace Go.Proofs.Ytnhmeepifockgaa
open Go Go.RowKit
set_option maxRecDepth 1000000
set_option maxHeartbeats 0
def opK : List Kd := [.int .i64, .int .i64, .int .i64, .sli, .int .u64, .int .u64, .int .i64, .int .u64, .int .u64]
/-- The words of an operation: a slice. -/
def opW (W : World) (a : Option Addr) (j : Nat) : Option Addr × Nat × Nat := seenSli W (addOpt (addOpt a (j * 9)) 3)
structure OpsOk (W : World) (a : Option Addr) (len : Nat) : Prop where
  some : 0 < len → a.isSome = true
  ops : ∀ j, j < len → SeenL W (addOpt a (j * 9)) 0 opK
  lens : ∀ j, j < len → (opW W a j).2.1 ≤ 9223372036854775807
  words : ∀ j, j < len → ∀ i, i < (opW W a j).2.1 → Seen .u64 W (addOpt (opW W a j).1 i)
  max : len ≤ 9223372036854775807
structure GY3 (len : Nat) where
  i : Nat
  n : Int
  hi : i ≤ len
def retB3 (W : World) (len : Nat) (v : SV) (m : Mem XP) : Prop := match v with
  | .c (.boo _ b) => (b = false → len ≤ 100) ∧ seenOf m.hp = some W
  | _ => Stuck 871
def grS3 (len : Nat) : Scr XP := .inv (liveL [0, 2, 3, 5, 6, 7, 8]) [] (GY3 len) (fun _ y => ([(3, .c (.int false .i64 y.n)), (8, .c (.int false .i64 (y.i : Int)))], [])) (fun y => len - y.i) fun _ => .both (.both .nil .nil) .nil
/-- What the executor leaves to be shown of roundelay/roundelaylaw03.great, written out. -/
theorem great3_vc (W : World) (a : Option Addr) (len cap : Nat) : (callN Try.prog ([] : List (Smry Try.prog XP)) (fun _ t => Nat.beq t 16 || Nat.beq t 17) 100 20 91 [.c (.sliv a false len cap)] ⟨[(0, .seen W)], 100⟩ (grS3 len) (fun v m _ => retB3 W len v m)) = (
    (∃ (y : GY3 len), a = a ∧ len = len ∧ cap = cap ∧ a = a ∧ len = len ∧ cap = cap ∧ (↑len : Int) = (↑len : Int) ∧ W = W ∧ y.n = (0 : Int) ∧ (↑y.i : Int) = (0 : Int) ∧ True) ∧ ∀ (y :
    GY3 len) (ρ : Nat → Value), (decide ((↑y.i : Int) < (↑len : Int)) = true → ((0 : Int) ≤ (↑y.i : Int) ∧ (↑y.i : Int) < (↑len : Int) ∧ a.isSome = true) ∧ ((∃ (x : Addr), addOpt
    (addOpt a ((↑y.i : Int).toNat * (9 : Nat))) (0 : Nat) = some x ∧ W.cell? x = some (Value.int IntKind.i64 (seenInt IntKind.i64 W (addOpt (addOpt a ((↑y.i : Int).toNat * (9 : Nat)))
    (0 : Nat))))) ∧ (∃ (x : Addr), addOpt (addOpt a ((↑y.i : Int).toNat * (9 : Nat))) ((0 : Nat) + (1 : Nat)) = some x ∧ W.cell? x = some (Value.int IntKind.i64 (seenInt IntKind.i64 W
    (addOpt (addOpt a ((↑y.i : Int).toNat * (9 : Nat))) (1 : Nat))))) ∧ (∃ (x : Addr), addOpt (addOpt a ((↑y.i : Int).toNat * (9 : Nat))) ((0 : Nat) + (1 : Nat) + (1 : Nat)) = some x ∧
    W.cell? x = some (Value.int IntKind.i64 (seenInt IntKind.i64 W (addOpt (addOpt a ((↑y.i : Int).toNat * (9 : Nat))) (2 : Nat))))) ∧ (∃ (x : Addr), addOpt (addOpt a ((↑y.i :
    Int).toNat * (9 : Nat))) ((0 : Nat) + (1 : Nat) + (1 : Nat) + (1 : Nat)) = some x ∧ W.cell? x = some (Value.slice (seenSli W (addOpt (addOpt a ((↑y.i : Int).toNat * (9 : Nat))) ((0
    : Nat) + (1 : Nat) + (1 : Nat) + (1 : Nat)))).fst (seenSli W (addOpt (addOpt a ((↑y.i : Int).toNat * (9 : Nat))) (3 : Nat))).snd.fst (seenSli W (addOpt (addOpt a ((↑y.i : Int).toNat
    * (9 : Nat))) (3 : Nat))).snd.snd)) ∧ (∃ (x : Addr), addOpt (addOpt a ((↑y.i : Int).toNat * (9 : Nat))) ((0 : Nat) + (1 : Nat) + (1 : Nat) + (1 : Nat) + (1 : Nat)) = some x ∧
    W.cell? x = some (Value.int IntKind.u64 (seenInt IntKind.u64 W (addOpt (addOpt a ((↑y.i : Int).toNat * (9 : Nat))) (4 : Nat))))) ∧ (∃ (x : Addr), addOpt (addOpt a ((↑y.i :
    Int).toNat * (9 : Nat))) ((0 : Nat) + (1 : Nat) + (1 : Nat) + (1 : Nat) + (1 : Nat) + (1 : Nat)) = some x ∧ W.cell? x = some (Value.int IntKind.u64 (seenInt IntKind.u64 W (addOpt
    (addOpt a ((↑y.i : Int).toNat * (9 : Nat))) (5 : Nat))))) ∧ (∃ (x : Addr), addOpt (addOpt a ((↑y.i : Int).toNat * (9 : Nat))) ((0 : Nat) + (1 : Nat) + (1 : Nat) + (1 : Nat) + (1 :
    Nat) + (1 : Nat) + (1 : Nat)) = some x ∧ W.cell? x = some (Value.int IntKind.i64 (seenInt IntKind.i64 W (addOpt (addOpt a ((↑y.i : Int).toNat * (9 : Nat))) (6 : Nat))))) ∧ (∃ (x :
    Addr), addOpt (addOpt a ((↑y.i : Int).toNat * (9 : Nat))) ((0 : Nat) + (1 : Nat) + (1 : Nat) + (1 : Nat) + (1 : Nat) + (1 : Nat) + (1 : Nat) + (1 : Nat)) = some x ∧ W.cell? x = some
    (Value.int IntKind.u64 (seenInt IntKind.u64 W (addOpt (addOpt a ((↑y.i : Int).toNat * (9 : Nat))) (7 : Nat))))) ∧ (∃ (x : Addr), addOpt (addOpt a ((↑y.i : Int).toNat * (9 : Nat)))
    ((0 : Nat) + (1 : Nat) + (1 : Nat) + (1 : Nat) + (1 : Nat) + (1 : Nat) + (1 : Nat) + (1 : Nat) + (1 : Nat)) = some x ∧ W.cell? x = some (Value.int IntKind.u64 (seenInt IntKind.u64 W
    (addOpt (addOpt a ((↑y.i : Int).toNat * (9 : Nat))) (8 : Nat))))) ∧ True) ∧ (decide (IntKind.i64.wrap (y.n + IntKind.i64.wrap ((20 : Int) + (↑(seenSli W (addOpt (addOpt a ((↑y.i :
    Int).toNat * (9 : Nat))) (3 : Nat))).snd.fst : Int))) > (5000 : Int)) = true → (true = false → len ≤ (100 : Nat)) ∧ some W = some W) ∧ (decide (IntKind.i64.wrap (y.n +
    IntKind.i64.wrap ((20 : Int) + (↑(seenSli W (addOpt (addOpt a ((↑y.i : Int).toNat * (9 : Nat))) (3 : Nat))).snd.fst : Int))) > (5000 : Int)) = false → ((-9223372036854775808 : Int)
    ≤ (↑y.i : Int) + (1 : Int) ∧ (↑y.i : Int) + (1 : Int) ≤ (9223372036854775807 : Int)) ∧ ∃ (y' : GY3 len), len - y'.i < len - y.i ∧ a = a ∧ len = len ∧ cap = cap ∧ a = a ∧ len = len ∧
    cap = cap ∧ (↑len : Int) = (↑len : Int) ∧ W = W ∧ y'.n = IntKind.i64.wrap (y.n + IntKind.i64.wrap ((20 : Int) + (↑(seenSli W (addOpt (addOpt a ((↑y.i : Int).toNat * (9 : Nat))) (3 :
    Nat))).snd.fst : Int))) ∧ (↑y'.i : Int) = (↑y.i : Int) + (1 : Int) ∧ True)) ∧ (decide ((↑y.i : Int) < (↑len : Int)) = false → (decide ((↑len : Int) > (100 : Int)) = false → len ≤
    (100 : Nat)) ∧ some W = some W)) := by
  kernel_rfl
theorem great3_run (W : World) (a : Option Addr) (len cap : Nat) (hc : OpsOk W a len) : Run (callN Try.prog ([] : List (Smry Try.prog XP)) (fun _ t => Nat.beq t 16 || Nat.beq t 17) 100 20 91 [.c (.sliv a false len cap)] ⟨[(0, .seen W)], 100⟩ (grS3 len) (fun v m _ => retB3 W len v m)) := by
  constructor
  rw [great3_vc]
  obtain ⟨h1, h2, h4, h5, h3⟩ := hc
  refine ⟨⟨⟨0, 0, Nat.zero_le _⟩, ?_⟩, fun y ρ => ⟨fun hlt => ?_, fun hge => ⟨fun h => ?_, rfl⟩⟩⟩
  · repeat' first
      | with_reducible apply And.intro
      | with_reducible exact trivial
      | with_reducible exact Eq.refl _
      | exact rfl
  · have hlt' : y.i < len := by have := of_decide_eq_true hlt; omega
    have hk := h2 y.i hlt'
    simp only [Int.toNat_natCast]
    refine ⟨⟨by omega, by omega, h1 (by omega)⟩, hk, ?_⟩
    refine ⟨fun _ => ⟨fun h => Bool.noConfusion h, trivial⟩, fun h => ?_⟩
    refine ⟨⟨by omega, by omega⟩, ⟨⟨y.i + 1, IntKind.i64.wrap (y.n + IntKind.i64.wrap (20 + ((seenSli W (addOpt (addOpt a (y.i * 9)) 3)).2.1 : Int))), by omega⟩, ?_⟩⟩
    repeat' first
      | with_reducible apply And.intro
      | with_reducible exact trivial
      | with_reducible exact Eq.refl _
      | (show len - (y.i + 1) < len - y.i; omega)
      | (show ((y.i + 1 : Nat) : Int) = (y.i : Int) + 1; omega)
      | exact rfl
  · have := of_decide_eq_false h
    omega
def great3S : Smry Try.prog XP where
  g := 91
  run := fun args m K => match args with
    | [.c (.sliv a _ len cap)] => match m.hp.get 0 with
      | some (.seen W) => OpsOk W a len ∧ ∀ b : Bool, (b = false → len ≤ 100) → K (.c (.boo false b)) m
      | _ => Stuck 872
    | _ => Stuck 873
  ok := fun args m K hr => by
    split at hr <;> try exact hr.elim
    rename_i a ll len cap
    split at hr <;> try exact hr.elim
    rename_i W hW
    obtain ⟨hc, hr⟩ := hr
    intro ν w R w0 Hs HK
    have H1 := Hs
    rw [SH.den_get ν hW, Assn.mul_assoc] at H1
    have H2 : Sat w ((⟨[(0, .seen W)], 100⟩ : Mem XP).hp.den ν * ((m.hp.del 0).den ν * R)) := by
      refine H1.cast ?_
      simp only [SH.den, SO.den]
      rw [Assn.mul_comm (old W) (1 : Assn), Assn.one_mul]
    refine (callN_ok namesOk mixed _ _ _ _ _ _ ⟨[(0, .seen W)], 100⟩ _ _ (great3_run W a len cap hc).out ν w _ w0 H2 HK).mono ?_
    rintro e w' ⟨v, m', s', ξ, hv, _, _, he, hs, hk⟩
    unfold retB3 at hv
    split at hv
    · rename_i l b
      obtain ⟨hb, hv⟩ := hv
      obtain ⟨Q, hQ⟩ := seenOf_den (ν := ξ) hv
      rw [hQ, Assn.mul_assoc] at hs
      refine ⟨_, m, ν, hr b hb, Agree.refl _ _, Nat.le_refl _, by rw [he]; rfl, ?_, hk⟩
      rw [SH.den_get ν hW, Assn.mul_assoc]
      exact hs.right
    · exact hv.elim
end Go.Proofs.Ytnhmeepifockgaa

/- An operation upon arenas, with the handle that it means. -/
namespace Go.Proofs.Ytnhmeepifockgaa
open Go Go.RowKit
set_option maxRecDepth 1000000
set_option maxHeartbeats 0
def ofR3 (hp : List (Nat × SO XP)) (k at' o xa n m : Int) (wa : Option Addr) (wl wc : Nat) (v : SV) (M : Mem XP) : Prop := match v with
  | .agg [_, _, _, _, .int _ .u64 h _, .int _ .u64 b _, _, _, _] => ((0 ≤ h ∧ h < 18446744073709551616) ∧ 0 ≤ b ∧ b < 18446744073709551616) ∧ outM (.agg [.int false .i64 k, .int false .i64 at', .int false .i64 o, .sliv wa false wl wc, .int false .u64 h, .int false .u64 b, .int false .i64 xa, .int false .u64 n, .int false .u64 m]) hp v M
  | _ => Stuck 872
/-- What the executor leaves to be shown of roundelay/roundelaylaw03.of, written out. -/
theorem of3s_vc (k at' o h b xa n m : Int) (wa : Option Addr) (wl wc : Nat) (q cap : Nat) (hf : Nat → Int) (nf : Nat → Nat) (z : Nat → Option Addr × Nat) : (callN Try.prog ([] : List (Smry Try.prog XP)) (fun _ _ => false) 100 20 92 [.agg [.int false .i64 k, .int false .i64 at', .int false .i64 o, .sliv wa false wl wc, .int false .u64 h, .int false .u64 b, .int false .i64 xa, .int false .u64 n, .int false .u64 m], .c (.sli 0 2 true 0 false q cap)] ⟨[(0, .vals 164 2 q cap (blkW hf nf z))], 100⟩ (.both (.both .nil .nil) .nil) (fun u M _ => ofR3 [(0, .vals 164 2 q cap (blkW hf nf z))] k at' o xa n m wa wl wc u M)) = (
    (decide (o > (0 : Int)) = true → (decide (o ≤ (↑q : Int)) = true → (q = q ∧ cap = cap ∧ blkW hf nf z = blkW hf nf z ∧ ((-9223372036854775808 : Int) ≤ o - (1 : Int) ∧ o - (1 : Int) ≤
    (9223372036854775807 : Int)) ∧ ((0 : Int) ≤ o - (1 : Int) ∧ o - (1 : Int) < (↑q : Int)) ∧ addO true (0 : Nat) (o - (1 : Int)).toNat < q ∧ (q = q ∧ cap = cap ∧ blkW hf nf z = blkW hf
    nf z ∧ ((-9223372036854775808 : Int) ≤ o - (1 : Int) ∧ o - (1 : Int) ≤ (9223372036854775807 : Int)) ∧ ((0 : Int) ≤ o - (1 : Int) ∧ o - (1 : Int) < (↑q : Int)) ∧ addO true (0 : Nat)
    (o - (1 : Int)).toNat < q ∧ (q = q ∧ cap = cap ∧ blkW hf nf z = blkW hf nf z ∧ ((((0 : Int) ≤ hf (addO true (0 : Nat) (o - (1 : Int)).toNat) ∧ hf (addO true (0 : Nat) (o - (1 :
    Int)).toNat) < (18446744073709551616 : Int)) ∧ (0 : Int) ≤ hf (addO true (0 : Nat) (o - (1 : Int)).toNat) ∧ hf (addO true (0 : Nat) (o - (1 : Int)).toNat) < (18446744073709551616 :
    Int)) ∧ k = k ∧ at' = at' ∧ o = o ∧ wa = wa ∧ wl = wl ∧ wc = wc ∧ hf (addO true (0 : Nat) (o - (1 : Int)).toNat) = hf (addO true (0 : Nat) (o - (1 : Int)).toNat) ∧ hf (addO true (0
    : Nat) (o - (1 : Int)).toNat) = hf (addO true (0 : Nat) (o - (1 : Int)).toNat) ∧ xa = xa ∧ n = n ∧ m = m ∧ (q = q ∧ cap = cap ∧ ∀ (i : Nat), i < q → [Value.int IntKind.u64 (hf i),
    Value.slice (z i).fst (nf i) (z i).snd] = [Value.int IntKind.u64 (hf i), Value.slice (z i).fst (nf i) (z i).snd]) ∧ True) ∧ True) ∧ True) ∧ True) ∧ (∀ (K : KO XP), q = q ∧ cap = cap
    ∧ blkW hf nf z = blkW hf nf z ∧ ((-9223372036854775808 : Int) ≤ o - (1 : Int) ∧ o - (1 : Int) ≤ (9223372036854775807 : Int)) ∧ ((0 : Int) ≤ o - (1 : Int) ∧ o - (1 : Int) < (↑q :
    Int)) ∧ addO true (0 : Nat) (o - (1 : Int)).toNat < q ∧ (q = q ∧ cap = cap ∧ blkW hf nf z = blkW hf nf z ∧ ((-9223372036854775808 : Int) ≤ o - (1 : Int) ∧ o - (1 : Int) ≤
    (9223372036854775807 : Int)) ∧ ((0 : Int) ≤ o - (1 : Int) ∧ o - (1 : Int) < (↑q : Int)) ∧ addO true (0 : Nat) (o - (1 : Int)).toNat < q ∧ (q = q ∧ cap = cap ∧ blkW hf nf z = blkW hf
    nf z ∧ K (SF.mk (33 : Nat) (ST.node (SV.agg [SC.int false IntKind.i64 k, SC.int false IntKind.i64 at', SC.int false IntKind.i64 o, SC.sliv wa false wl wc, SC.int false IntKind.u64
    h, SC.int false IntKind.u64 b, SC.int false IntKind.i64 xa, SC.int false IntKind.u64 n, SC.int false IntKind.u64 m]) (ST.node (SV.c (SC.sli (0 : Nat) (2 : Nat) true (0 : Nat) false
    q cap)) (ST.node (SV.tup []) (ST.node (SV.c (SC.boo false (decide (o > (0 : Int))))) (ST.node (SV.c (SC.sli (0 : Nat) (2 : Nat) true (0 : Nat) false q cap)) (ST.node (SV.c (SC.ptr
    (100 : Nat) (5 : Nat))) ST.nil ST.nil) ST.nil) (ST.node (SV.c (SC.ptr (100 : Nat) (2 : Nat))) ST.nil ST.nil)) (ST.node (SV.c (SC.sli (0 : Nat) (2 : Nat) true (0 : Nat) false q cap))
    (ST.node (SV.c (SC.elp (0 : Nat) (addO true (0 : Nat) (o - (1 : Int)).toNat) (2 : Nat) (0 : Nat))) ST.nil ST.nil) (ST.node (SV.c (SC.elp (0 : Nat) (addO true (0 : Nat) (o - (1 :
    Int)).toNat) (2 : Nat) (0 : Nat))) ST.nil ST.nil))) (ST.node (SV.c (SC.ptr (100 : Nat) (2 : Nat))) (ST.node (SV.c (SC.ptr (100 : Nat) (2 : Nat))) (ST.node (SV.c (SC.int false
    IntKind.i64 o)) ST.nil ST.nil) (ST.node (SV.c (SC.int false IntKind.i64 (o - (1 : Int)))) ST.nil ST.nil)) (ST.node (SV.c (SC.boo false (decide (o ≤ (↑q : Int))))) (ST.node (SV.c
    (SC.int false IntKind.u64 (hf (addO true (0 : Nat) (o - (1 : Int)).toNat)))) ST.nil ST.nil) (ST.node (SV.c (SC.ptr (100 : Nat) (4 : Nat))) ST.nil ST.nil)))) (ST.node (SV.c (SC.ptr
    (100 : Nat) (0 : Nat))) (ST.node (SV.c (SC.ptr (101 : Nat) (0 : Nat))) (ST.node (SV.c (SC.boo true true)) (ST.node (SV.c (SC.ptr (100 : Nat) (2 : Nat))) (ST.node (SV.tup []) ST.nil
    ST.nil) ST.nil) (ST.node (SV.c (SC.int false IntKind.i64 o)) ST.nil ST.nil)) (ST.node (SV.c (SC.int false IntKind.i64 (↑q : Int))) (ST.node (SV.c (SC.elp (0 : Nat) (addO true (0 :
    Nat) (o - (1 : Int)).toNat) (2 : Nat) (0 : Nat))) ST.nil ST.nil) (ST.node (SV.c (SC.int false IntKind.u64 (hf (addO true (0 : Nat) (o - (1 : Int)).toNat)))) ST.nil ST.nil)))
    (ST.node (SV.c (SC.int false IntKind.i64 o)) (ST.node (SV.c (SC.int false IntKind.i64 o)) (ST.node (SV.c (SC.int false IntKind.i64 (o - (1 : Int)))) ST.nil ST.nil) (ST.node (SV.c
    (SC.elp (0 : Nat) (addO true (0 : Nat) (o - (1 : Int)).toNat) (2 : Nat) (0 : Nat))) ST.nil ST.nil)) (ST.node (SV.c (SC.boo true true)) (ST.node (SV.c (SC.sli (0 : Nat) (2 : Nat)
    true (0 : Nat) false q cap)) ST.nil ST.nil) (ST.node (SV.c (SC.ptr (100 : Nat) (5 : Nat))) ST.nil ST.nil))))) []) (Mem.mk [((0 : Nat), SO.vals (OfNat.ofNat (164 : Nat)) (2 : Nat) q
    cap (blkW hf nf z)), ((100 : Nat), SO.cells [SC.int false IntKind.i64 k, SC.int false IntKind.i64 at', SC.int false IntKind.i64 o, SC.sliv wa false wl wc, SC.int false IntKind.u64
    (hf (addO true (0 : Nat) (o - (1 : Int)).toNat)), SC.int false IntKind.u64 (hf (addO true (0 : Nat) (o - (1 : Int)).toNat)), SC.int false IntKind.i64 xa, SC.int false IntKind.u64 n,
    SC.int false IntKind.u64 m] (169 : Nat)), ((101 : Nat), SO.cells [SC.int true IntKind.i64 (0 : Int), SC.int true IntKind.i64 (0 : Int), SC.int true IntKind.i64 (0 : Int), SC.nls,
    SC.int true IntKind.u64 (0 : Int), SC.int true IntKind.u64 (0 : Int), SC.int true IntKind.i64 (0 : Int), SC.int true IntKind.u64 (0 : Int), SC.int true IntKind.u64 (0 : Int)] (169 :
    Nat))] (112 : Nat)) Scr.nil ∧ True) ∧ True) ∧ True → q = q ∧ cap = cap ∧ blkW hf nf z = blkW hf nf z ∧ ((-9223372036854775808 : Int) ≤ o - (1 : Int) ∧ o - (1 : Int) ≤
    (9223372036854775807 : Int)) ∧ ((0 : Int) ≤ o - (1 : Int) ∧ o - (1 : Int) < (↑q : Int)) ∧ addO true (0 : Nat) (o - (1 : Int)).toNat < q ∧ (q = q ∧ cap = cap ∧ blkW hf nf z = blkW hf
    nf z ∧ ((-9223372036854775808 : Int) ≤ o - (1 : Int) ∧ o - (1 : Int) ≤ (9223372036854775807 : Int)) ∧ ((0 : Int) ≤ o - (1 : Int) ∧ o - (1 : Int) < (↑q : Int)) ∧ addO true (0 : Nat)
    (o - (1 : Int)).toNat < q ∧ (q = q ∧ cap = cap ∧ blkW hf nf z = blkW hf nf z ∧ K (SF.mk (33 : Nat) (ST.node (SV.agg [SC.int false IntKind.i64 k, SC.int false IntKind.i64 at', SC.int
    false IntKind.i64 o, SC.sliv wa false wl wc, SC.int false IntKind.u64 h, SC.int false IntKind.u64 b, SC.int false IntKind.i64 xa, SC.int false IntKind.u64 n, SC.int false
    IntKind.u64 m]) (ST.node (SV.c (SC.sli (0 : Nat) (2 : Nat) true (0 : Nat) false q cap)) (ST.node (SV.tup []) (ST.node (SV.c (SC.boo false (decide (o > (0 : Int))))) (ST.node (SV.c
    (SC.sli (0 : Nat) (2 : Nat) true (0 : Nat) false q cap)) (ST.node (SV.c (SC.ptr (100 : Nat) (5 : Nat))) ST.nil ST.nil) ST.nil) (ST.node (SV.c (SC.ptr (100 : Nat) (2 : Nat))) ST.nil
    ST.nil)) (ST.node (SV.c (SC.sli (0 : Nat) (2 : Nat) true (0 : Nat) false q cap)) (ST.node (SV.c (SC.elp (0 : Nat) (addO true (0 : Nat) (o - (1 : Int)).toNat) (2 : Nat) (0 : Nat)))
    ST.nil ST.nil) (ST.node (SV.c (SC.elp (0 : Nat) (addO true (0 : Nat) (o - (1 : Int)).toNat) (2 : Nat) (0 : Nat))) ST.nil ST.nil))) (ST.node (SV.c (SC.ptr (100 : Nat) (2 : Nat)))
    (ST.node (SV.c (SC.ptr (100 : Nat) (2 : Nat))) (ST.node (SV.c (SC.int false IntKind.i64 o)) ST.nil ST.nil) (ST.node (SV.c (SC.int false IntKind.i64 (o - (1 : Int)))) ST.nil ST.nil))
    (ST.node (SV.c (SC.boo false (decide (o ≤ (↑q : Int))))) (ST.node (SV.c (SC.int false IntKind.u64 (hf (addO true (0 : Nat) (o - (1 : Int)).toNat)))) ST.nil ST.nil) (ST.node (SV.c
    (SC.ptr (100 : Nat) (4 : Nat))) ST.nil ST.nil)))) (ST.node (SV.c (SC.ptr (100 : Nat) (0 : Nat))) (ST.node (SV.c (SC.ptr (101 : Nat) (0 : Nat))) (ST.node (SV.c (SC.boo true true))
    (ST.node (SV.c (SC.ptr (100 : Nat) (2 : Nat))) (ST.node (SV.tup []) ST.nil ST.nil) ST.nil) (ST.node (SV.c (SC.int false IntKind.i64 o)) ST.nil ST.nil)) (ST.node (SV.c (SC.int false
    IntKind.i64 (↑q : Int))) (ST.node (SV.c (SC.elp (0 : Nat) (addO true (0 : Nat) (o - (1 : Int)).toNat) (2 : Nat) (0 : Nat))) ST.nil ST.nil) (ST.node (SV.c (SC.int false IntKind.u64
    (hf (addO true (0 : Nat) (o - (1 : Int)).toNat)))) ST.nil ST.nil))) (ST.node (SV.c (SC.int false IntKind.i64 o)) (ST.node (SV.c (SC.int false IntKind.i64 o)) (ST.node (SV.c (SC.int
    false IntKind.i64 (o - (1 : Int)))) ST.nil ST.nil) (ST.node (SV.c (SC.elp (0 : Nat) (addO true (0 : Nat) (o - (1 : Int)).toNat) (2 : Nat) (0 : Nat))) ST.nil ST.nil)) (ST.node (SV.c
    (SC.boo true true)) (ST.node (SV.c (SC.sli (0 : Nat) (2 : Nat) true (0 : Nat) false q cap)) ST.nil ST.nil) (ST.node (SV.c (SC.ptr (100 : Nat) (5 : Nat))) ST.nil ST.nil))))) [])
    (Mem.mk [((0 : Nat), SO.vals (OfNat.ofNat (164 : Nat)) (2 : Nat) q cap (blkW hf nf z)), ((100 : Nat), SO.cells [SC.int false IntKind.i64 k, SC.int false IntKind.i64 at', SC.int
    false IntKind.i64 o, SC.sliv wa false wl wc, SC.int false IntKind.u64 (hf (addO true (0 : Nat) (o - (1 : Int)).toNat)), SC.int false IntKind.u64 (hf (addO true (0 : Nat) (o - (1 :
    Int)).toNat)), SC.int false IntKind.i64 xa, SC.int false IntKind.u64 n, SC.int false IntKind.u64 m] (169 : Nat)), ((101 : Nat), SO.cells [SC.int true IntKind.i64 (0 : Int), SC.int
    true IntKind.i64 (0 : Int), SC.int true IntKind.i64 (0 : Int), SC.nls, SC.int true IntKind.u64 (0 : Int), SC.int true IntKind.u64 (0 : Int), SC.int true IntKind.i64 (0 : Int),
    SC.int true IntKind.u64 (0 : Int), SC.int true IntKind.u64 (0 : Int)] (169 : Nat))] (112 : Nat)) Scr.nil ∧ True) ∧ True) ∧ True) ∧ True) ∧ (decide (o ≤ (↑q : Int)) = false → (((0 :
    Int) ≤ h ∧ h < (18446744073709551616 : Int)) ∧ (0 : Int) ≤ b ∧ b < (18446744073709551616 : Int)) ∧ k = k ∧ at' = at' ∧ o = o ∧ wa = wa ∧ wl = wl ∧ wc = wc ∧ h = h ∧ b = b ∧ xa = xa
    ∧ n = n ∧ m = m ∧ (q = q ∧ cap = cap ∧ ∀ (i : Nat), i < q → [Value.int IntKind.u64 (hf i), Value.slice (z i).fst (nf i) (z i).snd] = [Value.int IntKind.u64 (hf i), Value.slice (z
    i).fst (nf i) (z i).snd]) ∧ True)) ∧ (decide (o > (0 : Int)) = false → (((0 : Int) ≤ h ∧ h < (18446744073709551616 : Int)) ∧ (0 : Int) ≤ b ∧ b < (18446744073709551616 : Int)) ∧ k =
    k ∧ at' = at' ∧ o = o ∧ wa = wa ∧ wl = wl ∧ wc = wc ∧ h = h ∧ b = b ∧ xa = xa ∧ n = n ∧ m = m ∧ (q = q ∧ cap = cap ∧ ∀ (i : Nat), i < q → [Value.int IntKind.u64 (hf i), Value.slice
    (z i).fst (nf i) (z i).snd] = [Value.int IntKind.u64 (hf i), Value.slice (z i).fst (nf i) (z i).snd]) ∧ True)) := by
  kernel_rfl
theorem of3s_run (k at' o h b xa n m : Int) (wa : Option Addr) (wl wc : Nat) (q cap : Nat) (hf : Nat → Int) (nf : Nat → Nat) (z : Nat → Option Addr × Nat) (hc : q ≤ 1000000000000 ∧ (0 ≤ h ∧ h < 18446744073709551616) ∧ (0 ≤ b ∧ b < 18446744073709551616) ∧ ∀ i, i < q → 0 ≤ hf i ∧ hf i < 18446744073709551616) : Run (callN Try.prog ([] : List (Smry Try.prog XP)) (fun _ _ => false) 100 20 92 [.agg [.int false .i64 k, .int false .i64 at', .int false .i64 o, .sliv wa false wl wc, .int false .u64 h, .int false .u64 b, .int false .i64 xa, .int false .u64 n, .int false .u64 m], .c (.sli 0 2 true 0 false q cap)] ⟨[(0, .vals 164 2 q cap (blkW hf nf z))], 100⟩ (.both (.both .nil .nil) .nil) (fun u M _ => ofR3 [(0, .vals 164 2 q cap (blkW hf nf z))] k at' o xa n m wa wl wc u M)) := by
  constructor
  rw [of3s_vc]
  obtain ⟨hq, hh, hb, hx⟩ := hc
  repeat' first
    | (refine fun (K : KO XP) => ?_; simp only [and_imp]; intros; repeat' (first | assumption | apply And.intro | exact trivial); done)
    | with_reducible apply And.intro
    | with_reducible rfl
    | exact trivial
    | (intro _)
  all_goals simp only [decide_eq_true_eq, decide_eq_false_iff_not] at *
  all_goals (first | omega | (simp only [addO, if_true, cond_true, Nat.zero_add]; omega) | exact (hx _ (by simp only [addO, if_true, cond_true, Nat.zero_add]; omega)).1 | exact (hx _ (by simp only [addO, if_true, cond_true, Nat.zero_add]; omega)).2 | exact hh.1 | exact hh.2 | exact hb.1 | exact hb.2 | (exfalso; omega) | skip)
/-- What the executor leaves to be shown of roundelay/roundelaylaw03.of, written out. -/
theorem of3n_vc (k at' o h b xa n m : Int) (wa : Option Addr) (wl wc : Nat) : (callN Try.prog ([] : List (Smry Try.prog XP)) (fun _ _ => false) 100 20 92 [.agg [.int false .i64 k, .int false .i64 at', .int false .i64 o, .sliv wa false wl wc, .int false .u64 h, .int false .u64 b, .int false .i64 xa, .int false .u64 n, .int false .u64 m], .c .nls] ⟨[], 100⟩ (.both (.both .nil .nil) .nil) (fun u M _ => ofR3 [] k at' o xa n m wa wl wc u M)) = (
    (decide (o > (0 : Int)) = true → (decide (o ≤ (0 : Int)) = true → (((-9223372036854775808 : Int) ≤ o - (1 : Int) ∧ o - (1 : Int) ≤ (9223372036854775807 : Int)) ∧ Stuck (74 : Nat) ∧
    (∀ (K : KO XP), Stuck (74 : Nat) → ((-9223372036854775808 : Int) ≤ o - (1 : Int) ∧ o - (1 : Int) ≤ (9223372036854775807 : Int)) ∧ Stuck (74 : Nat) ∧ (∀ (K : KO XP), Stuck (74 : Nat)
    → Stuck (74 : Nat)) ∧ True) ∧ True) ∧ (∀ (K : KO XP), ((-9223372036854775808 : Int) ≤ o - (1 : Int) ∧ o - (1 : Int) ≤ (9223372036854775807 : Int)) ∧ Stuck (74 : Nat) ∧ (∀ (K : KO
    XP), Stuck (74 : Nat) → ((-9223372036854775808 : Int) ≤ o - (1 : Int) ∧ o - (1 : Int) ≤ (9223372036854775807 : Int)) ∧ Stuck (74 : Nat) ∧ (∀ (K : KO XP), Stuck (74 : Nat) → Stuck
    (74 : Nat)) ∧ True) ∧ True → ((-9223372036854775808 : Int) ≤ o - (1 : Int) ∧ o - (1 : Int) ≤ (9223372036854775807 : Int)) ∧ (((-9223372036854775808 : Int) ≤ o - (1 : Int) ∧ o - (1 :
    Int) ≤ (9223372036854775807 : Int)) ∧ Stuck (74 : Nat) ∧ (∀ (K : KO XP), Stuck (74 : Nat) → Stuck (74 : Nat)) ∧ True) ∧ (∀ (K : KO XP), ((-9223372036854775808 : Int) ≤ o - (1 : Int)
    ∧ o - (1 : Int) ≤ (9223372036854775807 : Int)) ∧ Stuck (74 : Nat) ∧ (∀ (K : KO XP), Stuck (74 : Nat) → Stuck (74 : Nat)) ∧ True → Stuck (74 : Nat)) ∧ True) ∧ True) ∧ (decide (o ≤ (0
    : Int)) = false → (((0 : Int) ≤ h ∧ h < (18446744073709551616 : Int)) ∧ (0 : Int) ≤ b ∧ b < (18446744073709551616 : Int)) ∧ k = k ∧ at' = at' ∧ o = o ∧ wa = wa ∧ wl = wl ∧ wc = wc ∧
    h = h ∧ b = b ∧ xa = xa ∧ n = n ∧ m = m ∧ True)) ∧ (decide (o > (0 : Int)) = false → (((0 : Int) ≤ h ∧ h < (18446744073709551616 : Int)) ∧ (0 : Int) ≤ b ∧ b < (18446744073709551616
    : Int)) ∧ k = k ∧ at' = at' ∧ o = o ∧ wa = wa ∧ wl = wl ∧ wc = wc ∧ h = h ∧ b = b ∧ xa = xa ∧ n = n ∧ m = m ∧ True)) := by
  kernel_rfl
theorem of3n_run (k at' o h b xa n m : Int) (wa : Option Addr) (wl wc : Nat) (hc : 0 ≤ 0 ∧ (0 ≤ h ∧ h < 18446744073709551616) ∧ (0 ≤ b ∧ b < 18446744073709551616) ∧ True) : Run (callN Try.prog ([] : List (Smry Try.prog XP)) (fun _ _ => false) 100 20 92 [.agg [.int false .i64 k, .int false .i64 at', .int false .i64 o, .sliv wa false wl wc, .int false .u64 h, .int false .u64 b, .int false .i64 xa, .int false .u64 n, .int false .u64 m], .c .nls] ⟨[], 100⟩ (.both (.both .nil .nil) .nil) (fun u M _ => ofR3 [] k at' o xa n m wa wl wc u M)) := by
  constructor
  rw [of3n_vc]
  obtain ⟨hq, hh, hb, hx⟩ := hc
  repeat' first
    | (refine fun (K : KO XP) => ?_; simp only [and_imp]; intros; repeat' (first | assumption | apply And.intro | exact trivial); done)
    | with_reducible apply And.intro
    | with_reducible rfl
    | exact trivial
    | (intro _)
  all_goals simp only [decide_eq_true_eq, decide_eq_false_iff_not] at *
  all_goals (first | omega | (simp only [addO, if_true, cond_true, Nat.zero_add]; omega) | exact (hx _ (by simp only [addO, if_true, cond_true, Nat.zero_add]; omega)).1 | exact (hx _ (by simp only [addO, if_true, cond_true, Nat.zero_add]; omega)).2 | exact hh.1 | exact hh.2 | exact hb.1 | exact hb.2 | (exfalso; omega) | skip)
def ofG3 : FuncId := 92
/-- The operation with the handle that it means: all but the handle and the block as they were. -/
def ofS : Smry Try.prog XP where
  g := ofG3
  run := fun args M K => match args with
    | [.agg [.int _ .i64 k _, .int _ .i64 at' _, .int _ .i64 o _, .sliv wa _ wl wc, .int _ .u64 h _, .int _ .u64 b _, .int _ .i64 xa _, .int _ .u64 n _, .int _ .u64 m _], .c v] => (((0 ≤ h ∧ h < 18446744073709551616) ∧ (0 ≤ b ∧ b < 18446744073709551616)) ∧ (match v with
        | .nls => True
        | .sli s 2 _ 0 _ q cap => q ≤ 1000000000000 ∧ ∃ hf nf z, (∀ i, i < q → 0 ≤ hf i ∧ hf i < 18446744073709551616) ∧ M.hp.get s = some (.vals 164 2 q cap (blkW hf nf z))
        | _ => Stuck 990)) ∧ ∀ h b, ((0 ≤ h ∧ h < 18446744073709551616) ∧ (0 ≤ b ∧ b < 18446744073709551616)) → K (.agg [.int false .i64 k, .int false .i64 at', .int false .i64 o, .sliv wa false wl wc, .int false .u64 h, .int false .u64 b, .int false .i64 xa, .int false .u64 n, .int false .u64 m]) M
    | _ => Stuck 991
  ok := fun args M K hr => by
    split at hr <;> try exact hr.elim
    rename_i l1 k b1 l2 at' b2 l3 o b3 wa l4 wl wc l5 h b4 l6 b b5 l7 xa b6 l8 n b7 l9 m b8 v
    obtain ⟨⟨⟨hh, hb⟩, hv⟩, hk⟩ := hr
    intro ν w R w0 H HK
    split at hv <;> try exact hv.elim
    · refine (callN_ok namesOk mixed _ _ _ _ ofG3 _ ⟨[], 100⟩ _ _ (of3n_run k at' o h b xa n m wa wl wc ⟨by omega, hh, hb, trivial⟩).out ν w (M.hp.den ν * R) w0 (by simp only [SH.den]; rw [Assn.one_mul]; exact H) HK).mono ?_
      rintro e w' ⟨u, M', s', ξ, ho, ag, _, he, hs, hk'⟩
      unfold ofR3 at ho
      split at ho <;> try exact ho.elim
      rename_i h' _ _ b' _ _ _ _
      obtain ⟨⟨hh', hb'⟩, ho⟩ := ho
      obtain ⟨κ, agk, hv, hs⟩ := outM_sound ho hs
      refine ⟨_, M, ν, hk h' b' ⟨hh', hb'⟩, Agree.refl _ _, Nat.le_refl _, ?_, ?_, hk'⟩
      · rw [he, hv]; rfl
      · simp only [SH.den] at hs; rw [Assn.one_mul] at hs; exact hs
    · rename_i s lo ls q cap
      obtain ⟨hq, hf, nf, z, hx, hg⟩ := hv
      have H1 : Sat w ((⟨[(0, .vals 164 2 q cap (blkW hf nf z))], 100⟩ : Mem XP).hp.den (fun _ => ν s) * ((M.hp.del s).den ν * R)) := by
        rw [SH.den_get ν hg, Assn.mul_assoc] at H
        refine H.cast ?_
        simp only [SH.den, SO.den]
        rw [Assn.mul_comm _ (1 : Assn), Assn.one_mul]
      refine (callN_ok namesOk mixed _ _ _ _ ofG3 _ ⟨[(0, .vals 164 2 q cap (blkW hf nf z))], 100⟩ _ _ (of3s_run k at' o h b xa n m wa wl wc q cap hf nf z ⟨hq, hh, hb, hx⟩).out (fun _ => ν s) w _ w0 H1 HK).mono ?_
      rintro e w' ⟨u, M', s', ξ, ho, ag, _, he, hs, hk'⟩
      unfold ofR3 at ho
      split at ho <;> try exact ho.elim
      rename_i h' _ _ b' _ _ _ _
      obtain ⟨⟨hh', hb'⟩, ho⟩ := ho
      obtain ⟨κ, agk, hv, hs⟩ := outM_sound ho hs
      have k0 : κ 0 = ν s := by rw [agk 0 (by decide), ag 0 (by show 0 < 100; decide)]
      refine ⟨_, M, ν, hk h' b' ⟨hh', hb'⟩, Agree.refl _ _, Nat.le_refl _, ?_, ?_, hk'⟩
      · rw [he, hv]; rfl
      · rw [SH.den_get ν hg, Assn.mul_assoc]
        refine hs.cast ?_
        simp only [SH.den, SO.den, k0]
        rw [Assn.mul_comm _ (1 : Assn), Assn.one_mul]
end Go.Proofs.Ytnhmeepifockgaa

/- Arenas told by what they hold (module Par): a handle that was freed; handles never met before; what the law counts. No program in sight. -/
namespace Go.Proofs.Ytnhmeepifockgaa
open Go Go.RowKit
set_option maxRecDepth 100000

theorem PA.Inv.hds {x : PA} (h : x.Inv) : x.births ≤ 268435455 ∧ ∀ y ∈ x.bs, y.2.1 / 65536 ≤ x.births ∧ 1 ≤ y.2.1 / 65536 ∧ y.2.1 % 65536 = y.1 ∧ 1 ≤ y.2.2.length ∧ y.2.2.length ≤ 2048 := by
  obtain ⟨z, hi⟩ := h
  refine ⟨hi.births, fun y hy => ?_⟩
  have e := blksOf_key z x.bs 0
  rw [← e] at hy
  obtain ⟨b, hb, rfl⟩ := List.mem_map.1 hy
  obtain ⟨_, _, h3, h4, h5, h6, h7⟩ := hi.range b hb
  exact ⟨h5, h4, h3, h6, h7⟩
theorem PA.Inv.nd {x : PA} (h : x.Inv) : (x.bs.map fun b => b.2.1).Nodup := by
  obtain ⟨z, hi⟩ := h
  have e := blksOf_key z x.bs 0
  rw [← e, List.map_map]
  have h1 : ((blksOf z 0 x.bs).map fun b => b.h / 65536).Nodup := hi.births'
  have e2 : (blksOf z 0 x.bs).map (fun b => b.h / 65536) = ((blksOf z 0 x.bs).map ((fun b => b.2.1) ∘ key3)).map (· / 65536) := by
    rw [List.map_map]; rfl
  rw [e2] at h1
  exact List.Pairwise.of_map (S := (· ≠ ·)) (· / 65536) (fun a b hab e => hab (by rw [e])) h1
theorem PA.Inv.next {x : PA} (h : x.Inv) : x.nextN < 65536 := by
  obtain ⟨z, hi⟩ := h
  have hm : x.high ≤ 60000 := hi.hmax
  unfold PA.nextN
  cases hb : x.bk with
  | nil => show x.high + 1 < 65536; omega
  | cons k l =>
    have := hi.backs k (by show k ∈ x.bk; rw [hb]; exact List.mem_cons_self)
    have h2 : k ≤ x.high := this.2.1
    show k < 65536
    omega
theorem PA.Inv.capOk {x : PA} (h : x.Inv) : x.used ≤ x.cap ∧ x.peak ≤ x.cap := by
  obtain ⟨z, hi⟩ := h
  exact ⟨hi.used, hi.peak.2⟩
theorem findP_freeB {h : Nat} : ∀ {l : List (Nat × Nat × List Nat)}, (l.map fun b => b.2.1).Nodup → findP h (freeB h l) = none
  | [], _ => rfl
  | (n, h', ws) :: l, hn => by
    have h1 := List.nodup_cons.1 hn
    simp only [freeB]
    rw [beq_dec]
    by_cases e : h' = h
    · subst e
      rw [decide_eq_true rfl, cond_true]
      have h2 : h' ∉ l.map fun b => b.2.1 := h1.1
      clear hn h1
      induction l with
      | nil => rfl
      | cons y l ih =>
        obtain ⟨n', h'', ws'⟩ := y
        simp only [List.map_cons, List.mem_cons, not_or] at h2
        simp only [findP]
        rw [beq_dec, decide_eq_false (fun e => h2.1 e.symm), cond_false]
        exact ih h2.2
    · rw [decide_eq_false e, cond_false]
      simp only [findP]
      rw [beq_dec, decide_eq_false e, cond_false]
      exact findP_freeB h1.2
theorem findP_mem {h : Nat} {ws : List Nat} : ∀ {l : List (Nat × Nat × List Nat)}, findP h l = some ws → ∃ n, (n, h, ws) ∈ l
  | [], e => by cases e
  | (n, h', ws') :: l, e => by
    simp only [findP] at e
    rw [beq_dec] at e
    by_cases e1 : h' = h
    · subst e1
      rw [decide_eq_true rfl, cond_true] at e
      cases e
      exact ⟨n, List.mem_cons_self⟩
    · rw [decide_eq_false e1, cond_false] at e
      obtain ⟨m, hm⟩ := findP_mem e
      exact ⟨m, List.mem_cons_of_mem _ hm⟩
/-- No block has the handle (nor is it the fixed words'). -/
def Gone (x : PA) (h : Int) : Prop := 0 < h ∧ findP h.toNat x.bs = none
theorem Gone.wordI {x : PA} {h : Int} (g : Gone x h) (i : Int) : x.wordI h i = none := by
  unfold PA.wordI
  cases leI 0 i
  · rfl
  · rw [cond_true]
    unfold PA.word
    have h0 : h.toNat ≠ 0 := by have := g.1; omega
    rw [beq_dec, decide_eq_false h0, cond_false, g.2]
theorem Gone.atE {x : PA} {h : Int} (g : Gone x h) (i : Int) : x.atE h i = 23 := by
  unfold PA.atE PA.errI
  rw [g.wordI i, g.2, eqI_dec, decide_eq_false (by have := g.1; omega)]
  rfl
theorem Gone.rdX {x : PA} {h : Int} (g : Gone x h) (i : Int) : x.rdX h i = x.fault := by unfold PA.rdX; rw [g.wordI i]
theorem Gone.wrX {x : PA} {h : Int} (g : Gone x h) (i y : Int) : x.wrX h i y = x.fault := by unfold PA.wrX; rw [g.wordI i]
theorem Gone.adX {x : PA} {h : Int} (g : Gone x h) (i y : Int) : x.adX h i y = x.fault := by unfold PA.adX; rw [g.wordI i]
theorem Gone.swX {x : PA} {h : Int} (g : Gone x h) (i o y : Int) : x.swX h i o y = x.fault := by unfold PA.swX; rw [g.wordI i]
theorem Gone.frX {x : PA} {h : Int} (g : Gone x h) : x.frX h = x.fault := by unfold PA.frX; rw [g.2]
theorem Gone.frE {x : PA} {h : Int} (g : Gone x h) : x.frE h = 23 := by unfold PA.frE; rw [g.2]
theorem Gone.szV {x : PA} {h : Int} (g : Gone x h) : x.szV h = 0 := by unfold PA.szV; rw [g.2]
theorem Gone.fault {x : PA} {h : Int} (g : Gone x h) : Gone x.fault h := g
/-- A handle that was freed. -/
theorem gone_frX {x : PA} {h : Int} (hi : x.Inv) (h0 : 0 ≤ h) (e : x.frE h = 0) : Gone (x.frX h) h := by
  unfold PA.frE at e
  cases hf : findP h.toNat x.bs with
  | none => rw [hf] at e; cases e
  | some ws =>
    have e1 : x.frX h = x.free h.toNat ws.length := by unfold PA.frX; rw [hf]
    rw [e1]
    obtain ⟨n, hn⟩ := findP_mem hf
    have h2 := (hi.hds.2 _ hn).2.1
    refine ⟨?_, findP_freeB hi.nd⟩
    have h2 : 1 ≤ h.toNat / 65536 := h2
    omega
/-- What the loop keeps: how many words are fixed, the capacity, the counts of handles. -/
structure AOI (c : Int) (i : Nat) (x : PA) (l : List (Int × Value)) : Prop where
  fx : x.fx.length = 9
  cap : (x.cap : Int) = c
  ints : ∀ y, List.Mem y l → ∃ n : Int, y.2 = Value.int IntKind.i64 n
  few : ∀ k, lookI l k ≤ i ∧ 0 ≤ lookI l k
  met : ∀ k, lookI l k > 0 → k.toNat / 65536 ≤ x.births ∧ 0 ≤ k
theorem AOI.start {c : Int} (h : 0 ≤ c ∧ c ≤ 60000) : AOI c 0 (PA.new c.toNat) [] where
  fx := rfl
  cap := by show ((c.toNat : Nat) : Int) = c; omega
  ints := fun y hy => by cases hy
  few := fun k => ⟨Int.le_refl 0, Int.le_refl 0⟩
  met := fun k hk => by have : lookI [] k = 0 := rfl; omega
theorem lookI_updL {l : List (Int × Value)} {x y : Int} {n : Int} : lookI (updL l x (.int .i64 n)) y = if x = y then n else lookI l y := by
  unfold lookI
  rw [look_updL]
  by_cases e : x = y
  · rw [if_pos e, if_pos e]
  · rw [if_neg e, if_neg e]
theorem updL_mem1 {l : List (Int × Value)} {k : Int} {v : Value} : ∀ {y}, y ∈ updL l k v → y = (k, v) ∨ y ∈ l := by
  induction l with
  | nil => intro y hy; simp only [updL, List.mem_singleton] at hy; exact .inl hy
  | cons z l ih =>
    intro y hy
    simp only [updL] at hy
    split at hy
    · rcases List.mem_cons.1 hy with rfl | h
      · exact .inl rfl
      · exact .inr (List.mem_cons_of_mem _ h)
    · rcases List.mem_cons.1 hy with rfl | h
      · exact .inr List.mem_cons_self
      · rcases ih h with h | h
        · exact .inl h
        · exact .inr (List.mem_cons_of_mem _ h)
theorem layX_ok {x : PA} {k : Nat} {ws : List Nat} (e : x.layE k = 0) : x.layX k ws = x.layG ws ∧ x.layV k = x.hdlG := by
  unfold PA.layX PA.layV
  rw [eqI_dec, decide_eq_true e]
  exact ⟨rfl, rfl⟩
theorem layX_no {x : PA} {k : Nat} {ws : List Nat} (e : x.layE k ≠ 0) : x.layX k ws = x ∧ x.layV k = 0 := by
  unfold PA.layX PA.layV
  rw [eqI_dec, decide_eq_false e]
  exact ⟨rfl, rfl⟩
/-- A new handle was never counted. -/
theorem AOI.fresh {c : Int} {i : Nat} {x : PA} {l : List (Int × Value)} (h : AOI c i x l) (hi : x.Inv) {k : Nat} (e : x.layE k = 0) : ¬ lookI l (x.layV k) > 0 := fun hp => by
  have h1 := (h.met _ hp).1
  rw [(layX_ok (ws := []) e).2] at h1
  have h2 := hi.next
  have h3 : (x.hdlG : Int).toNat = (x.births + 1) * 65536 + x.nextN := rfl
  rw [h3] at h1
  omega
theorem AOI.lay {c : Int} {i : Nat} {x : PA} {l : List (Int × Value)} (h : AOI c i x l) (hi : x.Inv) (k : Nat) (ws : List Nat) : AOI c (i + 1) (x.layX k ws) (updL l (x.layV k) (.int .i64 (lookI l (x.layV k) + 1))) := by
  have hb : x.births ≤ (x.layX k ws).births ∧ (x.layV k).toNat / 65536 ≤ (x.layX k ws).births ∧ 0 ≤ x.layV k ∧ (x.layX k ws).fx = x.fx ∧ (x.layX k ws).cap = x.cap := by
    by_cases e : x.layE k = 0
    · obtain ⟨e1, e2⟩ := layX_ok (ws := ws) e
      rw [e1, e2]
      have h2 := hi.next
      have h3 : (x.hdlG : Int).toNat = (x.births + 1) * 65536 + x.nextN := rfl
      have h4 : (x.layG ws).births = x.births + 1 := rfl
      rw [h3, h4]
      exact ⟨by omega, by omega, by omega, rfl, rfl⟩
    · obtain ⟨e1, e2⟩ := layX_no (ws := ws) e
      rw [e1, e2]
      exact ⟨Nat.le_refl _, Nat.zero_le _, Int.le_refl _, rfl, rfl⟩
  obtain ⟨b1, b2, b3, b4, b5⟩ := hb
  refine ⟨by rw [b4]; exact h.fx, by rw [b5]; exact h.cap, fun y hy => ?_, fun j => ?_, fun j hj => ?_⟩
  · rcases updL_mem1 hy with rfl | hm
    · exact ⟨_, rfl⟩
    · exact h.ints y hm
  · rw [lookI_updL]
    have h1 := h.few j
    have h2 := h.few (x.layV k)
    split <;> omega
  · rw [lookI_updL] at hj
    by_cases e : x.layV k = j
    · subst e; exact ⟨b2, b3⟩
    · rw [if_neg e] at hj
      have := h.met j hj
      exact ⟨by omega, this.2⟩
theorem AOI.same {c : Int} {i : Nat} {x y : PA} {l : List (Int × Value)} (h : AOI c i x l) (hf : y.fx = x.fx) (hc : y.cap = x.cap) (hb : y.births = x.births) : AOI c (i + 1) y l :=
  ⟨by rw [hf]; exact h.fx, by rw [hc]; exact h.cap, h.ints, fun k => by have := h.few k; omega, fun k hk => by rw [hb]; exact h.met k hk⟩
theorem frX_same (x : PA) (h : Int) : (x.frX h).fx = x.fx ∧ (x.frX h).cap = x.cap ∧ (x.frX h).births = x.births := by
  unfold PA.frX
  split <;> exact ⟨rfl, rfl, rfl⟩
theorem alikeP_faults {x y : PA} {l : List (Nat × Nat × List Nat)} (hf : y.fx = x.fx) (hb : y.bs = x.bs) (h : l.Perm x.bs) : alikeP y { x with bs := l } = true := by
  have h1 := alikeP_perm h
  unfold alikeP at *
  rw [hf, hb]
  exact h1
end Go.Proofs.Ytnhmeepifockgaa
