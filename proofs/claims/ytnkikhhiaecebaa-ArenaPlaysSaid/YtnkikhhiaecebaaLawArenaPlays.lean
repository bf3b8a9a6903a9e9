/- ArenaPlays: for all capacities, all operations and all numbers the law returns true and turns nothing; condition: the operations are read as such. -/
import Derived.Test.YtnkikhhiaecebaaBaseAP1
import Derived.Test.YtnkikhhiaecebaaBaseAP6
import Derived.Test.YtnkikhhiaecebaaBaseAP4
import Derived.Test.YtnkikhhiaecebaaBaseAP3
import Derived.Test.YtnkikhhiaecebaaBaseP3
set_option linter.all false
namespace Go.Proofs.Ytnkikhhiaecebaa
open Go Go.RowKit
set_option maxRecDepth 1000000
set_option maxHeartbeats 0
structure APY (W0 : World) (len : Nat) where
  i : Nat
  hi : i ≤ len
  s : APS W0 i
def apS {W0 : World} {i : Nat} (n : Nat) (s : APS W0 i) : List (Nat × SV) := [(17, .c (.sli n 1 true 0 false s.N s.c1)), (18, .c (.sli (n + 1) 20 true 0 false s.N s.c2))]
def apM {W0 : World} {i : Nat} (n : Nat) (s : APS W0 i) : List (Nat × SO XP) := [(0, .seen s.W), (n, .ext (HO.all [] 25 s.N s.c1 fun j => some (s.d j).x)), (n + 1, .vals 54 20 s.N s.c2 fun j => d3V (s.d j).y (s.d j).A (s.d j).L (s.d j).C)]
def apI {W0 : World} {len : Nat} (n : Nat) (y : APY W0 len) : List (Nat × SV) × List (Nat × SO XP) := (apS n y.s ++ [(174, .c (.int false .i64 (y.i : Int)))], apM n y.s)
def apE {W0 : World} {i : Nat} (n : Nat) (s : APS W0 (i + 1)) : List (Nat × SV) × List (Nat × SO XP) := (apS n s ++ [(174, .c (.int false .i64 (i : Int)))], apM n s)
def apA {W0 : World} {i : Nat} (s : APS W0 i) (v : OpN) (n : Nat) (z : {k : Nat // k < s.N}) : List (Nat × SV) × List (Nat × SO XP) := (apS n s ++ [(174, .c (.int false .i64 (i : Int))), (20, .c (.ptr (n + 2) 0)), (21, .c (.int false .i64 (z.1 : Int)))], apM n s ++ [(n + 2, .cells (opC v) 57)])
def apA2 {W0 : World} {i : Nat} (s : APS W0 i) (n : Nat) (z : OpW s.W × {k : Nat // k < s.N}) : List (Nat × SV) × List (Nat × SO XP) := apA s z.1.v n z.2
def shB (c k : Nat) : Bool := Nat.ble 1 c && Nat.ble c 4 && Nat.ble k c
inductive LY (W0 : World) (i c : Nat) where
  | s (k : Nat) (h : shB c k = true) (z : LZ W0 i c)
def lyE (W0 : World) (i c k : Nat) (h : shB c k = true) : Emb (LY W0 i c) := ⟨LZ W0 i c, fun z => .s k h z⟩
def lyHs1 (W0 : World) (i : Nat) : List (Emb (LY W0 i 1)) := [lyE W0 i 1 0 rfl, lyE W0 i 1 1 rfl]
def lyHs2 (W0 : World) (i : Nat) : List (Emb (LY W0 i 2)) := [lyE W0 i 2 0 rfl, lyE W0 i 2 1 rfl, lyE W0 i 2 2 rfl]
def lyHs3 (W0 : World) (i : Nat) : List (Emb (LY W0 i 3)) := [lyE W0 i 3 0 rfl, lyE W0 i 3 1 rfl, lyE W0 i 3 2 rfl, lyE W0 i 3 3 rfl]
def lyHs4 (W0 : World) (i : Nat) : List (Emb (LY W0 i 4)) := [lyE W0 i 4 0 rfl, lyE W0 i 4 1 rfl, lyE W0 i 4 2 rfl, lyE W0 i 4 3 rfl, lyE W0 i 4 4 rfl]
def lySel (f : SF) (h : SH XP) : Nat := match rowAt? f 17, numAt? f 377 with
  | some n, some (.ofNat k) => match h.get n with
    | some (.row _ _ _ _ _) => k
    | _ => 99
  | _, _ => 99
def lyCells (d : Nat → Doc1) : Nat → List SC
  | 0 => []
  | c + 1 => lyCells d c ++ d3C (d c).y (.sliv (d c).A false (d c).L (d c).C)
def lyObjs (d : Nat → Doc1) (n : Nat) : Nat → List (Nat × SO XP)
  | 0 => []
  | c + 1 => lyObjs d n c ++ [(n + c, parO (d c).x)]
def lyI {W0 : World} {i c : Nat} (n : Nat) : LY W0 i c → List (Nat × SV) × List (Nat × SO XP)
  | .s k _ z => ([(17, .c (.sli n 1 true 0 true c z.c1)), (18, .c (.sli (n + 1) 20 true 0 true c z.c2)), (375, .c (.sli n 1 true 0 true c z.c1)), (376, .c (.int true .i64 (Int.ofNat c))), (377, .c (.int true .i64 (Int.ofNat k)))],
    [(0, .seen z.W), (n, .row 25 1 c z.c1 (ptrsC (n + 2) c)), (n + 1, .row 54 20 c z.c2 (lyCells z.d c))] ++ lyObjs z.d (n + 2) c)
def lyMu {W0 : World} {i c : Nat} : LY W0 i c → Nat
  | .s k _ _ => c - k
def lyScr (W0 : World) (i : Nat) (f : SF) (h : SH XP) : Scr XP := match rowAt? f 17 with
  | some n => match h.get n with
    | some (.row _ _ c _ _) => match c with
      | 1 => .invs (liveL [6, 8, 17, 18, 48, 49, 50, 51, 375, 376, 377]) [999999] (LY W0 i 1) (lyHs1 W0 i) lySel lyI lyMu fun _ => .nil
      | 2 => .invs (liveL [6, 8, 17, 18, 48, 49, 50, 51, 375, 376, 377]) [999999] (LY W0 i 2) (lyHs2 W0 i) lySel lyI lyMu fun _ => .nil
      | 3 => .invs (liveL [6, 8, 17, 18, 48, 49, 50, 51, 375, 376, 377]) [999999] (LY W0 i 3) (lyHs3 W0 i) lySel lyI lyMu fun _ => .nil
      | _ => .invs (liveL [6, 8, 17, 18, 48, 49, 50, 51, 375, 376, 377]) [999999] (LY W0 i 4) (lyHs4 W0 i) lySel lyI lyMu fun _ => .nil
    | _ => .nil
  | none => .nil
def tblAP : List (Smry Try.prog XP) := [firstS 11 (fun W => by have h := law_trueR (first03_run trivial) W; exact h), great3S, ofV, newG, nilS layR, nilS readC.R, nilS writeC.R, nilS addC.R, nilS swapC.R, nilS freeC.R, nilS sizeC.R, nilS cloneR, nilS sameW, blocksNS blocksP rfl, lay3S, freeO.S, readO.S, writeO.S, swapO.S, addO3.S, same3S, sam3S]
def docRun (d : Nat → Doc1) (ts ti : Nat) (f : SF) (m : Mem XP) (K : Mem XP → Prop) : Prop :=
  match rowAt? f ts, numAt? f ti with
  | some n, some z => match m.hp.get n with
    | some (.vals t k N cap g) => ((0 ≤ z ∧ z < (N : Int)) ∧ g z.toNat = d3V (d z.toNat).y (d z.toNat).A (d z.toNat).L (d z.toNat).C) ∧ ∀ e : Doc1, e = d z.toNat → K ⟨(n, .arr t k N cap g z.toNat (d3C e.y (.sliv e.A false e.L e.C))) :: m.hp.del n, m.nx⟩
    | _ => Stuck 805
  | _, _ => Stuck 806
theorem doc_ok (d : Nat → Doc1) (ts ti : Nat) (f : SF) (m : Mem XP) (K : Mem XP → Prop) (h : docRun d ts ti f m K) (ν : Nat → Nat) (w : World) (R : Assn) (hs : Sat w (m.hp.den ν * R)) :
    ∃ m' μ, K m' ∧ Agree m.nx ν μ ∧ m.nx ≤ m'.nx ∧ Sat w (m'.hp.den μ * R) := by
  refine arr_ok ts ti f m K ?_ ν w R hs
  unfold docRun at h
  unfold arrRun
  split at h <;> try exact h.elim
  rename_i n z hn hz
  split at h <;> try exact h.elim
  rename_i t k N cap g hg
  rw [hn, hz]
  simp only [hg]
  obtain ⟨⟨hz, e⟩, hk⟩ := h
  refine ⟨hz, ?_⟩
  rw [e]
  exact hk _ rfl
def docG (d : Nat → Doc1) (ts ti : Nat) : Ghost XP := ⟨docRun d ts ti, doc_ok d ts ti⟩
def apEnd : Scr XP := .ghost 9999 (seqG (valG 18) (foldG 17)) .nil
def apK7 : Scr XP := .ghost 21 (seqG (valG 18) (hideG 17)) (.ghost 57 (arhG 18 21) (.ghost 9999 (seqG (valG 18) (pushTG 17)) .nil))
def apTwo : Scr XP := .both .nil (.both .nil apEnd)
def apOne : Scr XP := .both .nil apEnd
def apSw : Scr XP := .both apTwo (.both apTwo (.both apOne (.both apTwo (.both apOne (.both apTwo (.both apTwo (.both apK7 apEnd)))))))
def apLoop (W0 : World) (len : Nat) : Scr XP := .inv (liveL [2, 6, 8, 17, 18, 20, 21, 22, 23, 24, 25, 26, 27, 28, 29, 30, 31, 32, 33, 34, 35, 36, 37, 38, 39, 40, 41, 42, 43, 44, 45, 46, 47, 48, 49, 50, 51, 172, 173, 174, 201, 375, 376, 377]) [999999] (APY W0 len) apI (fun y => len - y.i) fun y => .both
  (.cut 16 (liveL [2, 6, 8, 17, 18, 20, 21, 22, 23, 24, 25, 26, 27, 28, 29, 30, 31, 32, 33, 34, 35, 36, 37, 38, 39, 40, 41, 42, 43, 44, 45, 46, 47, 48, 49, 50, 51, 172, 173, 174, 201, 375, 376, 377]) [999999] (APS W0 (y.i + 1)) apE (.cut 16 (liveL [2, 6, 8, 17, 18, 20, 21, 22, 23, 24, 25, 26, 27, 28, 29, 30, 31, 32, 33, 34, 35, 36, 37, 38, 39, 40, 41, 42, 43, 44, 45, 46, 47, 48, 49, 50, 51, 172, 173, 174, 201, 375, 376, 377]) [999999] (OpW y.s.W × {k : Nat // k < y.s.N}) (apA2 y.s) .nil fun z => .ghost 17 (seqG (focsG 17 21) (docG y.s.d 18 21)) apSw) fun _ => .nil)
  (.ghosts 60 (seqG (expG 17) (cellsG 18 17)) (lyScr W0 y.i))
def apScr (W0 : World) (len : Nat) : Scr XP := .both .nil (.both .nil (.both .nil (.ghost 13 (seqG (oneG 17) (valG 18)) (apLoop W0 len))))
def apKS (a : Option Addr) (len cap : Nat) (most : Int) (W : World) (y : APY W len) (ρ ρ_1 : Nat → Value) (y_1 : OpW y.s.W × {k : Nat // k < y.s.N}) (y_2 : PA) (e : Doc1) (h b : Int) (g2 : Nat → List Value) (l : List (Nat × Nat × List Nat)) (K : KO XP) : Nat → Nat → Prop :=
    (fun (cap_1 : Nat)
    (cap_2 : Nat) => K (SF.mk 474 (nr ρ_1 0 (nr ρ_1 1 (nr ρ_1 3 (nr ρ_1 7 (nr ρ_1 15 (nr ρ 31 (nr ρ_1 63 (rt ρ_1 474 127 128) (nv (SV.c (SC.int false .i64 (↑y_1.snd.val : Int))) (rl ρ_1
    319) (rl ρ_1 447))) (rt ρ_1 474 95 64)) (nr ρ 47 (nr ρ_1 79 (rt ρ_1 474 143 128) (np 149 0 (rl ρ_1 335) (rl ρ_1 463))) (nr ρ_1 111 (nr ρ_1 175 (nv (SV.c (tb false)) tn tn) (rl ρ_1
    431)) (rt ρ_1 474 239 128)))) (np 109 0 (nr ρ 39 (nr ρ_1 71 (rt ρ_1 474 135 128) (nv (SV.c (SC.int false .i64 y_1.fst.v.k)) (rl ρ_1 327) (rl ρ_1 455))) (rt ρ_1 474 103 64)) (nr ρ_1
    55 (nr ρ_1 87 (rt ρ_1 474 151 128) (nv (SV.c (fb (IntKind.u64.wrap y_1.fst.v.k % (8 : Int) == (0 : Int)))) (rl ρ_1 343) (rl ρ_1 471))) (nr ρ_1 119 (rt ρ_1 474 183 128) (nr ρ_1 247
    nu0 tn))))) (nr ρ_1 11 (nr ρ_1 19 (nr ρ 35 (nr ρ_1 67 (rt ρ_1 474 131 128) (np 109 13 (rl ρ_1 323) (rl ρ_1 451))) (rt ρ_1 474 99 64)) (nu (nr ρ_1 83 (rt ρ_1 474 147 128) (nv (SV.agg
    [SC.int false .i64 e.y.cap, SC.int false .i64 e.y.births, SC.int false .i64 e.y.peak, SC.int false .i64 e.y.faults, SC.int false .u64 e.y.x0, SC.int false .u64 e.y.x1, SC.int false
    .u64 e.y.x2, SC.int false .u64 e.y.x3, SC.int false .u64 e.y.x4, SC.int false .u64 e.y.x5, SC.int false .u64 e.y.x6, SC.int false .u64 e.y.x7, SC.int false .u64 e.y.x8, SC.sliv e.A
    false e.L e.C, SC.int false .i64 e.y.t0, SC.int false .i64 e.y.t1, SC.int false .i64 e.y.t2, SC.int false .i64 e.y.t3, SC.int false .i64 e.y.t4, SC.int false .i64 e.y.t5]) (rl ρ_1
    339) (rl ρ_1 467))) (rt ρ_1 474 115 64))) (nr ρ 27 (nr ρ 43 (nr ρ_1 75 (rt ρ_1 474 139 128) (nv (SV.c (SC.int false .i64 (↑y.s.N : Int))) (rl ρ_1 331) (rl ρ_1 459))) (rt ρ_1 474 107
    64)) (nr ρ_1 59 (nr ρ_1 91 (nr ρ_1 155 (nv (SV.c (tb false)) tn tn) (rl ρ_1 411)) (rt ρ_1 474 219 128)) (nr ρ_1 123 (nv (SV.c (SC.int false .i64 (↑y_1.snd.val : Int))) (rl ρ_1 315)
    (rl ρ_1 443)) (rt ρ_1 474 251 128)))))) (nr ρ_1 5 (nr ρ_1 9 (nv (SV.c (SC.sli 142 1 true 0 false (y.s.N + 1) cap_1)) (nr ρ 33 (nr ρ_1 65 (nr ρ_1 129 (nv (SV.c (tb false)) tn tn) (rl
    ρ_1 385)) (nv (SV.agg [SC.int false .i64 e.y.cap, SC.int false .i64 e.y.births, SC.int false .i64 e.y.peak, SC.int false .i64 e.y.faults, SC.int false .u64 e.y.x0, SC.int false .u64
    e.y.x1, SC.int false .u64 e.y.x2, SC.int false .u64 e.y.x3, SC.int false .u64 e.y.x4, SC.int false .u64 e.y.x5, SC.int false .u64 e.y.x6, SC.int false .u64 e.y.x7, SC.int false .u64
    e.y.x8, SC.sliv e.A false e.L e.C, SC.int false .i64 e.y.t0, SC.int false .i64 e.y.t1, SC.int false .i64 e.y.t2, SC.int false .i64 e.y.t3, SC.int false .i64 e.y.t4, SC.int false
    .i64 e.y.t5]) (rl ρ_1 321) (rl ρ_1 449))) (rt ρ_1 474 97 64)) (nu (nr ρ_1 81 (rt ρ_1 474 145 128) (nv (SV.c (SC.sli 142 1 true 0 false (y.s.N + 1) cap_1)) (nv (SV.c (tb false)) tn
    tn) (rl ρ_1 465))) (nr ρ_1 113 (rt ρ_1 474 177 128) (nv (SV.c (tb false)) (rl ρ_1 369) tn)))) (nr ρ 25 (nr ρ 41 (nr ρ_1 73 (rt ρ_1 474 137 128) (nv (SV.c (SC.int false .u64
    (IntKind.u64.wrap y_1.fst.v.k % (8 : Int)) (Bd.w (0 : Int) (7 : Int) (mod_bd Bd.of._proof_1 rfl)))) (rl ρ_1 329) (rl ρ_1 457))) (rt ρ_1 474 105 64)) (nr ρ_1 57 (rt ρ_1 474 89 64)
    (nr ρ_1 121 (rt ρ_1 474 185 128) (nr ρ_1 249 nu0 tn))))) (nr ρ_1 13 (nv (SV.c (SC.int false .i64 (↑y_1.snd.val : Int))) (nr ρ 37 (nr ρ_1 69 (rt ρ_1 474 133 128) (nv (SV.agg [SC.int
    false .i64 y_1.fst.v.k, SC.int false .i64 y_1.fst.v.at', SC.int false .i64 y_1.fst.v.o, SC.sliv y_1.fst.v.wa false y_1.fst.v.wl y_1.fst.v.wc, SC.int false .u64 h, SC.int false .u64
    b, SC.int false .i64 y_1.fst.v.xa, SC.int false .u64 y_1.fst.v.n, SC.int false .u64 y_1.fst.v.m]) (rl ρ_1 325) (rl ρ_1 453))) (rt ρ_1 474 101 64)) (nr ρ_1 53 (nr ρ_1 85 (rt ρ_1 474
    149 128) (nv (SV.c (SC.sli 146 20 true 0 false (y.s.N + 1) cap_2)) (rl ρ_1 341) (rl ρ_1 469))) (rt ρ_1 474 117 64))) (nr ρ 29 (nr ρ 45 (nr ρ_1 77 (rt ρ_1 474 141 128) (nv (SV.c
    (SC.sli 67 1 true 0 false y.s.N y.s.c1)) (rl ρ_1 333) (rl ρ_1 461))) (nr ρ_1 109 (nv (SV.c (SC.int false .i64 (↑len : Int))) (rl ρ_1 301) (rl ρ_1 429)) (rt ρ_1 474 237 128))) (nr
    ρ_1 61 (rt ρ_1 474 93 64) (nr ρ_1 125 (np 100 0 (rl ρ_1 317) (rl ρ_1 445)) (rt ρ_1 474 253 128))))))) (nv (SV.c (SC.int false .i64 most)) (nr ρ_1 4 (nv (SV.c (SC.int true .i64 (0 :
    Int))) (nr ρ_1 16 (nr ρ 32 (nr ρ_1 64 (rt ρ_1 474 128 128) (nv (SV.c (SC.elp 68 (addO true 0 (↑y_1.snd.val : Int).toNat) 20 0)) (rl ρ_1 320) (rl ρ_1 448))) (rt ρ_1 474 96 64)) (nu
    (nr ρ_1 80 (rt ρ_1 474 144 128) (nv (SV.c (SC.sli 141 1 true 0 true 1 1)) (rl ρ_1 336) (rl ρ_1 464))) (nr ρ_1 112 (nr ρ_1 176 (nv (SV.c (fb (IntKind.u64.wrap y_1.fst.v.k % (8 : Int)
    == (5 : Int)))) tn tn) (rl ρ_1 432)) (rt ρ_1 474 240 128)))) (nr ρ 24 (nr ρ 40 (nr ρ_1 72 (rt ρ_1 474 136 128) (nv (SV.c (SC.int false .u64 (IntKind.u64.wrap y_1.fst.v.k) (Bd.w (0 :
    Int) (18446744073709551615 : Int) (Bd.wrapped._proof_6 y_1.fst.v.k)))) (rl ρ_1 328) (rl ρ_1 456))) (rt ρ_1 474 104 64)) (nr ρ_1 56 (nr ρ_1 88 (rt ρ_1 474 152 128) (nv (SV.c (fb
    (IntKind.u64.wrap y_1.fst.v.k % (8 : Int) == (1 : Int)))) (rl ρ_1 344) (rl ρ_1 472))) (nr ρ_1 120 (rt ρ_1 474 184 128) (nr ρ_1 248 nu0 tn))))) (nr ρ_1 12 (np 69 0 (nr ρ 36 (nr ρ_1
    68 (rt ρ_1 474 132 128) (nv (SV.c (SC.sliv e.A false e.L e.C)) (rl ρ_1 324) (rl ρ_1 452))) (rt ρ_1 474 100 64)) (nr ρ_1 52 (nr ρ_1 84 (rt ρ_1 474 148 128) (nv (SV.c (SC.sli 145 20
    true 0 true 1 1)) (rl ρ_1 340) (rl ρ_1 468))) (rt ρ_1 474 116 64))) (nr ρ 28 (nr ρ 44 (nr ρ_1 76 (rt ρ_1 474 140 128) (nv (SV.c (tb true)) (rl ρ_1 332) (rl ρ_1 460))) (nr ρ_1 108
    (nv (SV.c (SC.sliv a false len cap)) (rl ρ_1 300) (rl ρ_1 428)) (rt ρ_1 474 236 128))) (nr ρ_1 60 (nr ρ_1 92 (nr ρ_1 156 (nv (SV.c (fb (IntKind.u64.wrap y_1.fst.v.k % (8 : Int) ==
    (4 : Int)))) tn tn) (rl ρ_1 412)) (rt ρ_1 474 220 128)) (nr ρ_1 124 (nv (SV.c (SC.elp 67 (addO true 0 (↑y_1.snd.val : Int).toNat) 1 0)) (rl ρ_1 316) (rl ρ_1 444)) (rt ρ_1 474 252
    128)))))) (nr ρ 6 (nr ρ_1 10 (nv (SV.c (SC.sli 146 20 true 0 false (y.s.N + 1) cap_2)) (nr ρ 34 (nr ρ_1 66 (nr ρ_1 130 (nv (SV.c (fb (IntKind.u64.wrap y_1.fst.v.k % (8 : Int) == (3
    : Int)))) tn tn) (rl ρ_1 386)) (nv (SV.agg [SC.int false .i64 y_1.fst.v.k, SC.int false .i64 y_1.fst.v.at', SC.int false .i64 y_1.fst.v.o, SC.sliv y_1.fst.v.wa false y_1.fst.v.wl
    y_1.fst.v.wc, SC.int false .u64 y_1.fst.v.h, SC.int false .u64 y_1.fst.v.b, SC.int false .i64 y_1.fst.v.xa, SC.int false .u64 y_1.fst.v.n, SC.int false .u64 y_1.fst.v.m]) (rl ρ_1
    322) (rl ρ_1 450))) (rt ρ_1 474 98 64)) (nu (nr ρ_1 82 (rt ρ_1 474 146 128) (nv (SV.c (SC.sli 68 20 true 0 false y.s.N y.s.c2)) (nv (SV.c (fb (IntKind.u64.wrap y_1.fst.v.k % (8 :
    Int) == (6 : Int)))) tn tn) (rl ρ_1 466))) (nr ρ_1 114 (rt ρ_1 474 178 128) (nv (SV.c (fb (IntKind.u64.wrap y_1.fst.v.k % (8 : Int) == (2 : Int)))) (rl ρ_1 370) tn)))) (nr ρ 26 (nr
    ρ 42 (nr ρ_1 74 (rt ρ_1 474 138 128) (nv (SV.c (SC.sli 67 1 true 0 false y.s.N y.s.c1)) (rl ρ_1 330) (rl ρ_1 458))) (rt ρ_1 474 106 64)) (nr ρ_1 58 (rt ρ_1 474 90 64) (nr ρ_1 122
    (nv (SV.c (SC.sli 67 1 true 0 false y.s.N y.s.c1)) (rl ρ_1 314) (rl ρ_1 442)) (rt ρ_1 474 250 128))))) (nr ρ_1 14 (np 100 0 (nr ρ 38 (nr ρ_1 70 (rt ρ_1 474 134 128) (np 69 0 (rl ρ_1
    326) (rl ρ_1 454))) (rt ρ_1 474 102 64)) (nr ρ_1 54 (nr ρ_1 86 (rt ρ_1 474 150 128) (nv (SV.c (tb false)) (rl ρ_1 342) (rl ρ_1 470))) (rt ρ_1 474 118 64))) (nr ρ 30 (nr ρ 46 (nr ρ_1
    78 (rt ρ_1 474 142 128) (np 100 0 (rl ρ_1 334) (rl ρ_1 462))) (nr ρ_1 110 (nv (SV.c (SC.int false .i64 (↑y.i : Int))) (rl ρ_1 302) (rl ρ_1 430)) (rt ρ_1 474 238 128))) (nr ρ_1 62
    (rt ρ_1 474 94 64) (nr ρ_1 126 (nv (SV.c (SC.sli 68 20 true 0 false y.s.N y.s.c2)) (rl ρ_1 318) (rl ρ_1 446)) (rt ρ_1 474 254 128)))))))) []) (Mem.mk [(99, SO.ext (HO.tied [] y.s.N
    (fun (j : Nat) => some (y.s.d j).x) (↑y_1.snd.val : Int).toNat g2 100)), (100, SO.ext (HO.obj [] y_2)), (0, SO.seen y.s.W), (69, SO.cells [SC.int false .i64 y_1.fst.v.k, SC.int
    false .i64 y_1.fst.v.at', SC.int false .i64 y_1.fst.v.o, SC.sliv y_1.fst.v.wa false y_1.fst.v.wl y_1.fst.v.wc, SC.int false .u64 h, SC.int false .u64 b, SC.int false .i64
    y_1.fst.v.xa, SC.int false .u64 y_1.fst.v.n, SC.int false .u64 y_1.fst.v.m] (OfNat.ofNat 57)), (109, SO.cells [SC.int false .i64 e.y.cap, SC.int false .i64 e.y.births, SC.int false
    .i64 e.y.peak, SC.int false .i64 e.y.faults, SC.int false .u64 e.y.x0, SC.int false .u64 e.y.x1, SC.int false .u64 e.y.x2, SC.int false .u64 e.y.x3, SC.int false .u64 e.y.x4, SC.int
    false .u64 e.y.x5, SC.int false .u64 e.y.x6, SC.int false .u64 e.y.x7, SC.int false .u64 e.y.x8, SC.sliv e.A false e.L e.C, SC.int false .i64 e.y.t0, SC.int false .i64 e.y.t1,
    SC.int false .i64 e.y.t2, SC.int false .i64 e.y.t3, SC.int false .i64 e.y.t4, SC.int false .i64 e.y.t5] 54), (141, SO.cells [sp 149 0] 25), (142, SO.arr 25 1 (y.s.N + 1) cap_1 (fun
    (i : Nat) => if i < y.s.N then g2 i else List.replicate (0 + 1) undef) y.s.N [sp 149 0]), (145, SO.cells [SC.int false .i64 e.y.cap, SC.int false .i64 e.y.births, SC.int false .i64
    e.y.peak, SC.int false .i64 e.y.faults, SC.int false .u64 e.y.x0, SC.int false .u64 e.y.x1, SC.int false .u64 e.y.x2, SC.int false .u64 e.y.x3, SC.int false .u64 e.y.x4, SC.int
    false .u64 e.y.x5, SC.int false .u64 e.y.x6, SC.int false .u64 e.y.x7, SC.int false .u64 e.y.x8, SC.sliv e.A false e.L e.C, SC.int false .i64 e.y.t0, SC.int false .i64 e.y.t1,
    SC.int false .i64 e.y.t2, SC.int false .i64 e.y.t3, SC.int false .i64 e.y.t4, SC.int false .i64 e.y.t5] 54), (146, SO.vals 54 20 (y.s.N + 1) cap_2 fun (i : Nat) => if i < y.s.N then
    if i = (↑y_1.snd.val : Int).toNat then (d3v e) else d3V (y.s.d i).y (y.s.d i).A (y.s.d i).L (y.s.d i).C else (d3v e)), (149, SO.ext (HO.obj [] (PA.mk y_2.cap y_2.used y_2.peak
    y_2.faults y_2.births y_2.fx y_2.high y_2.us y_2.bk l y_2.t)))] 150) (Scr.ghost 57 (arhG 18 21) (Scr.ghost 9999 (seqG (valG 18) (pushTG 17)) Scr.nil)))
theorem wrap_u64_nonneg (n : Int) : 0 ≤ IntKind.u64.wrap n := by rw [← wrapK_eq]; show 0 ≤ n % 18446744073709551616; omega
theorem u64_bd (W : World) (a : Option Addr) : 0 ≤ seenInt .u64 W a ∧ seenInt .u64 W a < 18446744073709551616 := ⟨(seenInt_bd .u64 W a).1, Int.lt_of_le_of_lt (seenInt_bd .u64 W a).2 (by decide)⟩
def apOp {W V : World} (g : Grow W V) {a : Option Addr} {len : Nat} (hc : OpsOk W a len) {i : Nat} (hi : i < len) : OpW V where
  v := ⟨seenInt .i64 V (addOpt (addOpt a (i * 9)) 0), seenInt .i64 V (addOpt (addOpt a (i * 9)) 1), seenInt .i64 V (addOpt (addOpt a (i * 9)) 2), (seenSli V (addOpt (addOpt a (i * 9)) 3)).1, (seenSli V (addOpt (addOpt a (i * 9)) 3)).2.1, (seenSli V (addOpt (addOpt a (i * 9)) 3)).2.2,
    seenInt .u64 V (addOpt (addOpt a (i * 9)) 4), seenInt .u64 V (addOpt (addOpt a (i * 9)) 5), seenInt .i64 V (addOpt (addOpt a (i * 9)) 6), seenInt .u64 V (addOpt (addOpt a (i * 9)) 7), seenInt .u64 V (addOpt (addOpt a (i * 9)) 8)⟩
  k0 := seenInt_bd .i64 V _
  ok := ⟨u64_bd V _, u64_bd V _⟩
  n0 := u64_bd V _
  m0 := u64_bd V _
  ws := fun j hj => by
    have h1 : SeenS W (addOpt (addOpt a (i * 9)) 3) := (hc.ops i hi).2.2.2.1
    have e := (h1.grow g).2
    have hj : j < (seenSli V (addOpt (addOpt a (i * 9)) 3)).2.1 := hj
    rw [e] at hj
    have h2 := (hc.words i hi j hj).grow g
    show Seen .u64 V (addOpt (seenSli V (addOpt (addOpt a (i * 9)) 3)).1 j)
    rw [e]
    exact h2.1
  wsm := fun h0 => by
    have h1 : SeenS W (addOpt (addOpt a (i * 9)) 3) := (hc.ops i hi).2.2.2.1
    have e := (h1.grow g).2
    have h0 : 0 < (seenSli V (addOpt (addOpt a (i * 9)) 3)).2.1 := h0
    rw [e] at h0
    obtain ⟨x, hx, _⟩ := hc.words i hi 0 h0
    show (seenSli V (addOpt (addOpt a (i * 9)) 3)).1.isSome = true
    rw [e]
    cases hh : (opW W a i).1 with
    | none => rw [hh] at hx; cases hx
    | some _ => show (opW W a i).1.isSome = true; rw [hh]; rfl
  wlen := by
    have h1 : SeenS W (addOpt (addOpt a (i * 9)) 3) := (hc.ops i hi).2.2.2.1
    have e := (h1.grow g).2
    show (seenSli V (addOpt (addOpt a (i * 9)) 3)).2.1 ≤ _
    rw [e]
    exact hc.lens i hi
theorem addOpt_isSome {A : Option Addr} (h : A.isSome = true) {n : Nat} : (addOpt A n).isSome = true := by
  cases A with
  | none => cases h
  | some _ => rfl
theorem ly1 {W0 : World} {i : Nat} (q : LY W0 i 1) : (∃ z : LZ W0 i 1, LY.s 0 rfl z = q) ∨ (∃ z : LZ W0 i 1, LY.s 1 rfl z = q) ∨ False := by
  obtain ⟨k, h, z⟩ := q
  match k, h with
  | 0, _ => exact .inl ⟨z, rfl⟩
  | 1, _ => exact .inr (.inl ⟨z, rfl⟩)
  | k + 2, h => exact absurd h (by simp [shB, Nat.ble])
theorem ly2 {W0 : World} {i : Nat} (q : LY W0 i 2) : (∃ z : LZ W0 i 2, LY.s 0 rfl z = q) ∨ (∃ z : LZ W0 i 2, LY.s 1 rfl z = q) ∨ (∃ z : LZ W0 i 2, LY.s 2 rfl z = q) ∨ False := by
  obtain ⟨k, h, z⟩ := q
  match k, h with
  | 0, _ => exact .inl ⟨z, rfl⟩
  | 1, _ => exact .inr (.inl ⟨z, rfl⟩)
  | 2, _ => exact .inr (.inr (.inl ⟨z, rfl⟩))
  | k + 3, h => exact absurd h (by simp [shB, Nat.ble])
theorem ly3 {W0 : World} {i : Nat} (q : LY W0 i 3) : (∃ z : LZ W0 i 3, LY.s 0 rfl z = q) ∨ (∃ z : LZ W0 i 3, LY.s 1 rfl z = q) ∨ (∃ z : LZ W0 i 3, LY.s 2 rfl z = q) ∨ (∃ z : LZ W0 i 3, LY.s 3 rfl z = q) ∨ False := by
  obtain ⟨k, h, z⟩ := q
  match k, h with
  | 0, _ => exact .inl ⟨z, rfl⟩
  | 1, _ => exact .inr (.inl ⟨z, rfl⟩)
  | 2, _ => exact .inr (.inr (.inl ⟨z, rfl⟩))
  | 3, _ => exact .inr (.inr (.inr (.inl ⟨z, rfl⟩)))
  | k + 4, h => exact absurd h (by simp [shB, Nat.ble])
theorem ly4 {W0 : World} {i : Nat} (q : LY W0 i 4) : (∃ z : LZ W0 i 4, LY.s 0 rfl z = q) ∨ (∃ z : LZ W0 i 4, LY.s 1 rfl z = q) ∨ (∃ z : LZ W0 i 4, LY.s 2 rfl z = q) ∨ (∃ z : LZ W0 i 4, LY.s 3 rfl z = q) ∨ (∃ z : LZ W0 i 4, LY.s 4 rfl z = q) ∨ False := by
  obtain ⟨k, h, z⟩ := q
  match k, h with
  | 0, _ => exact .inl ⟨z, rfl⟩
  | 1, _ => exact .inr (.inl ⟨z, rfl⟩)
  | 2, _ => exact .inr (.inr (.inl ⟨z, rfl⟩))
  | 3, _ => exact .inr (.inr (.inr (.inl ⟨z, rfl⟩)))
  | 4, _ => exact .inr (.inr (.inr (.inr (.inl ⟨z, rfl⟩))))
  | k + 5, h => exact absurd h (by simp [shB, Nat.ble])
theorem d3g_intro (d : Doc1) {P : Prop} (h : P) : d3g d d P := by rw [d3g_self]; exact h
def arenaP_1 {W : World} {len : Nat} (y : APY W len) (y_4 : APS W (y.i + 1)) (y_1 : OpW y.s.W × { k : Nat // k < y.s.N }) (y_3 : D3) (a' : Option Addr) (len' cp' : Nat) : Prop :=
 (y_4.N = y.s.N ∧ y_4.c2 = y.s.c2 ∧ ∀ (i : Nat), i < y_4.N → [Value.int .i64 (y_4.d i).y.cap, Value.int .i64 (y_4.d i).y.births, Value.int .i64 (y_4.d i).y.peak, Value.int .i64
 (y_4.d i).y.faults, Value.int .u64 (y_4.d i).y.x0, Value.int .u64 (y_4.d i).y.x1, Value.int .u64 (y_4.d i).y.x2, Value.int .u64 (y_4.d i).y.x3, Value.int .u64 (y_4.d i).y.x4,
 Value.int .u64 (y_4.d i).y.x5, Value.int .u64 (y_4.d i).y.x6, Value.int .u64 (y_4.d i).y.x7, Value.int .u64 (y_4.d i).y.x8, Value.slice (y_4.d i).A (y_4.d i).L (y_4.d i).C,
 Value.int .i64 (y_4.d i).y.t0, Value.int .i64 (y_4.d i).y.t1, Value.int .i64 (y_4.d i).y.t2, Value.int .i64 (y_4.d i).y.t3, Value.int .i64 (y_4.d i).y.t4, Value.int .i64 (y_4.d
 i).y.t5] = if i = (↑y_1.snd.val : Int).toNat then [Value.int .i64 y_3.cap, Value.int .i64 y_3.births, Value.int .i64 y_3.peak, Value.int .i64 y_3.faults, Value.int .u64 y_3.x0,
 Value.int .u64 y_3.x1, Value.int .u64 y_3.x2, Value.int .u64 y_3.x3, Value.int .u64 y_3.x4, Value.int .u64 y_3.x5, Value.int .u64 y_3.x6, Value.int .u64 y_3.x7, Value.int .u64
 y_3.x8, Value.slice a' len' cp', Value.int .i64 y_3.t0, Value.int .i64 y_3.t1, Value.int .i64 y_3.t2, Value.int .i64 y_3.t3, Value.int .i64 y_3.t4, Value.int .i64 y_3.t5] else d3V
 (y.s.d i).y (y.s.d i).A (y.s.d i).L (y.s.d i).C) ∧ True
def arenaP_2 {W : World} {len : Nat} {y : APY W len} (y_3 : APS W (y.i + 1)) (i : Nat) : List Value := [Value.int .i64 (y_3.d i).y.cap, Value.int .i64 (y_3.d i).y.births, Value.int
 .i64 (y_3.d i).y.peak, Value.int .i64 (y_3.d i).y.faults, Value.int .u64 (y_3.d i).y.x0, Value.int .u64 (y_3.d i).y.x1, Value.int .u64 (y_3.d i).y.x2, Value.int .u64 (y_3.d i).y.x3,
 Value.int .u64 (y_3.d i).y.x4, Value.int .u64 (y_3.d i).y.x5, Value.int .u64 (y_3.d i).y.x6, Value.int .u64 (y_3.d i).y.x7, Value.int .u64 (y_3.d i).y.x8, Value.slice (y_3.d i).A
 (y_3.d i).L (y_3.d i).C, Value.int .i64 (y_3.d i).y.t0, Value.int .i64 (y_3.d i).y.t1, Value.int .i64 (y_3.d i).y.t2, Value.int .i64 (y_3.d i).y.t3, Value.int .i64 (y_3.d i).y.t4,
 Value.int .i64 (y_3.d i).y.t5]
def arenaP_3 (most : Int) {W : World} {len : Nat} {y : APY W len} (z_1 z : LZ W y.i 4) (W'_1 : World) (e0_ e1_ e2_ e3_ e4_ e5_ e6_ e7_ : Doc1) : Prop := max (0 : Int) (min most 100)
 = max (0 : Int) (min most 100) ∧ 0 = 0 ∧ z_1.c1 = z.c1 ∧ 0 = 0 ∧ z_1.c2 = z.c2 ∧ 0 = 0 ∧ z_1.c1 = z.c1 ∧ z_1.W = W'_1 ∧ (4 = 4 ∧ z_1.c1 = z.c1 ∧ 0 = 0 ∧ 0 = 0 ∧ 0 = 0 ∧ 0 = 0 ∧
 True) ∧ (4 = 4 ∧ z_1.c2 = z.c2 ∧ d3g e0_ e1_ (d3g e2_ e3_ (d3g e4_ e5_ (d3g e6_ e7_ (True))))) ∧ e0_.x = e1_.x ∧ e2_.x = e3_.x ∧ e4_.x = e5_.x ∧ e6_.x = e7_.x ∧ True
def arenaP_4 (most : Int) {W : World} {len : Nat} {y : APY W len} (z_1 z : LZ W y.i 3) (W'_1 : World) (e0_ e1_ e2_ e3_ e4_ e5_ : Doc1) : Prop := max (0 : Int) (min most 100) = max
 (0 : Int) (min most 100) ∧ 0 = 0 ∧ z_1.c1 = z.c1 ∧ 0 = 0 ∧ z_1.c2 = z.c2 ∧ 0 = 0 ∧ z_1.c1 = z.c1 ∧ z_1.W = W'_1 ∧ (3 = 3 ∧ z_1.c1 = z.c1 ∧ 0 = 0 ∧ 0 = 0 ∧ 0 = 0 ∧ True) ∧ (3 = 3 ∧
 z_1.c2 = z.c2 ∧ d3g e0_ e1_ (d3g e2_ e3_ (d3g e4_ e5_ (True)))) ∧ e0_.x = e1_.x ∧ e2_.x = e3_.x ∧ e4_.x = e5_.x ∧ True
def arenaP_15 (most : Int) (e0_ : Doc1) : Prop := (0 : Int) ≤ min (max 0 (min most 100)) (↑e0_.L : Int) ∧ min (max 0 (min most 100)) (↑e0_.L : Int) ≤ (↑e0_.C : Int)
def arenaP_33 (W'_1 : World) (a : Option Addr) (bs : List (Nat × List Nat)) (e0_ : Doc1) (most : Int) : Prop := RowW W'_1 a bs.length ∧ RowW W'_1 e0_.A (min (max 0 (min most 100))
 (↑e0_.L : Int)).toNat
def arenaP_26 (r : Bool) (bs : List (Nat × List Nat)) (most : Int) (e0_ : Doc1) (W'_1 : World) (a : Option Addr) : Prop := r = true ↔ bs.length = (min (max 0 (min most 100)) (↑e0_.L
 : Int)).toNat ∧ ∀ (j : Nat), j < bs.length → EqB W'_1 a e0_.A j
def arenaP_32 (r : Bool) (W'_1 W : World) : Prop := (!r) = true → false = true ∧ ∃ (W' : World), some W'_1 = some W' ∧ Grow W W'
def arenaP_40 (r : Bool) (e0_ e1_ : Doc1) (W'_1 : World) : Prop := r = true ↔ e0_.L = e1_.L ∧ ∀ (j : Nat), j < e0_.L → EqB W'_1 e0_.A e1_.A j
def arenaP_36 (e0_ e1_ : Doc1) (r : Bool) (W'_1 W : World) : Prop := (false == (alikeP e0_.x e1_.x == r)) = true → false = true ∧ ∃ (W' : World), some W'_1 = some W' ∧ Grow W W'
def arenaP_27 (most : Int) {W : World} {len : Nat} {y : APY W len} (z_1 z : LZ W y.i 2) (W'_1 : World) (e1_ e0_ e2_ e3_ : Doc1) : Prop := max (0 : Int) (min most 100) = max (0 :
 Int) (min most 100) ∧ 0 = 0 ∧ z_1.c1 = z.c1 ∧ 0 = 0 ∧ z_1.c2 = z.c2 ∧ 0 = 0 ∧ z_1.c1 = z.c1 ∧ z_1.W = W'_1 ∧ (2 = 2 ∧ z_1.c1 = z.c1 ∧ 0 = 0 ∧ 0 = 0 ∧ True) ∧ (2 = 2 ∧ z_1.c2 = z.c2
 ∧ d3g e2_ e1_ (d3g e3_ e0_ (True))) ∧ e2_.x = e1_.x ∧ e3_.x = e0_.x ∧ True
def arenaP_35 (e0_ e1_ : Doc1) (W'_1 W : World) : Prop := (false == (alikeP e0_.x e1_.x == false)) = true → false = true ∧ ∃ (W' : World), some W'_1 = some W' ∧ Grow W W'
def arenaP_5 (most : Int) (W' W : World) {len : Nat} (y : APY W len) (z : LZ W y.i 2) (e0_ e1_ : Doc1) : Prop := (arenaP_15 most e0_) ∧ (∀ (W'_1 : World) (a : Option Addr) (cap :
 Nat) (bs L : List (Nat × List Nat)), Grow W' W'_1 → (∃ (z_1 : Nat → Value), ArInv (e0_.x.ar z_1)) → DocOf e0_.x.bs L → bs = List.take (max 0 (min most 100)).toNat L → BlkRow W'_1 a
 bs.length bs → bs.length ≤ cap ∧ cap ≤ 9223372036854775807 → z.c1 = z.c1 ∧ z.c2 = z.c2 ∧ d3e e1_ e1_ (d3e e0_ e0_ (((arenaP_33 W'_1 a bs e0_ most) ∧ ∀ (r : Bool), (arenaP_26 r bs
 most e0_ W'_1 a) → z.c1 = z.c1 ∧ z.c2 = z.c2 ∧ d3e e1_ e1_ (d3e e0_ e0_ ((arenaP_32 r W'_1 W) ∧ ((!r) = false → ((∃ (z_1 : Nat → Value), ArInv (e0_.x.ar z_1)) → (∃ (z_1 : Nat →
 Value), ArInv (e1_.x.ar z_1)) → z.c1 = z.c1 ∧ z.c2 = z.c2 ∧ d3e e1_ e1_ (d3e e0_ e0_ ((fixB e0_.y e1_.y = true → ((RowW W'_1 e0_.A e0_.L ∧ RowW W'_1 e1_.A e1_.L) ∧ ∀ (r : Bool),
 (arenaP_40 r e0_ e1_ W'_1) → (arenaP_36 e0_ e1_ r W'_1 W) ∧ ((false == (alikeP e0_.x e1_.x == r)) = false → ∃ (z_1 : LZ W y.i 2), lyMu (LY.s 2 rfl z_1) < lyMu (LY.s 1 rfl z) ∧
 arenaP_27 most z_1 z W'_1 e1_ e0_ (z_1.d 0) (z_1.d 1))) ∧ True) ∧ (fixB e0_.y e1_.y = false → (arenaP_35 e0_ e1_ W'_1 W) ∧ ((false == (alikeP e0_.x e1_.x == false)) = false → ∃ (z_1
 : LZ W y.i 2), lyMu (LY.s 2 rfl z_1) < lyMu (LY.s 1 rfl z) ∧ arenaP_27 most z_1 z W'_1 e1_ e0_ (z_1.d 0) (z_1.d 1)))))) ∧ True)))) ∧ True))) ∧ True
def arenaP_6 {W : World} {len : Nat} {y : APY W len} (z : LZ W y.i 1) (e0_ : Doc1) : Prop := ∃ (bs : List (Nat × List Nat)), DocAt z.W e0_.A e0_.L e0_.C bs ∧ ∀ (y0 : D3), y0 = d3m
 e0_ → DR e0_.x y0 bs ∧ PAfew e0_.x
def arenaP_28 (most : Int) (e0_ : Doc1) : Prop := (0 : Int) ≤ min (max 0 (min most 100)) (↑e0_.L : Int) ∧ min (max 0 (min most 100)) (↑e0_.L : Int) ≤ (↑e0_.C : Int)
def arenaP_44 (r : Bool) (e0_ : Doc1) (W'_1 : World) : Prop := r = true ↔ e0_.L = e0_.L ∧ ∀ (j : Nat), j < e0_.L → EqB W'_1 e0_.A e0_.A j
def arenaP_41 (r : Bool) (W'_1 W : World) : Prop := (false == (true == r)) = true → false = true ∧ ∃ (W' : World), some W'_1 = some W' ∧ Grow W W'
def arenaP_42 (W'_1 W : World) : Prop := true = true → false = true ∧ ∃ (W' : World), some W'_1 = some W' ∧ Grow W W'
def arenaP_7 (most : Int) (W' W : World) {len : Nat} (y : APY W len) (z : LZ W y.i 2) (e0_ e1_ : Doc1) : Prop := (arenaP_28 most e0_) ∧ (∀ (W'_1 : World) (a : Option Addr) (cap :
 Nat) (bs L : List (Nat × List Nat)), Grow W' W'_1 → (∃ (z_1 : Nat → Value), ArInv (e0_.x.ar z_1)) → DocOf e0_.x.bs L → bs = List.take (max 0 (min most 100)).toNat L → BlkRow W'_1 a
 bs.length bs → bs.length ≤ cap ∧ cap ≤ 9223372036854775807 → z.c1 = z.c1 ∧ z.c2 = z.c2 ∧ d3e e0_ e0_ (d3e e1_ e1_ (((arenaP_33 W'_1 a bs e0_ most) ∧ ∀ (r : Bool), (arenaP_26 r bs
 most e0_ W'_1 a) → z.c1 = z.c1 ∧ z.c2 = z.c2 ∧ d3e e0_ e0_ (d3e e1_ e1_ ((arenaP_32 r W'_1 W) ∧ ((!r) = false → (z.c1 = z.c1 ∧ z.c2 = z.c2 ∧ d3e e0_ e0_ (d3e e1_ e1_ ((fixB e0_.y
 e0_.y = true → ((RowW W'_1 e0_.A e0_.L ∧ RowW W'_1 e0_.A e0_.L) ∧ ∀ (r : Bool), (arenaP_44 r e0_ W'_1) → (arenaP_41 r W'_1 W) ∧ ((false == (true == r)) = false → ∃ (z_1 : LZ W y.i
 2), lyMu (LY.s 1 rfl z_1) < lyMu (LY.s 0 rfl z) ∧ arenaP_27 most z_1 z W'_1 e0_ e1_ (z_1.d 0) (z_1.d 1))) ∧ True) ∧ (fixB e0_.y e0_.y = false → (arenaP_42 W'_1 W) ∧ (true = false →
 ∃ (z_1 : LZ W y.i 2), lyMu (LY.s 1 rfl z_1) < lyMu (LY.s 0 rfl z) ∧ arenaP_27 most z_1 z W'_1 e0_ e1_ (z_1.d 0) (z_1.d 1)))))) ∧ True)))) ∧ True))) ∧ True
def arenaP_8 (most : Int) (W' W : World) {len : Nat} (y : APY W len) (z : LZ W y.i 4) (e0_ e1_ e2_ e3_ : Doc1) : Prop := (arenaP_28 most e0_) ∧ (∀ (W'_1 : World) (a : Option Addr)
 (cap : Nat) (bs L : List (Nat × List Nat)), Grow W' W'_1 → (∃ (z_1 : Nat → Value), ArInv (e0_.x.ar z_1)) → DocOf e0_.x.bs L → bs = List.take (max 0 (min most 100)).toNat L → BlkRow
 W'_1 a bs.length bs → bs.length ≤ cap ∧ cap ≤ 9223372036854775807 → z.c1 = z.c1 ∧ z.c2 = z.c2 ∧ d3e e1_ e1_ (d3e e0_ e0_ (d3e e2_ e2_ (d3e e3_ e3_ (((arenaP_33 W'_1 a bs e0_ most) ∧
 ∀ (r : Bool), (arenaP_26 r bs most e0_ W'_1 a) → z.c1 = z.c1 ∧ z.c2 = z.c2 ∧ d3e e1_ e1_ (d3e e0_ e0_ (d3e e2_ e2_ (d3e e3_ e3_ ((arenaP_32 r W'_1 W) ∧ ((!r) = false → ((∃ (z_1 :
 Nat → Value), ArInv (e0_.x.ar z_1)) → (∃ (z_1 : Nat → Value), ArInv (e1_.x.ar z_1)) → z.c1 = z.c1 ∧ z.c2 = z.c2 ∧ d3e e1_ e1_ (d3e e0_ e0_ (d3e e2_ e2_ (d3e e3_ e3_ ((fixB e0_.y
 e1_.y = true → ((RowW W'_1 e0_.A e0_.L ∧ RowW W'_1 e1_.A e1_.L) ∧ ∀ (r : Bool), (arenaP_40 r e0_ e1_ W'_1) → (arenaP_36 e0_ e1_ r W'_1 W) ∧ ((false == (alikeP e0_.x e1_.x == r)) =
 false → ∃ (z_1 : LZ W y.i 4), lyMu (LY.s 2 rfl z_1) < lyMu (LY.s 1 rfl z) ∧ arenaP_3 most z_1 z W'_1 (z_1.d 0) e1_ (z_1.d 1) e0_ (z_1.d 2) e2_ (z_1.d 3) e3_)) ∧ True) ∧ (fixB e0_.y
 e1_.y = false → (arenaP_35 e0_ e1_ W'_1 W) ∧ ((false == (alikeP e0_.x e1_.x == false)) = false → ∃ (z_1 : LZ W y.i 4), lyMu (LY.s 2 rfl z_1) < lyMu (LY.s 1 rfl z) ∧ arenaP_3 most
 z_1 z W'_1 (z_1.d 0) e1_ (z_1.d 1) e0_ (z_1.d 2) e2_ (z_1.d 3) e3_))))))) ∧ True)))))) ∧ True))))) ∧ True
def arenaP_9 (most : Int) (W' W : World) {len : Nat} (y : APY W len) (z : LZ W y.i 4) (e0_ e1_ e2_ e3_ : Doc1) : Prop := (arenaP_28 most e0_) ∧ (∀ (W'_1 : World) (a : Option Addr)
 (cap : Nat) (bs L : List (Nat × List Nat)), Grow W' W'_1 → (∃ (z_1 : Nat → Value), ArInv (e0_.x.ar z_1)) → DocOf e0_.x.bs L → bs = List.take (max 0 (min most 100)).toNat L → BlkRow
 W'_1 a bs.length bs → bs.length ≤ cap ∧ cap ≤ 9223372036854775807 → z.c1 = z.c1 ∧ z.c2 = z.c2 ∧ d3e e1_ e1_ (d3e e2_ e2_ (d3e e0_ e0_ (d3e e3_ e3_ (((arenaP_33 W'_1 a bs e0_ most) ∧
 ∀ (r : Bool), (arenaP_26 r bs most e0_ W'_1 a) → z.c1 = z.c1 ∧ z.c2 = z.c2 ∧ d3e e1_ e1_ (d3e e2_ e2_ (d3e e0_ e0_ (d3e e3_ e3_ ((arenaP_32 r W'_1 W) ∧ ((!r) = false → ((∃ (z_1 :
 Nat → Value), ArInv (e0_.x.ar z_1)) → (∃ (z_1 : Nat → Value), ArInv (e1_.x.ar z_1)) → z.c1 = z.c1 ∧ z.c2 = z.c2 ∧ d3e e1_ e1_ (d3e e2_ e2_ (d3e e0_ e0_ (d3e e3_ e3_ ((fixB e0_.y
 e1_.y = true → ((RowW W'_1 e0_.A e0_.L ∧ RowW W'_1 e1_.A e1_.L) ∧ ∀ (r : Bool), (arenaP_40 r e0_ e1_ W'_1) → (arenaP_36 e0_ e1_ r W'_1 W) ∧ ((false == (alikeP e0_.x e1_.x == r)) =
 false → ∃ (z_1 : LZ W y.i 4), lyMu (LY.s 3 rfl z_1) < lyMu (LY.s 2 rfl z) ∧ arenaP_3 most z_1 z W'_1 (z_1.d 0) e1_ (z_1.d 1) e2_ (z_1.d 2) e0_ (z_1.d 3) e3_)) ∧ True) ∧ (fixB e0_.y
 e1_.y = false → (arenaP_35 e0_ e1_ W'_1 W) ∧ ((false == (alikeP e0_.x e1_.x == false)) = false → ∃ (z_1 : LZ W y.i 4), lyMu (LY.s 3 rfl z_1) < lyMu (LY.s 2 rfl z) ∧ arenaP_3 most
 z_1 z W'_1 (z_1.d 0) e1_ (z_1.d 1) e2_ (z_1.d 2) e0_ (z_1.d 3) e3_))))))) ∧ True)))))) ∧ True))))) ∧ True
def arenaP_10 (most : Int) (W' W : World) {len : Nat} (y : APY W len) (z : LZ W y.i 4) (e0_ e1_ e2_ e3_ : Doc1) : Prop := (arenaP_28 most e0_) ∧ (∀ (W'_1 : World) (a : Option Addr)
 (cap : Nat) (bs L : List (Nat × List Nat)), Grow W' W'_1 → (∃ (z_1 : Nat → Value), ArInv (e0_.x.ar z_1)) → DocOf e0_.x.bs L → bs = List.take (max 0 (min most 100)).toNat L → BlkRow
 W'_1 a bs.length bs → bs.length ≤ cap ∧ cap ≤ 9223372036854775807 → z.c1 = z.c1 ∧ z.c2 = z.c2 ∧ d3e e1_ e1_ (d3e e2_ e2_ (d3e e3_ e3_ (d3e e0_ e0_ (((arenaP_33 W'_1 a bs e0_ most) ∧
 ∀ (r : Bool), (arenaP_26 r bs most e0_ W'_1 a) → z.c1 = z.c1 ∧ z.c2 = z.c2 ∧ d3e e1_ e1_ (d3e e2_ e2_ (d3e e3_ e3_ (d3e e0_ e0_ ((arenaP_32 r W'_1 W) ∧ ((!r) = false → ((∃ (z_1 :
 Nat → Value), ArInv (e0_.x.ar z_1)) → (∃ (z_1 : Nat → Value), ArInv (e1_.x.ar z_1)) → z.c1 = z.c1 ∧ z.c2 = z.c2 ∧ d3e e1_ e1_ (d3e e2_ e2_ (d3e e3_ e3_ (d3e e0_ e0_ ((fixB e0_.y
 e1_.y = true → ((RowW W'_1 e0_.A e0_.L ∧ RowW W'_1 e1_.A e1_.L) ∧ ∀ (r : Bool), (arenaP_40 r e0_ e1_ W'_1) → (arenaP_36 e0_ e1_ r W'_1 W) ∧ ((false == (alikeP e0_.x e1_.x == r)) =
 false → ∃ (z_1 : LZ W y.i 4), lyMu (LY.s 4 rfl z_1) < lyMu (LY.s 3 rfl z) ∧ arenaP_3 most z_1 z W'_1 (z_1.d 0) e1_ (z_1.d 1) e2_ (z_1.d 2) e3_ (z_1.d 3) e0_)) ∧ True) ∧ (fixB e0_.y
 e1_.y = false → (arenaP_35 e0_ e1_ W'_1 W) ∧ ((false == (alikeP e0_.x e1_.x == false)) = false → ∃ (z_1 : LZ W y.i 4), lyMu (LY.s 4 rfl z_1) < lyMu (LY.s 3 rfl z) ∧ arenaP_3 most
 z_1 z W'_1 (z_1.d 0) e1_ (z_1.d 1) e2_ (z_1.d 2) e3_ (z_1.d 3) e0_))))))) ∧ True)))))) ∧ True))))) ∧ True
def arenaP_11 (most : Int) (W' W : World) {len : Nat} (y : APY W len) (z : LZ W y.i 3) (e0_ e1_ e2_ : Doc1) : Prop := (arenaP_28 most e0_) ∧ (∀ (W'_1 : World) (a : Option Addr) (cap
 : Nat) (bs L : List (Nat × List Nat)), Grow W' W'_1 → (∃ (z_1 : Nat → Value), ArInv (e0_.x.ar z_1)) → DocOf e0_.x.bs L → bs = List.take (max 0 (min most 100)).toNat L → BlkRow W'_1
 a bs.length bs → bs.length ≤ cap ∧ cap ≤ 9223372036854775807 → z.c1 = z.c1 ∧ z.c2 = z.c2 ∧ d3e e1_ e1_ (d3e e0_ e0_ (d3e e2_ e2_ (((arenaP_33 W'_1 a bs e0_ most) ∧ ∀ (r : Bool),
 (arenaP_26 r bs most e0_ W'_1 a) → z.c1 = z.c1 ∧ z.c2 = z.c2 ∧ d3e e1_ e1_ (d3e e0_ e0_ (d3e e2_ e2_ ((arenaP_32 r W'_1 W) ∧ ((!r) = false → ((∃ (z_1 : Nat → Value), ArInv (e0_.x.ar
 z_1)) → (∃ (z_1 : Nat → Value), ArInv (e1_.x.ar z_1)) → z.c1 = z.c1 ∧ z.c2 = z.c2 ∧ d3e e1_ e1_ (d3e e0_ e0_ (d3e e2_ e2_ ((fixB e0_.y e1_.y = true → ((RowW W'_1 e0_.A e0_.L ∧ RowW
 W'_1 e1_.A e1_.L) ∧ ∀ (r : Bool), (arenaP_40 r e0_ e1_ W'_1) → (arenaP_36 e0_ e1_ r W'_1 W) ∧ ((false == (alikeP e0_.x e1_.x == r)) = false → ∃ (z_1 : LZ W y.i 3), lyMu (LY.s 2 rfl
 z_1) < lyMu (LY.s 1 rfl z) ∧ arenaP_4 most z_1 z W'_1 (z_1.d 0) e1_ (z_1.d 1) e0_ (z_1.d 2) e2_)) ∧ True) ∧ (fixB e0_.y e1_.y = false → (arenaP_35 e0_ e1_ W'_1 W) ∧ ((false ==
 (alikeP e0_.x e1_.x == false)) = false → ∃ (z_1 : LZ W y.i 3), lyMu (LY.s 2 rfl z_1) < lyMu (LY.s 1 rfl z) ∧ arenaP_4 most z_1 z W'_1 (z_1.d 0) e1_ (z_1.d 1) e0_ (z_1.d 2) e2_))))))
 ∧ True))))) ∧ True)))) ∧ True
def arenaP_12 (most : Int) (W' W : World) {len : Nat} (y : APY W len) (z : LZ W y.i 3) (e0_ e1_ e2_ : Doc1) : Prop := (arenaP_28 most e0_) ∧ (∀ (W'_1 : World) (a : Option Addr) (cap
 : Nat) (bs L : List (Nat × List Nat)), Grow W' W'_1 → (∃ (z_1 : Nat → Value), ArInv (e0_.x.ar z_1)) → DocOf e0_.x.bs L → bs = List.take (max 0 (min most 100)).toNat L → BlkRow W'_1
 a bs.length bs → bs.length ≤ cap ∧ cap ≤ 9223372036854775807 → z.c1 = z.c1 ∧ z.c2 = z.c2 ∧ d3e e1_ e1_ (d3e e2_ e2_ (d3e e0_ e0_ (((arenaP_33 W'_1 a bs e0_ most) ∧ ∀ (r : Bool),
 (arenaP_26 r bs most e0_ W'_1 a) → z.c1 = z.c1 ∧ z.c2 = z.c2 ∧ d3e e1_ e1_ (d3e e2_ e2_ (d3e e0_ e0_ ((arenaP_32 r W'_1 W) ∧ ((!r) = false → ((∃ (z_1 : Nat → Value), ArInv (e0_.x.ar
 z_1)) → (∃ (z_1 : Nat → Value), ArInv (e1_.x.ar z_1)) → z.c1 = z.c1 ∧ z.c2 = z.c2 ∧ d3e e1_ e1_ (d3e e2_ e2_ (d3e e0_ e0_ ((fixB e0_.y e1_.y = true → ((RowW W'_1 e0_.A e0_.L ∧ RowW
 W'_1 e1_.A e1_.L) ∧ ∀ (r : Bool), (arenaP_40 r e0_ e1_ W'_1) → (arenaP_36 e0_ e1_ r W'_1 W) ∧ ((false == (alikeP e0_.x e1_.x == r)) = false → ∃ (z_1 : LZ W y.i 3), lyMu (LY.s 3 rfl
 z_1) < lyMu (LY.s 2 rfl z) ∧ arenaP_4 most z_1 z W'_1 (z_1.d 0) e1_ (z_1.d 1) e2_ (z_1.d 2) e0_)) ∧ True) ∧ (fixB e0_.y e1_.y = false → (arenaP_35 e0_ e1_ W'_1 W) ∧ ((false ==
 (alikeP e0_.x e1_.x == false)) = false → ∃ (z_1 : LZ W y.i 3), lyMu (LY.s 3 rfl z_1) < lyMu (LY.s 2 rfl z) ∧ arenaP_4 most z_1 z W'_1 (z_1.d 0) e1_ (z_1.d 1) e2_ (z_1.d 2) e0_))))))
 ∧ True))))) ∧ True)))) ∧ True
def arenaP_39 (W : World) {len : Nat} (y : APY W len) (z : LZ W y.i 1) (most : Int) (W'_1 : World) (e0_ : Doc1) : Prop := ∃ (z_1 : LZ W y.i 1), lyMu (LY.s 1 rfl z_1) < lyMu (LY.s 0
 rfl z) ∧ max (0 : Int) (min most 100) = max (0 : Int) (min most 100) ∧ 0 = 0 ∧ z_1.c1 = z.c1 ∧ 0 = 0 ∧ z_1.c2 = z.c2 ∧ 0 = 0 ∧ z_1.c1 = z.c1 ∧ z_1.W = W'_1 ∧ (1 = 1 ∧ z_1.c1 = z.c1
 ∧ 0 = 0 ∧ True) ∧ (1 = 1 ∧ z_1.c2 = z.c2 ∧ d3g (z_1.d 0) e0_ (True)) ∧ (z_1.d 0).x = e0_.x ∧ True
def arenaP_13 (most : Int) (W' W : World) {len : Nat} (y : APY W len) (z : LZ W y.i 1) (e0_ : Doc1) : Prop := (arenaP_28 most e0_) ∧ (∀ (W'_1 : World) (a : Option Addr) (cap : Nat)
 (bs L : List (Nat × List Nat)), Grow W' W'_1 → (∃ (z_1 : Nat → Value), ArInv (e0_.x.ar z_1)) → DocOf e0_.x.bs L → bs = List.take (max 0 (min most 100)).toNat L → BlkRow W'_1 a
 bs.length bs → bs.length ≤ cap ∧ cap ≤ 9223372036854775807 → z.c1 = z.c1 ∧ z.c2 = z.c2 ∧ d3e e0_ e0_ (((arenaP_33 W'_1 a bs e0_ most) ∧ ∀ (r : Bool), (arenaP_26 r bs most e0_ W'_1
 a) → z.c1 = z.c1 ∧ z.c2 = z.c2 ∧ d3e e0_ e0_ ((arenaP_32 r W'_1 W) ∧ ((!r) = false → (z.c1 = z.c1 ∧ z.c2 = z.c2 ∧ d3e e0_ e0_ ((fixB e0_.y e0_.y = true → ((RowW W'_1 e0_.A e0_.L ∧
 RowW W'_1 e0_.A e0_.L) ∧ ∀ (r : Bool), (arenaP_44 r e0_ W'_1) → (arenaP_41 r W'_1 W) ∧ ((false == (true == r)) = false → arenaP_39 W y z most W'_1 e0_)) ∧ True) ∧ (fixB e0_.y e0_.y
 = false → (arenaP_42 W'_1 W) ∧ (true = false → arenaP_39 W y z most W'_1 e0_)))) ∧ True))) ∧ True)) ∧ True
def arenaP_14 (most : Int) (W' W : World) {len : Nat} (y : APY W len) (z : LZ W y.i 4) (e0_ e1_ e2_ e3_ : Doc1) : Prop := (arenaP_28 most e0_) ∧ (∀ (W'_1 : World) (a : Option Addr)
 (cap : Nat) (bs L : List (Nat × List Nat)), Grow W' W'_1 → (∃ (z_1 : Nat → Value), ArInv (e0_.x.ar z_1)) → DocOf e0_.x.bs L → bs = List.take (max 0 (min most 100)).toNat L → BlkRow
 W'_1 a bs.length bs → bs.length ≤ cap ∧ cap ≤ 9223372036854775807 → z.c1 = z.c1 ∧ z.c2 = z.c2 ∧ d3e e0_ e0_ (d3e e1_ e1_ (d3e e2_ e2_ (d3e e3_ e3_ (((arenaP_33 W'_1 a bs e0_ most) ∧
 ∀ (r : Bool), (arenaP_26 r bs most e0_ W'_1 a) → z.c1 = z.c1 ∧ z.c2 = z.c2 ∧ d3e e0_ e0_ (d3e e1_ e1_ (d3e e2_ e2_ (d3e e3_ e3_ ((arenaP_32 r W'_1 W) ∧ ((!r) = false → (z.c1 = z.c1
 ∧ z.c2 = z.c2 ∧ d3e e0_ e0_ (d3e e1_ e1_ (d3e e2_ e2_ (d3e e3_ e3_ ((fixB e0_.y e0_.y = true → ((RowW W'_1 e0_.A e0_.L ∧ RowW W'_1 e0_.A e0_.L) ∧ ∀ (r : Bool), (arenaP_44 r e0_
 W'_1) → (arenaP_41 r W'_1 W) ∧ ((false == (true == r)) = false → ∃ (z_1 : LZ W y.i 4), lyMu (LY.s 1 rfl z_1) < lyMu (LY.s 0 rfl z) ∧ arenaP_3 most z_1 z W'_1 (z_1.d 0) e0_ (z_1.d 1)
 e1_ (z_1.d 2) e2_ (z_1.d 3) e3_)) ∧ True) ∧ (fixB e0_.y e0_.y = false → (arenaP_42 W'_1 W) ∧ (true = false → ∃ (z_1 : LZ W y.i 4), lyMu (LY.s 1 rfl z_1) < lyMu (LY.s 0 rfl z) ∧
 arenaP_3 most z_1 z W'_1 (z_1.d 0) e0_ (z_1.d 1) e1_ (z_1.d 2) e2_ (z_1.d 3) e3_))))))) ∧ True)))))) ∧ True))))) ∧ True
def arenaP_16 {W : World} {len : Nat} {y : APY W len} (z : LZ W y.i 2) (e0_ : Doc1) : Prop := ∃ (bs : List (Nat × List Nat)), DocAt z.W e0_.A e0_.L e0_.C bs ∧ ∀ (y0 : D3), y0 = d3m
 e0_ → DR e0_.x y0 bs ∧ PAfew e0_.x
def arenaP_17 (most : Int) (W' W : World) {len : Nat} (y : APY W len) (z : LZ W y.i 3) (e0_ e1_ e2_ : Doc1) : Prop := (arenaP_15 most e0_) ∧ (∀ (W'_1 : World) (a : Option Addr) (cap
 : Nat) (bs L : List (Nat × List Nat)), Grow W' W'_1 → (∃ (z_1 : Nat → Value), ArInv (e0_.x.ar z_1)) → DocOf e0_.x.bs L → bs = List.take (max 0 (min most 100)).toNat L → BlkRow W'_1
 a bs.length bs → bs.length ≤ cap ∧ cap ≤ 9223372036854775807 → z.c1 = z.c1 ∧ z.c2 = z.c2 ∧ d3e e0_ e0_ (d3e e1_ e1_ (d3e e2_ e2_ (((arenaP_33 W'_1 a bs e0_ most) ∧ ∀ (r : Bool),
 (arenaP_26 r bs most e0_ W'_1 a) → z.c1 = z.c1 ∧ z.c2 = z.c2 ∧ d3e e0_ e0_ (d3e e1_ e1_ (d3e e2_ e2_ ((arenaP_32 r W'_1 W) ∧ ((!r) = false → (z.c1 = z.c1 ∧ z.c2 = z.c2 ∧ d3e e0_ e0_
 (d3e e1_ e1_ (d3e e2_ e2_ ((fixB e0_.y e0_.y = true → ((RowW W'_1 e0_.A e0_.L ∧ RowW W'_1 e0_.A e0_.L) ∧ ∀ (r : Bool), (arenaP_44 r e0_ W'_1) → (arenaP_41 r W'_1 W) ∧ ((false ==
 (true == r)) = false → ∃ (z_1 : LZ W y.i 3), lyMu (LY.s 1 rfl z_1) < lyMu (LY.s 0 rfl z) ∧ arenaP_4 most z_1 z W'_1 (z_1.d 0) e0_ (z_1.d 1) e1_ (z_1.d 2) e2_)) ∧ True) ∧ (fixB e0_.y
 e0_.y = false → (arenaP_42 W'_1 W) ∧ (true = false → ∃ (z_1 : LZ W y.i 3), lyMu (LY.s 1 rfl z_1) < lyMu (LY.s 0 rfl z) ∧ arenaP_4 most z_1 z W'_1 (z_1.d 0) e0_ (z_1.d 1) e1_ (z_1.d
 2) e2_)))))) ∧ True))))) ∧ True)))) ∧ True
def arenaP_18 {W : World} {len : Nat} {y : APY W len} (z : LZ W y.i 3) (bs : List (Nat × List Nat)) (e0_ : Doc1) : Prop := DocAt z.W e0_.A e0_.L e0_.C bs ∧ ∀ (y0 : D3), y0 = d3m e0_
 → DR e0_.x y0 bs ∧ PAfew e0_.x
def arenaP_19 (e : Doc1) : List SC := [SC.int false .i64 e.y.cap, SC.int false .i64 e.y.births, SC.int false .i64 e.y.peak, SC.int false .i64 e.y.faults, SC.int false .u64 e.y.x0,
 SC.int false .u64 e.y.x1, SC.int false .u64 e.y.x2, SC.int false .u64 e.y.x3, SC.int false .u64 e.y.x4, SC.int false .u64 e.y.x5, SC.int false .u64 e.y.x6, SC.int false .u64 e.y.x7,
 SC.int false .u64 e.y.x8, SC.sliv e.A false e.L e.C, SC.int false .i64 e.y.t0, SC.int false .i64 e.y.t1, SC.int false .i64 e.y.t2, SC.int false .i64 e.y.t3, SC.int false .i64
 e.y.t4, SC.int false .i64 e.y.t5]
def arenaP_31 {W : World} {len : Nat} (y : APY W len) (y_1 : OpW y.s.W × { k : Nat // k < y.s.N }) : Prop := (0 : Int) ≤ (↑y_1.snd.val : Int) ∧ (↑y_1.snd.val : Int) < (↑y.s.N : Int)
def arenaP_34 {W : World} {len : Nat} (y : APY W len) (y_1 : OpW y.s.W × { k : Nat // k < y.s.N }) (g : Nat → List Value) : Prop := y.s.N = y.s.N ∧ (↑y_1.snd.val : Int).toNat =
 (↑y_1.snd.val : Int).toNat ∧ g = g
def arenaP_20 (W : World) (len : Nat) (y : APY W len) (y_1 : OpW y.s.W × { k : Nat // k < y.s.N }) (y_2 : parH.X) (e : Doc1) (g : Nat → List Value) (most : Int) (a : Option Addr)
 (cap : Nat) : Prop := (∀ (j : Nat), j < y_1.fst.v.wl → Seen .u64 y.s.W (addOpt y_1.fst.v.wa j)) ∧ y_1.fst.v.wl ≤ 9223372036854775807 ∧ ((∃ (z : Nat → Value), ArInv (PA.ar y_2 z)) →
 ∃ (bs : List (Nat × List Nat)), Lay3Any y.s.W (d3m e) e.A e.L e.C bs y_1.fst.v.wa y_1.fst.v.wl ∧ ∀ (W' : World) (y_3 : D3) (a' : Option Addr) (len' cp' : Nat) (h e_1 : Int), LayOut
 y.s.W (d3m e) e.A e.L e.C bs (words3 y.s.W y_1.fst.v.wa y_1.fst.v.wl) W' y_3 a' len' cp' h e_1 → ((PA.layV y_2 y_1.fst.v.wl != h) = true → false = true ∧ ∃ (W'_1 : World), some W' =
 some W'_1 ∧ Grow W W'_1) ∧ ((PA.layV y_2 y_1.fst.v.wl != h) = false → ((PA.layE y_2 y_1.fst.v.wl != e_1) = true → false = true ∧ ∃ (W'_1 : World), some W' = some W'_1 ∧ Grow W W'_1)
 ∧ ((PA.layE y_2 y_1.fst.v.wl != e_1) = false → (arenaP_31 y y_1) ∧ addO true 0 (↑y_1.snd.val : Int).toNat = (↑y_1.snd.val : Int).toNat ∧ (arenaP_34 y y_1 g) ∧ ∃ (y_4 : APS W (y.i +
 1)), most = most ∧ a = a ∧ len = len ∧ cap = cap ∧ (↑len : Int) = (↑len : Int) ∧ 0 = 0 ∧ y_4.N = y.s.N ∧ y_4.c1 = y.s.c1 ∧ 0 = 0 ∧ y_4.N = y.s.N ∧ y_4.c2 = y.s.c2 ∧ (↑y.i : Int) =
 (↑y.i : Int) ∧ y_4.W = W' ∧ (y_4.N = y.s.N ∧ y_4.c1 = y.s.c1 ∧ (fun (j : Nat) => some (y_4.d j).x) = fun (j : Nat) => if j = (↑y_1.snd.val : Int).toNat then some (PA.layX y_2
 y_1.fst.v.wl (natsOf y_1.fst.v.wl fun (j : Nat) => seenInt .u64 y.s.W (addOpt y_1.fst.v.wa j))) else some (y.s.d j).x) ∧ arenaP_1 y y_4 y_1 y_3 a' len' cp')))
def arenaP_21 (e0_ : Doc1) : Prop := (0 : Int) ≤ (0 : Int) ∧ (0 : Int) < (↑e0_.L : Int) ∧ e0_.A.isSome = true
def arenaP_22 {W : World} {len : Nat} (y : APY W len) (X0 : (Nat) → (Nat) → Prop) (cap_1 : Nat) : Prop := ((y.s.c2 = y.s.c2 ∧ y.s.N ≤ y.s.N) ∧ True ∧ y.s.N + 1 ≤ 1000000000 ∧ ∀
 (cap_2 : Nat), y.s.N + 1 ≤ cap_2 → (X0 cap_1 cap_2)) ∧ True
def arenaP_23 {W : World} {len : Nat} (y : APY W len) (i : Nat) : List Value := [Value.int .i64 (y.s.d i).y.cap, Value.int .i64 (y.s.d i).y.births, Value.int .i64 (y.s.d i).y.peak,
 Value.int .i64 (y.s.d i).y.faults, Value.int .u64 (y.s.d i).y.x0, Value.int .u64 (y.s.d i).y.x1, Value.int .u64 (y.s.d i).y.x2, Value.int .u64 (y.s.d i).y.x3, Value.int .u64 (y.s.d
 i).y.x4, Value.int .u64 (y.s.d i).y.x5, Value.int .u64 (y.s.d i).y.x6, Value.int .u64 (y.s.d i).y.x7, Value.int .u64 (y.s.d i).y.x8, Value.slice (y.s.d i).A (y.s.d i).L (y.s.d i).C,
 Value.int .i64 (y.s.d i).y.t0, Value.int .i64 (y.s.d i).y.t1, Value.int .i64 (y.s.d i).y.t2, Value.int .i64 (y.s.d i).y.t3, Value.int .i64 (y.s.d i).y.t4, Value.int .i64 (y.s.d
 i).y.t5]
def arenaP_24 {W : World} {len : Nat} (y : APY W len) (y_1 : OpW y.s.W × { k : Nat // k < y.s.N }) : List Value := [Value.int .i64 (y.s.d (↑y_1.snd.val : Int).toNat).y.cap,
 Value.int .i64 (y.s.d (↑y_1.snd.val : Int).toNat).y.births, Value.int .i64 (y.s.d (↑y_1.snd.val : Int).toNat).y.peak, Value.int .i64 (y.s.d (↑y_1.snd.val : Int).toNat).y.faults,
 Value.int .u64 (y.s.d (↑y_1.snd.val : Int).toNat).y.x0, Value.int .u64 (y.s.d (↑y_1.snd.val : Int).toNat).y.x1, Value.int .u64 (y.s.d (↑y_1.snd.val : Int).toNat).y.x2, Value.int
 .u64 (y.s.d (↑y_1.snd.val : Int).toNat).y.x3, Value.int .u64 (y.s.d (↑y_1.snd.val : Int).toNat).y.x4, Value.int .u64 (y.s.d (↑y_1.snd.val : Int).toNat).y.x5, Value.int .u64 (y.s.d
 (↑y_1.snd.val : Int).toNat).y.x6, Value.int .u64 (y.s.d (↑y_1.snd.val : Int).toNat).y.x7, Value.int .u64 (y.s.d (↑y_1.snd.val : Int).toNat).y.x8, Value.slice (y.s.d (↑y_1.snd.val :
 Int).toNat).A (y.s.d (↑y_1.snd.val : Int).toNat).L (y.s.d (↑y_1.snd.val : Int).toNat).C, Value.int .i64 (y.s.d (↑y_1.snd.val : Int).toNat).y.t0, Value.int .i64 (y.s.d (↑y_1.snd.val
 : Int).toNat).y.t1, Value.int .i64 (y.s.d (↑y_1.snd.val : Int).toNat).y.t2, Value.int .i64 (y.s.d (↑y_1.snd.val : Int).toNat).y.t3, Value.int .i64 (y.s.d (↑y_1.snd.val :
 Int).toNat).y.t4, Value.int .i64 (y.s.d (↑y_1.snd.val : Int).toNat).y.t5]
def arenaP_25 {W : World} {len : Nat} {y : APY W len} (z : LZ W y.i 4) (e0_ : Doc1) : Prop := ∃ (bs : List (Nat × List Nat)), DocAt z.W e0_.A e0_.L e0_.C bs ∧ ∀ (y0 : D3), y0 = d3m
 e0_ → DR e0_.x y0 bs ∧ PAfew e0_.x
def arenaP_29 {W : World} {len : Nat} (y : APY W len) (e : Doc1) (X0 : (Nat) → (Nat) → Prop) : Prop := (y.s.c1 = y.s.c1 ∧ y.s.N ≤ y.s.N) ∧ True ∧ y.s.N + 1 ≤ 1000000000 ∧ ∀ (cap_1 :
 Nat), y.s.N + 1 ≤ cap_1 → d3e e e ((arenaP_22 y X0 cap_1) ∧ True)
def arenaP_30 {W : World} {len : Nat} (y : APY W len) (e : Doc1) (X0 : (Nat) → (Nat) → Prop) : Prop := ((y.s.c1 = y.s.c1 ∧ y.s.N ≤ y.s.N) ∧ True ∧ y.s.N + 1 ≤ 1000000000 ∧ ∀ (cap_1
 : Nat), y.s.N + 1 ≤ cap_1 → d3e e e (arenaP_22 y X0 cap_1)) ∧ True
def arenaP_37 {W : World} {len : Nat} {y : APY W len} (y_1 : OpW y.s.W × { k : Nat // k < y.s.N }) (h b : Int) : List SC := [SC.int false .i64 y_1.fst.v.k, SC.int false .i64
 y_1.fst.v.at', SC.int false .i64 y_1.fst.v.o, SC.sliv y_1.fst.v.wa false y_1.fst.v.wl y_1.fst.v.wc, SC.int false .u64 h, SC.int false .u64 b, SC.int false .i64 y_1.fst.v.xa, SC.int
 false .u64 y_1.fst.v.n, SC.int false .u64 y_1.fst.v.m]
def arenaP_38 (y_2 : parH.X) (b : Int) (W : World) {len : Nat} {y : APY W len} (y_1 : OpW y.s.W × { k : Nat // k < y.s.N }) (y0 : D3) (bs : List (Nat × List Nat)) (W' : World) :
 Prop := (PA.atE y_2 b y_1.fst.v.xa != get3E y0 bs b y_1.fst.v.xa) = true → false = true ∧ ∃ (W'_1 : World), some W' = some W'_1 ∧ Grow W W'_1
def arenaP_43 (b : Int) (y_2 : parH.X) : Prop := ((0 : Int) ≤ b ∧ b < (18446744073709551616 : Int)) ∧ y_2.fx.length = 9
theorem arenaPlays_vc (W : World) (a : Option Addr) (len cap : Nat) (c most : Int) : (callN Try.prog (tblAP : List (Smry Try.prog XP)) (fun _ t => Nat.beq t 180 || Nat.beq t 200) 100 20 3 [.c (.int false .i64 c), .c (.sliv a false len cap), .c (.int false .i64 most)] ⟨[(0, .seen W)], 1⟩ (apScr W len) (fun v m _ => retGrow W v m)) = (
 OpsOk W a len ∧ ∀ (b : Bool), (b = false → len ≤ 100) → (b = true → true = true ∧ ∃ (W' : World), some W = some W' ∧ Grow W W') ∧ (b = false → ((0 : Int) ≤ c ∧ c ≤ (60000 : Int) →
 (decide (c < (0 : Int)) = true → Stuck 962) ∧ (decide (c < (0 : Int)) = false → (decide (c > (60000 : Int)) = true → Stuck 962) ∧ (decide (c > (60000 : Int)) = false → (∃ (y : APY W
 len), most = most ∧ a = a ∧ len = len ∧ cap = cap ∧ (↑len : Int) = (↑len : Int) ∧ 0 = 0 ∧ y.s.N = 1 ∧ y.s.c1 = 1 ∧ 0 = 0 ∧ y.s.N = 1 ∧ y.s.c2 = 1 ∧ (↑y.i : Int) = (0 : Int) ∧ y.s.W
 = W ∧ (y.s.N = 1 ∧ y.s.c1 = 1 ∧ (fun (j : Nat) => some (y.s.d j).x) = fun (x : Nat) => some (PA.new c.toNat)) ∧ (y.s.N = 1 ∧ y.s.c2 = 1 ∧ ∀ (i : Nat), i < y.s.N → (arenaP_23 y i) =
 [Value.int .i64 c, Value.int .i64 (0 : Int), Value.int .i64 (0 : Int), Value.int .i64 (0 : Int), Value.int .u64 (0 : Int), Value.int .u64 (0 : Int), Value.int .u64 (0 : Int),
 Value.int .u64 (0 : Int), Value.int .u64 (0 : Int), Value.int .u64 (0 : Int), Value.int .u64 (0 : Int), Value.int .u64 (0 : Int), Value.int .u64 (0 : Int), Value.slice none 0 0,
 Value.int .i64 (0 : Int), Value.int .i64 (0 : Int), Value.int .i64 (0 : Int), Value.int .i64 (0 : Int), Value.int .i64 (0 : Int), Value.int .i64 (0 : Int)]) ∧ True) ∧ ∀ (y : APY W
 len) (ρ : Nat → Value), (decide ((↑y.i : Int) < (↑len : Int)) = true → (((0 : Int) ≤ (↑y.i : Int) ∧ (↑y.i : Int) < (↑len : Int) ∧ a.isSome = true) ∧ ((∃ (x : Addr), addOpt (addOpt a
 ((↑y.i : Int).toNat * Try.prog.types[57].size)) 0 = some x ∧ y.s.W.cell? x = some (Value.int .i64 (seenInt .i64 y.s.W (addOpt (addOpt a ((↑y.i : Int).toNat * 9)) 0)))) ∧ (∃ (x :
 Addr), addOpt (addOpt a ((↑y.i : Int).toNat * Try.prog.types[57].size)) (0 + 1) = some x ∧ y.s.W.cell? x = some (Value.int .i64 (seenInt .i64 y.s.W (addOpt (addOpt a ((↑y.i :
 Int).toNat * 9)) 1)))) ∧ (∃ (x : Addr), addOpt (addOpt a ((↑y.i : Int).toNat * Try.prog.types[57].size)) (0 + 1 + 1) = some x ∧ y.s.W.cell? x = some (Value.int .i64 (seenInt .i64
 y.s.W (addOpt (addOpt a ((↑y.i : Int).toNat * 9)) 2)))) ∧ (∃ (x : Addr), addOpt (addOpt a ((↑y.i : Int).toNat * Try.prog.types[57].size)) (0 + 1 + 1 + 1) = some x ∧ y.s.W.cell? x =
 some (Value.slice (seenSli y.s.W (addOpt (addOpt a ((↑y.i : Int).toNat * Try.prog.types[57].size)) (0 + 1 + 1 + 1))).fst (seenSli y.s.W (addOpt (addOpt a ((↑y.i : Int).toNat * 9))
 3)).snd.fst (seenSli y.s.W (addOpt (addOpt a ((↑y.i : Int).toNat * 9)) 3)).snd.snd)) ∧ (∃ (x : Addr), addOpt (addOpt a ((↑y.i : Int).toNat * Try.prog.types[57].size)) (0 + 1 + 1 + 1
 + 1) = some x ∧ y.s.W.cell? x = some (Value.int .u64 (seenInt .u64 y.s.W (addOpt (addOpt a ((↑y.i : Int).toNat * 9)) 4)))) ∧ (∃ (x : Addr), addOpt (addOpt a ((↑y.i : Int).toNat *
 Try.prog.types[57].size)) (0 + 1 + 1 + 1 + 1 + 1) = some x ∧ y.s.W.cell? x = some (Value.int .u64 (seenInt .u64 y.s.W (addOpt (addOpt a ((↑y.i : Int).toNat * 9)) 5)))) ∧ (∃ (x :
 Addr), addOpt (addOpt a ((↑y.i : Int).toNat * Try.prog.types[57].size)) (0 + 1 + 1 + 1 + 1 + 1 + 1) = some x ∧ y.s.W.cell? x = some (Value.int .i64 (seenInt .i64 y.s.W (addOpt
 (addOpt a ((↑y.i : Int).toNat * 9)) 6)))) ∧ (∃ (x : Addr), addOpt (addOpt a ((↑y.i : Int).toNat * Try.prog.types[57].size)) (0 + 1 + 1 + 1 + 1 + 1 + 1 + 1) = some x ∧ y.s.W.cell? x
 = some (Value.int .u64 (seenInt .u64 y.s.W (addOpt (addOpt a ((↑y.i : Int).toNat * 9)) 7)))) ∧ (∃ (x : Addr), addOpt (addOpt a ((↑y.i : Int).toNat * Try.prog.types[57].size)) (0 + 1
 + 1 + 1 + 1 + 1 + 1 + 1 + 1) = some x ∧ y.s.W.cell? x = some (Value.int .u64 (seenInt .u64 y.s.W (addOpt (addOpt a ((↑y.i : Int).toNat * 9)) 8)))) ∧ True) ∧ (((0 : Int) ≤ (↑y.s.N :
 Int) ∧ (↑y.s.N : Int) < (18446744073709551616 : Int)) ∧ ((0 : Int) ≤ IntKind.u64.wrap (seenInt .i64 y.s.W (addOpt (addOpt a ((↑y.i : Int).toNat * 9)) 1)) ∧ (0 : Int) < (↑y.s.N :
 Int)) ∧ ((-9223372036854775808 : Int) ≤ IntKind.u64.wrap (seenInt .i64 y.s.W (addOpt (addOpt a ((↑y.i : Int).toNat * 9)) 1)) % (↑y.s.N : Int) ∧ IntKind.u64.wrap (seenInt .i64 y.s.W
 (addOpt (addOpt a ((↑y.i : Int).toNat * 9)) 1)) % (↑y.s.N : Int) ≤ (9223372036854775807 : Int)) ∧ ∃ (y_1 : OpW y.s.W × { k : Nat // k < y.s.N }), most = most ∧ ρ 6 = ρ 6 ∧ ρ 22 = ρ
 22 ∧ ρ 23 = ρ 23 ∧ ρ 24 = ρ 24 ∧ ρ 25 = ρ 25 ∧ ρ 26 = ρ 26 ∧ ρ 27 = ρ 27 ∧ ρ 28 = ρ 28 ∧ ρ 29 = ρ 29 ∧ ρ 30 = ρ 30 ∧ ρ 31 = ρ 31 ∧ ρ 32 = ρ 32 ∧ ρ 33 = ρ 33 ∧ ρ 34 = ρ 34 ∧ ρ 35 = ρ
 35 ∧ ρ 36 = ρ 36 ∧ ρ 37 = ρ 37 ∧ ρ 38 = ρ 38 ∧ ρ 39 = ρ 39 ∧ ρ 40 = ρ 40 ∧ ρ 41 = ρ 41 ∧ ρ 42 = ρ 42 ∧ ρ 43 = ρ 43 ∧ ρ 44 = ρ 44 ∧ ρ 45 = ρ 45 ∧ ρ 46 = ρ 46 ∧ ρ 47 = ρ 47 ∧ a = a ∧
 len = len ∧ cap = cap ∧ (↑len : Int) = (↑len : Int) ∧ ρ 201 = ρ 201 ∧ 0 = 0 ∧ y.s.N = y.s.N ∧ y.s.c1 = y.s.c1 ∧ 0 = 0 ∧ y.s.N = y.s.N ∧ y.s.c2 = y.s.c2 ∧ (↑y.i : Int) = (↑y.i : Int)
 ∧ (↑y_1.snd.val : Int) = IntKind.u64.wrap (seenInt .i64 y.s.W (addOpt (addOpt a ((↑y.i : Int).toNat * 9)) 1)) % (↑y.s.N : Int) ∧ y.s.W = y.s.W ∧ (y.s.N = y.s.N ∧ y.s.c1 = y.s.c1 ∧
 (fun (j : Nat) => some (y.s.d j).x) = fun (j : Nat) => some (y.s.d j).x) ∧ (y.s.N = y.s.N ∧ y.s.c2 = y.s.c2 ∧ ∀ (i : Nat), i < y.s.N → (arenaP_23 y i) = (arenaP_23 y i)) ∧
 (y_1.fst.v.k = seenInt .i64 y.s.W (addOpt (addOpt a ((↑y.i : Int).toNat * 9)) 0) ∧ y_1.fst.v.at' = seenInt .i64 y.s.W (addOpt (addOpt a ((↑y.i : Int).toNat * 9)) 1) ∧ y_1.fst.v.o =
 seenInt .i64 y.s.W (addOpt (addOpt a ((↑y.i : Int).toNat * 9)) 2) ∧ (y_1.fst.v.wa = (seenSli y.s.W (addOpt (addOpt a ((↑y.i : Int).toNat * Try.prog.types[57].size)) (0 + 1 + 1 +
 1))).fst ∧ y_1.fst.v.wl = (seenSli y.s.W (addOpt (addOpt a ((↑y.i : Int).toNat * 9)) 3)).snd.fst ∧ y_1.fst.v.wc = (seenSli y.s.W (addOpt (addOpt a ((↑y.i : Int).toNat * 9))
 3)).snd.snd) ∧ y_1.fst.v.h = seenInt .u64 y.s.W (addOpt (addOpt a ((↑y.i : Int).toNat * 9)) 4) ∧ y_1.fst.v.b = seenInt .u64 y.s.W (addOpt (addOpt a ((↑y.i : Int).toNat * 9)) 5) ∧
 y_1.fst.v.xa = seenInt .i64 y.s.W (addOpt (addOpt a ((↑y.i : Int).toNat * 9)) 6) ∧ y_1.fst.v.n = seenInt .u64 y.s.W (addOpt (addOpt a ((↑y.i : Int).toNat * 9)) 7) ∧ y_1.fst.v.m =
 seenInt .u64 y.s.W (addOpt (addOpt a ((↑y.i : Int).toNat * 9)) 8) ∧ True) ∧ True) ∧ ∀ (y_1 : OpW y.s.W × { k : Nat // k < y.s.N }) (ρ_1 : Nat → Value), ((arenaP_31 y y_1) ∧ (some
 (y.s.d (↑y_1.snd.val : Int).toNat).x).isSome = true) ∧ ∀ (g : Nat → List Value) (y_2 : parH.X), some (y.s.d (↑y_1.snd.val : Int).toNat).x = some y_2 → ((arenaP_31 y y_1) ∧
 (arenaP_24 y y_1) = (arenaP_24 y y_1)) ∧ ∀ (e : Doc1), e = y.s.d (↑y_1.snd.val : Int).toNat → (arenaP_31 y y_1) ∧ addO true 0 (↑y_1.snd.val : Int).toNat = (↑y_1.snd.val : Int).toNat
 ∧ (arenaP_31 y y_1) ∧ addO true 0 (↑y_1.snd.val : Int).toNat = (↑y_1.snd.val : Int).toNat ∧ (y.s.N = y.s.N ∧ y.s.c2 = y.s.c2 ∧ ((fun (j : Nat) => d3V (y.s.d j).y (y.s.d j).A (y.s.d
 j).L (y.s.d j).C) = fun (j : Nat) => d3V (y.s.d j).y (y.s.d j).A (y.s.d j).L (y.s.d j).C) ∧ (↑y_1.snd.val : Int).toNat = (↑y_1.snd.val : Int).toNat ∧ d3e e e (y.s.N = y.s.N ∧ y.s.c1
 = y.s.c1 ∧ g = g ∧ (↑y_1.snd.val : Int).toNat = (↑y_1.snd.val : Int).toNat ∧ y.s.W = y.s.W ∧ (((∃ (bs : List (Nat × List Nat)), DocAt y.s.W e.A e.L e.C bs) ∧ ((0 : Int) ≤
 y_1.fst.v.h ∧ y_1.fst.v.h < (18446744073709551616 : Int)) ∧ (0 : Int) ≤ y_1.fst.v.b ∧ y_1.fst.v.b < (18446744073709551616 : Int)) ∧ ∀ (h b : Int), ((0 : Int) ≤ h ∧ h <
 (18446744073709551616 : Int)) ∧ (0 : Int) ≤ b ∧ b < (18446744073709551616 : Int) → ((IntKind.u64.wrap y_1.fst.v.k % (8 : Int) == (0 : Int)) = true → arenaP_20 W len y y_1 y_2 e g
 most a cap) ∧ ((IntKind.u64.wrap y_1.fst.v.k % (8 : Int) == (0 : Int)) = false → ((IntKind.u64.wrap y_1.fst.v.k % (8 : Int) == (1 : Int)) = true → arenaP_20 W len y y_1 y_2 e g most
 a cap) ∧ ((IntKind.u64.wrap y_1.fst.v.k % (8 : Int) == (1 : Int)) = false → ((IntKind.u64.wrap y_1.fst.v.k % (8 : Int) == (2 : Int)) = true → ∃ (bs : List (Nat × List Nat)), DocAt
 y.s.W e.A e.L e.C bs ∧ ∀ (y0 : D3), y0 = d3m e → D3Ok y0 ∧ ∀ (W' : World) (a' : Option Addr) (len' cp' : Nat) (y' : D3) (bs' : List (Nat × List Nat)), Grow y.s.W W' → DocAt W' a'
 len' cp' bs' → y' = freeO.Y (DArg.mk h (0 : Int) (0 : Int) (0 : Int)) y0 bs → bs' = freeO.B (DArg.mk h (0 : Int) (0 : Int) (0 : Int)) y0 bs → ((0 : Int) ≤ h ∧ h <
 (18446744073709551616 : Int)) ∧ ((∃ (z : Nat → Value), ArInv (PA.ar y_2 z)) → ((PA.frE y_2 h != free3E bs h) = true → false = true ∧ ∃ (W'_1 : World), some W' = some W'_1 ∧ Grow W
 W'_1) ∧ ((PA.frE y_2 h != free3E bs h) = false → (arenaP_31 y y_1) ∧ addO true 0 (↑y_1.snd.val : Int).toNat = (↑y_1.snd.val : Int).toNat ∧ (arenaP_34 y y_1 g) ∧ ∃ (y_3 : APS W (y.i
 + 1)), most = most ∧ a = a ∧ len = len ∧ cap = cap ∧ (↑len : Int) = (↑len : Int) ∧ 0 = 0 ∧ y_3.N = y.s.N ∧ y_3.c1 = y.s.c1 ∧ 0 = 0 ∧ y_3.N = y.s.N ∧ y_3.c2 = y.s.c2 ∧ (↑y.i : Int) =
 (↑y.i : Int) ∧ y_3.W = W' ∧ (y_3.N = y.s.N ∧ y_3.c1 = y.s.c1 ∧ (fun (j : Nat) => some (y_3.d j).x) = fun (j : Nat) => if j = (↑y_1.snd.val : Int).toNat then some (PA.frX y_2 h) else
 some (y.s.d j).x) ∧ arenaP_1 y y_3 y_1 y' a' len' cp'))) ∧ ((IntKind.u64.wrap y_1.fst.v.k % (8 : Int) == (2 : Int)) = false → ((IntKind.u64.wrap y_1.fst.v.k % (8 : Int) == (3 :
 Int)) = true → (arenaP_43 b y_2) ∧ ((∃ (z : Nat → Value), ArInv (PA.ar y_2 z)) → ∃ (bs : List (Nat × List Nat)), DocAt y.s.W e.A e.L e.C bs ∧ ∀ (y0 : D3), y0 = d3m e → D3Ok y0 ∧ ∀
 (W' : World) (a' : Option Addr) (len' cp' : Nat) (y' : D3) (bs' : List (Nat × List Nat)), Grow y.s.W W' → DocAt W' a' len' cp' bs' → y' = readO.Y (DArg.mk b y_1.fst.v.xa (0 : Int)
 (0 : Int)) y0 bs → bs' = bs → ((PA.rdV y_2 b y_1.fst.v.xa != get3W y0 bs b y_1.fst.v.xa) = true → false = true ∧ ∃ (W'_1 : World), some W' = some W'_1 ∧ Grow W W'_1) ∧ ((PA.rdV y_2
 b y_1.fst.v.xa != get3W y0 bs b y_1.fst.v.xa) = false → (arenaP_38 y_2 b W y_1 y0 bs W') ∧ ((PA.atE y_2 b y_1.fst.v.xa != get3E y0 bs b y_1.fst.v.xa) = false → (arenaP_31 y y_1) ∧
 addO true 0 (↑y_1.snd.val : Int).toNat = (↑y_1.snd.val : Int).toNat ∧ (arenaP_34 y y_1 g) ∧ ∃ (y_3 : APS W (y.i + 1)), most = most ∧ a = a ∧ len = len ∧ cap = cap ∧ (↑len : Int) =
 (↑len : Int) ∧ 0 = 0 ∧ y_3.N = y.s.N ∧ y_3.c1 = y.s.c1 ∧ 0 = 0 ∧ y_3.N = y.s.N ∧ y_3.c2 = y.s.c2 ∧ (↑y.i : Int) = (↑y.i : Int) ∧ y_3.W = W' ∧ (y_3.N = y.s.N ∧ y_3.c1 = y.s.c1 ∧ (fun
 (j : Nat) => some (y_3.d j).x) = fun (j : Nat) => if j = (↑y_1.snd.val : Int).toNat then some (PA.rdX y_2 b y_1.fst.v.xa) else some (y.s.d j).x) ∧ arenaP_1 y y_3 y_1 y' a' len'
 cp')))) ∧ ((IntKind.u64.wrap y_1.fst.v.k % (8 : Int) == (3 : Int)) = false → ((IntKind.u64.wrap y_1.fst.v.k % (8 : Int) == (4 : Int)) = true → ∃ (bs : List (Nat × List Nat)), DocAt
 y.s.W e.A e.L e.C bs ∧ ∀ (y0 : D3), y0 = d3m e → (D3Ok y0 ∧ (0 : Int) ≤ y_1.fst.v.n ∧ y_1.fst.v.n < (18446744073709551616 : Int)) ∧ ∀ (W' : World) (a' : Option Addr) (len' cp' :
 Nat) (y' : D3) (bs' : List (Nat × List Nat)), Grow y.s.W W' → DocAt W' a' len' cp' bs' → y' = writeO.Y (DArg.mk b y_1.fst.v.xa (0 : Int) y_1.fst.v.n) y0 bs → bs' = writeO.B (DArg.mk
 b y_1.fst.v.xa (0 : Int) y_1.fst.v.n) y0 bs → ((arenaP_43 b y_2) ∧ (0 : Int) ≤ y_1.fst.v.n ∧ y_1.fst.v.n < (18446744073709551616 : Int)) ∧ ((∃ (z : Nat → Value), ArInv (PA.ar y_2
 z)) → (arenaP_38 y_2 b W y_1 y0 bs W') ∧ ((PA.atE y_2 b y_1.fst.v.xa != get3E y0 bs b y_1.fst.v.xa) = false → (arenaP_31 y y_1) ∧ addO true 0 (↑y_1.snd.val : Int).toNat =
 (↑y_1.snd.val : Int).toNat ∧ (arenaP_34 y y_1 g) ∧ ∃ (y_3 : APS W (y.i + 1)), most = most ∧ a = a ∧ len = len ∧ cap = cap ∧ (↑len : Int) = (↑len : Int) ∧ 0 = 0 ∧ y_3.N = y.s.N ∧
 y_3.c1 = y.s.c1 ∧ 0 = 0 ∧ y_3.N = y.s.N ∧ y_3.c2 = y.s.c2 ∧ (↑y.i : Int) = (↑y.i : Int) ∧ y_3.W = W' ∧ (y_3.N = y.s.N ∧ y_3.c1 = y.s.c1 ∧ (fun (j : Nat) => some (y_3.d j).x) = fun
 (j : Nat) => if j = (↑y_1.snd.val : Int).toNat then some (PA.wrX y_2 b y_1.fst.v.xa y_1.fst.v.n) else some (y.s.d j).x) ∧ arenaP_1 y y_3 y_1 y' a' len' cp'))) ∧ ((IntKind.u64.wrap
 y_1.fst.v.k % (8 : Int) == (4 : Int)) = false → ((IntKind.u64.wrap y_1.fst.v.k % (8 : Int) == (5 : Int)) = true → ((arenaP_43 b y_2) ∧ ((0 : Int) ≤ y_1.fst.v.m ∧ y_1.fst.v.m <
 (18446744073709551616 : Int)) ∧ (0 : Int) ≤ y_1.fst.v.n) ∧ ((∃ (z : Nat → Value), ArInv (PA.ar y_2 z)) → ∃ (bs : List (Nat × List Nat)), DocAt y.s.W e.A e.L e.C bs ∧ ∀ (y0 : D3), y0
 = d3m e → (D3Ok y0 ∧ (0 : Int) ≤ y_1.fst.v.m ∧ y_1.fst.v.m < (18446744073709551616 : Int)) ∧ ∀ (W' : World) (a' : Option Addr) (len' cp' : Nat) (y' : D3) (bs' : List (Nat × List
 Nat)), Grow y.s.W W' → DocAt W' a' len' cp' bs' → y' = swapO.Y (DArg.mk b y_1.fst.v.xa y_1.fst.v.n y_1.fst.v.m) y0 bs → bs' = swapO.B (DArg.mk b y_1.fst.v.xa y_1.fst.v.n
 y_1.fst.v.m) y0 bs → ((false == (PA.swB y_2 b y_1.fst.v.xa y_1.fst.v.n == swap3R y0 bs b y_1.fst.v.xa y_1.fst.v.n)) = true → false = true ∧ ∃ (W'_1 : World), some W' = some W'_1 ∧
 Grow W W'_1) ∧ ((false == (PA.swB y_2 b y_1.fst.v.xa y_1.fst.v.n == swap3R y0 bs b y_1.fst.v.xa y_1.fst.v.n)) = false → (arenaP_38 y_2 b W y_1 y0 bs W') ∧ ((PA.atE y_2 b
 y_1.fst.v.xa != get3E y0 bs b y_1.fst.v.xa) = false → (arenaP_31 y y_1) ∧ addO true 0 (↑y_1.snd.val : Int).toNat = (↑y_1.snd.val : Int).toNat ∧ (arenaP_34 y y_1 g) ∧ ∃ (y_3 : APS W
 (y.i + 1)), most = most ∧ a = a ∧ len = len ∧ cap = cap ∧ (↑len : Int) = (↑len : Int) ∧ 0 = 0 ∧ y_3.N = y.s.N ∧ y_3.c1 = y.s.c1 ∧ 0 = 0 ∧ y_3.N = y.s.N ∧ y_3.c2 = y.s.c2 ∧ (↑y.i :
 Int) = (↑y.i : Int) ∧ y_3.W = W' ∧ (y_3.N = y.s.N ∧ y_3.c1 = y.s.c1 ∧ (fun (j : Nat) => some (y_3.d j).x) = fun (j : Nat) => if j = (↑y_1.snd.val : Int).toNat then some (PA.swX y_2
 b y_1.fst.v.xa y_1.fst.v.n y_1.fst.v.m) else some (y.s.d j).x) ∧ arenaP_1 y y_3 y_1 y' a' len' cp')))) ∧ ((IntKind.u64.wrap y_1.fst.v.k % (8 : Int) == (5 : Int)) = false →
 ((IntKind.u64.wrap y_1.fst.v.k % (8 : Int) == (6 : Int)) = true → ((arenaP_43 b y_2) ∧ (0 : Int) ≤ y_1.fst.v.n ∧ y_1.fst.v.n < (18446744073709551616 : Int)) ∧ ((∃ (z : Nat → Value),
 ArInv (PA.ar y_2 z)) → ∃ (bs : List (Nat × List Nat)), DocAt y.s.W e.A e.L e.C bs ∧ ∀ (y0 : D3), y0 = d3m e → (D3Ok y0 ∧ (0 : Int) ≤ y_1.fst.v.n ∧ y_1.fst.v.n <
 (18446744073709551616 : Int)) ∧ ∀ (W' : World) (a' : Option Addr) (len' cp' : Nat) (y' : D3) (bs' : List (Nat × List Nat)), Grow y.s.W W' → DocAt W' a' len' cp' bs' → y' = addO3.Y
 (DArg.mk b y_1.fst.v.xa (0 : Int) y_1.fst.v.n) y0 bs → bs' = addO3.B (DArg.mk b y_1.fst.v.xa (0 : Int) y_1.fst.v.n) y0 bs → ((PA.rdV y_2 b y_1.fst.v.xa != get3W y0 bs b
 y_1.fst.v.xa) = true → false = true ∧ ∃ (W'_1 : World), some W' = some W'_1 ∧ Grow W W'_1) ∧ ((PA.rdV y_2 b y_1.fst.v.xa != get3W y0 bs b y_1.fst.v.xa) = false → (arenaP_38 y_2 b W
 y_1 y0 bs W') ∧ ((PA.atE y_2 b y_1.fst.v.xa != get3E y0 bs b y_1.fst.v.xa) = false → (arenaP_31 y y_1) ∧ addO true 0 (↑y_1.snd.val : Int).toNat = (↑y_1.snd.val : Int).toNat ∧
 (arenaP_34 y y_1 g) ∧ ∃ (y_3 : APS W (y.i + 1)), most = most ∧ a = a ∧ len = len ∧ cap = cap ∧ (↑len : Int) = (↑len : Int) ∧ 0 = 0 ∧ y_3.N = y.s.N ∧ y_3.c1 = y.s.c1 ∧ 0 = 0 ∧ y_3.N
 = y.s.N ∧ y_3.c2 = y.s.c2 ∧ (↑y.i : Int) = (↑y.i : Int) ∧ y_3.W = W' ∧ (y_3.N = y.s.N ∧ y_3.c1 = y.s.c1 ∧ (fun (j : Nat) => some (y_3.d j).x) = fun (j : Nat) => if j = (↑y_1.snd.val
 : Int).toNat then some (PA.adX y_2 b y_1.fst.v.xa y_1.fst.v.n) else some (y.s.d j).x) ∧ arenaP_1 y y_3 y_1 y' a' len' cp')))) ∧ ((IntKind.u64.wrap y_1.fst.v.k % (8 : Int) == (6 :
 Int)) = false → (decide ((↑y.s.N : Int) < (4 : Int)) = true → (arenaP_34 y y_1 g) ∧ ∀ (g2 : Nat → List Value), ((∃ (z : Nat → Value), ArInv (PA.ar y_2 z)) → ∀ (l : List (Nat × Nat ×
 List Nat)), l.Perm y_2.bs → d3e e e ((d3e e e (((y.s.c1 = y.s.c1 ∧ y.s.N ≤ y.s.N) ∧ True ∧ y.s.N + 1 ≤ 1000000000 ∧ ∀ (cap_1 : Nat), y.s.N + 1 ≤ cap_1 → d3e e e ((((y.s.c2 = y.s.c2
 ∧ y.s.N ≤ y.s.N) ∧ True ∧ y.s.N + 1 ≤ 1000000000 ∧ ∀ (cap_2 : Nat), y.s.N + 1 ≤ cap_2 → ((0 : Int) ≤ (↑y_1.snd.val : Int) ∧ (↑y_1.snd.val : Int) < (↑(y.s.N + 1) : Int)) ∧ ((0 : Int)
 ≤ (↑y_1.snd.val : Int) ∧ (↑y_1.snd.val : Int) < (↑(y.s.N + 1) : Int)) ∧ addO true 0 (↑y_1.snd.val : Int).toNat = (↑y_1.snd.val : Int).toNat ∧ (y.s.N + 1 = y.s.N + 1 ∧ y.s.N = y.s.N
 ∧ (↑y_1.snd.val : Int).toNat < y.s.N ∧ ∀ (j : Nat), j < y.s.N → (if j < y.s.N then g2 j else List.replicate (0 + 1) undef) = g2 j) ∧ ∃ (y_3 : APS W (y.i + 1)), most = most ∧ a = a ∧
 len = len ∧ cap = cap ∧ (↑len : Int) = (↑len : Int) ∧ 0 = 0 ∧ y_3.N = y.s.N + 1 ∧ y_3.c1 = cap_1 ∧ 0 = 0 ∧ y_3.N = y.s.N + 1 ∧ y_3.c2 = cap_2 ∧ (↑y.i : Int) = (↑y.i : Int) ∧ y_3.W =
 y.s.W ∧ (y_3.N = y.s.N + 1 ∧ y_3.c1 = cap_1 ∧ (fun (j : Nat) => some (y_3.d j).x) = fun (j : Nat) => if j = y.s.N then some (PA.mk y_2.cap y_2.used y_2.peak y_2.faults y_2.births
 y_2.fx y_2.high y_2.us y_2.bk l y_2.t) else if j = (↑y_1.snd.val : Int).toNat then some y_2 else some (y.s.d j).x) ∧ (y_3.N = y.s.N + 1 ∧ y_3.c2 = cap_2 ∧ ∀ (i : Nat), i < y_3.N →
 (arenaP_2 y_3 i) = if i = (↑y_1.snd.val : Int).toNat then (d3v e) else if i < y.s.N then if i = (↑y_1.snd.val : Int).toNat then (d3v e) else d3V (y.s.d i).y (y.s.d i).A (y.s.d i).L
 (y.s.d i).C else (d3v e)) ∧ True) ∧ True) ∧ True)) ∧ (∀ (K : KO XP), (fun X0 : (Nat) → (Nat) → Prop => (arenaP_29 y e X0) → arenaP_30 y e X0) (apKS a len cap most W y ρ ρ_1 y_1 y_2
 e h b g2 l K)) ∧ True)) ∧ (∀ (K : KO XP), (fun X0 : (Nat) → (Nat) → Prop => d3e e e ((arenaP_29 y e X0) ∧ (∀ (K : KO XP), (fun X1 : (Nat) → (Nat) → Prop => (arenaP_29 y e X1) →
 arenaP_30 y e X1) (apKS a len cap most W y ρ ρ_1 y_1 y_2 e h b g2 l K)) ∧ True) → (d3e e e (arenaP_30 y e X0)) ∧ True) (apKS a len cap most W y ρ ρ_1 y_1 y_2 e h b g2 l K)) ∧ True))
 ∧ (∀ (K : KO XP), (fun X0 : (List (Nat × Nat × List Nat)) → (Nat) → (Nat) → Prop => ((∃ (z : Nat → Value), ArInv (PA.ar y_2 z)) → ∀ (l : List (Nat × Nat × List Nat)), l.Perm y_2.bs
 → d3e e e ((d3e e e (((y.s.c1 = y.s.c1 ∧ y.s.N ≤ y.s.N) ∧ True ∧ y.s.N + 1 ≤ 1000000000 ∧ ∀ (cap_1 : Nat), y.s.N + 1 ≤ cap_1 → d3e e e ((((y.s.c2 = y.s.c2 ∧ y.s.N ≤ y.s.N) ∧ True ∧
 y.s.N + 1 ≤ 1000000000 ∧ ∀ (cap_2 : Nat), y.s.N + 1 ≤ cap_2 → (X0 l cap_1 cap_2)) ∧ True) ∧ True)) ∧ (∀ (K : KO XP), (fun X1 : (Nat) → (Nat) → Prop => (arenaP_29 y e X1) → arenaP_30
 y e X1) (apKS a len cap most W y ρ ρ_1 y_1 y_2 e h b g2 l K)) ∧ True)) ∧ (∀ (K : KO XP), (fun X1 : (Nat) → (Nat) → Prop => d3e e e ((arenaP_29 y e X1) ∧ (∀ (K : KO XP), (fun X2 :
 (Nat) → (Nat) → Prop => (arenaP_29 y e X2) → arenaP_30 y e X2) (apKS a len cap most W y ρ ρ_1 y_1 y_2 e h b g2 l K)) ∧ True) → (d3e e e (arenaP_30 y e X1)) ∧ True) (apKS a len cap
 most W y ρ ρ_1 y_1 y_2 e h b g2 l K)) ∧ True)) → ((∃ (z : Nat → Value), ArInv (PA.ar y_2 z)) → ∀ (l : List (Nat × Nat × List Nat)), l.Perm y_2.bs → d3e e e ((d3e e e (((y.s.c1 =
 y.s.c1 ∧ y.s.N ≤ y.s.N) ∧ True ∧ y.s.N + 1 ≤ 1000000000 ∧ ∀ (cap_1 : Nat), y.s.N + 1 ≤ cap_1 → d3e e e (((y.s.c2 = y.s.c2 ∧ y.s.N ≤ y.s.N) ∧ True ∧ y.s.N + 1 ≤ 1000000000 ∧ ∀ (cap_2
 : Nat), y.s.N + 1 ≤ cap_2 → (X0 l cap_1 cap_2)) ∧ True)) ∧ True)) ∧ True)) ∧ True) (fun (l : List (Nat × Nat × List Nat)) (cap_1 : Nat) (cap_2 : Nat) => K (SF.mk 474 (nr ρ_1 0 (nr
 ρ_1 1 (nr ρ_1 3 (nr ρ_1 7 (nr ρ_1 15 (nr ρ 31 (nr ρ_1 63 (rt ρ_1 474 127 128) (nv (SV.c (SC.int false .i64 (↑y_1.snd.val : Int))) (rl ρ_1 319) (rl ρ_1 447))) (rt ρ_1 474 95 64)) (nr
 ρ 47 (nr ρ_1 79 (rt ρ_1 474 143 128) (np 149 0 (rl ρ_1 335) (rl ρ_1 463))) (nr ρ_1 111 (nr ρ_1 175 (nv (SV.c (tb false)) tn tn) (rl ρ_1 431)) (rt ρ_1 474 239 128)))) (np 109 0 (nr ρ
 39 (nr ρ_1 71 (rt ρ_1 474 135 128) (nv (SV.c (SC.int false .i64 y_1.fst.v.k)) (rl ρ_1 327) (rl ρ_1 455))) (rt ρ_1 474 103 64)) (nr ρ_1 55 (nr ρ_1 87 (rt ρ_1 474 151 128) (nv (SV.c
 (fb (IntKind.u64.wrap y_1.fst.v.k % (8 : Int) == (0 : Int)))) (rl ρ_1 343) (rl ρ_1 471))) (nr ρ_1 119 (rt ρ_1 474 183 128) (nr ρ_1 247 nu0 tn))))) (nr ρ_1 11 (nr ρ_1 19 (nr ρ 35 (nr
 ρ_1 67 (rt ρ_1 474 131 128) (np 109 13 (rl ρ_1 323) (rl ρ_1 451))) (rt ρ_1 474 99 64)) (nu (nr ρ_1 83 (rt ρ_1 474 147 128) (nv (SV.agg (arenaP_19 e)) (rl ρ_1 339) (rl ρ_1 467))) (rt
 ρ_1 474 115 64))) (nr ρ 27 (nr ρ 43 (nr ρ_1 75 (rt ρ_1 474 139 128) (nv (SV.c (SC.int false .i64 (↑y.s.N : Int))) (rl ρ_1 331) (rl ρ_1 459))) (rt ρ_1 474 107 64)) (nr ρ_1 59 (nr ρ_1
 91 (nr ρ_1 155 (nv (SV.c (tb false)) tn tn) (rl ρ_1 411)) (rt ρ_1 474 219 128)) (nr ρ_1 123 (nv (SV.c (SC.int false .i64 (↑y_1.snd.val : Int))) (rl ρ_1 315) (rl ρ_1 443)) (rt ρ_1
 474 251 128)))))) (nr ρ_1 5 (nr ρ_1 9 (nv (SV.c (SC.sli 142 1 true 0 false (y.s.N + 1) cap_1)) (nr ρ 33 (nr ρ_1 65 (nr ρ_1 129 (nv (SV.c (tb false)) tn tn) (rl ρ_1 385)) (nv (SV.agg
 (arenaP_19 e)) (rl ρ_1 321) (rl ρ_1 449))) (rt ρ_1 474 97 64)) (nu (nr ρ_1 81 (rt ρ_1 474 145 128) (nv (SV.c (SC.sli 142 1 true 0 false (y.s.N + 1) cap_1)) (nv (SV.c (tb false)) tn
 tn) (rl ρ_1 465))) (nr ρ_1 113 (rt ρ_1 474 177 128) (nv (SV.c (tb false)) (rl ρ_1 369) tn)))) (nr ρ 25 (nr ρ 41 (nr ρ_1 73 (rt ρ_1 474 137 128) (nv (SV.c (SC.int false .u64
 (IntKind.u64.wrap y_1.fst.v.k % (8 : Int)) (Bd.w (0 : Int) (7 : Int) (mod_bd Bd.of._proof_1 rfl)))) (rl ρ_1 329) (rl ρ_1 457))) (rt ρ_1 474 105 64)) (nr ρ_1 57 (rt ρ_1 474 89 64)
 (nr ρ_1 121 (rt ρ_1 474 185 128) (nr ρ_1 249 nu0 tn))))) (nr ρ_1 13 (nv (SV.c (SC.int false .i64 (↑y_1.snd.val : Int))) (nr ρ 37 (nr ρ_1 69 (rt ρ_1 474 133 128) (nv (SV.agg
 (arenaP_37 y_1 h b)) (rl ρ_1 325) (rl ρ_1 453))) (rt ρ_1 474 101 64)) (nr ρ_1 53 (nr ρ_1 85 (rt ρ_1 474 149 128) (nv (SV.c (SC.sli 146 20 true 0 false (y.s.N + 1) cap_2)) (rl ρ_1
 341) (rl ρ_1 469))) (rt ρ_1 474 117 64))) (nr ρ 29 (nr ρ 45 (nr ρ_1 77 (rt ρ_1 474 141 128) (nv (SV.c (SC.sli 67 1 true 0 false y.s.N y.s.c1)) (rl ρ_1 333) (rl ρ_1 461))) (nr ρ_1
 109 (nv (SV.c (SC.int false .i64 (↑len : Int))) (rl ρ_1 301) (rl ρ_1 429)) (rt ρ_1 474 237 128))) (nr ρ_1 61 (rt ρ_1 474 93 64) (nr ρ_1 125 (np 100 0 (rl ρ_1 317) (rl ρ_1 445)) (rt
 ρ_1 474 253 128))))))) (nv (SV.c (SC.int false .i64 most)) (nr ρ_1 4 (nv (SV.c (SC.int true .i64 (0 : Int))) (nr ρ_1 16 (nr ρ 32 (nr ρ_1 64 (rt ρ_1 474 128 128) (nv (SV.c (SC.elp 68
 (addO true 0 (↑y_1.snd.val : Int).toNat) 20 0)) (rl ρ_1 320) (rl ρ_1 448))) (rt ρ_1 474 96 64)) (nu (nr ρ_1 80 (rt ρ_1 474 144 128) (nv (SV.c (SC.sli 141 1 true 0 true 1 1)) (rl ρ_1
 336) (rl ρ_1 464))) (nr ρ_1 112 (nr ρ_1 176 (nv (SV.c (fb (IntKind.u64.wrap y_1.fst.v.k % (8 : Int) == (5 : Int)))) tn tn) (rl ρ_1 432)) (rt ρ_1 474 240 128)))) (nr ρ 24 (nr ρ 40
 (nr ρ_1 72 (rt ρ_1 474 136 128) (nv (SV.c (SC.int false .u64 (IntKind.u64.wrap y_1.fst.v.k) (Bd.w (0 : Int) (18446744073709551615 : Int) (Bd.wrapped._proof_6 y_1.fst.v.k)))) (rl ρ_1
 328) (rl ρ_1 456))) (rt ρ_1 474 104 64)) (nr ρ_1 56 (nr ρ_1 88 (rt ρ_1 474 152 128) (nv (SV.c (fb (IntKind.u64.wrap y_1.fst.v.k % (8 : Int) == (1 : Int)))) (rl ρ_1 344) (rl ρ_1
 472))) (nr ρ_1 120 (rt ρ_1 474 184 128) (nr ρ_1 248 nu0 tn))))) (nr ρ_1 12 (np 69 0 (nr ρ 36 (nr ρ_1 68 (rt ρ_1 474 132 128) (nv (SV.c (SC.sliv e.A false e.L e.C)) (rl ρ_1 324) (rl
 ρ_1 452))) (rt ρ_1 474 100 64)) (nr ρ_1 52 (nr ρ_1 84 (rt ρ_1 474 148 128) (nv (SV.c (SC.sli 145 20 true 0 true 1 1)) (rl ρ_1 340) (rl ρ_1 468))) (rt ρ_1 474 116 64))) (nr ρ 28 (nr
 ρ 44 (nr ρ_1 76 (rt ρ_1 474 140 128) (nv (SV.c (tb true)) (rl ρ_1 332) (rl ρ_1 460))) (nr ρ_1 108 (nv (SV.c (SC.sliv a false len cap)) (rl ρ_1 300) (rl ρ_1 428)) (rt ρ_1 474 236
 128))) (nr ρ_1 60 (nr ρ_1 92 (nr ρ_1 156 (nv (SV.c (fb (IntKind.u64.wrap y_1.fst.v.k % (8 : Int) == (4 : Int)))) tn tn) (rl ρ_1 412)) (rt ρ_1 474 220 128)) (nr ρ_1 124 (nv (SV.c
 (SC.elp 67 (addO true 0 (↑y_1.snd.val : Int).toNat) 1 0)) (rl ρ_1 316) (rl ρ_1 444)) (rt ρ_1 474 252 128)))))) (nr ρ 6 (nr ρ_1 10 (nv (SV.c (SC.sli 146 20 true 0 false (y.s.N + 1)
 cap_2)) (nr ρ 34 (nr ρ_1 66 (nr ρ_1 130 (nv (SV.c (fb (IntKind.u64.wrap y_1.fst.v.k % (8 : Int) == (3 : Int)))) tn tn) (rl ρ_1 386)) (nv (SV.agg [SC.int false .i64 y_1.fst.v.k,
 SC.int false .i64 y_1.fst.v.at', SC.int false .i64 y_1.fst.v.o, SC.sliv y_1.fst.v.wa false y_1.fst.v.wl y_1.fst.v.wc, SC.int false .u64 y_1.fst.v.h, SC.int false .u64 y_1.fst.v.b,
 SC.int false .i64 y_1.fst.v.xa, SC.int false .u64 y_1.fst.v.n, SC.int false .u64 y_1.fst.v.m]) (rl ρ_1 322) (rl ρ_1 450))) (rt ρ_1 474 98 64)) (nu (nr ρ_1 82 (rt ρ_1 474 146 128)
 (nv (SV.c (SC.sli 68 20 true 0 false y.s.N y.s.c2)) (nv (SV.c (fb (IntKind.u64.wrap y_1.fst.v.k % (8 : Int) == (6 : Int)))) tn tn) (rl ρ_1 466))) (nr ρ_1 114 (rt ρ_1 474 178 128)
 (nv (SV.c (fb (IntKind.u64.wrap y_1.fst.v.k % (8 : Int) == (2 : Int)))) (rl ρ_1 370) tn)))) (nr ρ 26 (nr ρ 42 (nr ρ_1 74 (rt ρ_1 474 138 128) (nv (SV.c (SC.sli 67 1 true 0 false
 y.s.N y.s.c1)) (rl ρ_1 330) (rl ρ_1 458))) (rt ρ_1 474 106 64)) (nr ρ_1 58 (rt ρ_1 474 90 64) (nr ρ_1 122 (nv (SV.c (SC.sli 67 1 true 0 false y.s.N y.s.c1)) (rl ρ_1 314) (rl ρ_1
 442)) (rt ρ_1 474 250 128))))) (nr ρ_1 14 (np 100 0 (nr ρ 38 (nr ρ_1 70 (rt ρ_1 474 134 128) (np 69 0 (rl ρ_1 326) (rl ρ_1 454))) (rt ρ_1 474 102 64)) (nr ρ_1 54 (nr ρ_1 86 (rt ρ_1
 474 150 128) (nv (SV.c (tb false)) (rl ρ_1 342) (rl ρ_1 470))) (rt ρ_1 474 118 64))) (nr ρ 30 (nr ρ 46 (nr ρ_1 78 (rt ρ_1 474 142 128) (np 100 0 (rl ρ_1 334) (rl ρ_1 462))) (nr ρ_1
 110 (nv (SV.c (SC.int false .i64 (↑y.i : Int))) (rl ρ_1 302) (rl ρ_1 430)) (rt ρ_1 474 238 128))) (nr ρ_1 62 (rt ρ_1 474 94 64) (nr ρ_1 126 (nv (SV.c (SC.sli 68 20 true 0 false
 y.s.N y.s.c2)) (rl ρ_1 318) (rl ρ_1 446)) (rt ρ_1 474 254 128)))))))) []) (Mem.mk [(99, SO.ext (HO.tied [] y.s.N (fun (j : Nat) => some (y.s.d j).x) (↑y_1.snd.val : Int).toNat g2
 100)), (100, SO.ext (HO.obj [] y_2)), (0, SO.seen y.s.W), (69, SO.cells (arenaP_37 y_1 h b) (OfNat.ofNat 57)), (109, SO.cells (arenaP_19 e) 54), (141, SO.cells [sp 149 0] 25), (142,
 SO.arr 25 1 (y.s.N + 1) cap_1 (fun (i : Nat) => if i < y.s.N then g2 i else List.replicate (0 + 1) undef) y.s.N [sp 149 0]), (145, SO.cells (arenaP_19 e) 54), (146, SO.vals 54 20
 (y.s.N + 1) cap_2 fun (i : Nat) => if i < y.s.N then if i = (↑y_1.snd.val : Int).toNat then (d3v e) else d3V (y.s.d i).y (y.s.d i).A (y.s.d i).L (y.s.d i).C else (d3v e)), (149,
 SO.ext (HO.obj [] (PA.mk y_2.cap y_2.used y_2.peak y_2.faults y_2.births y_2.fx y_2.high y_2.us y_2.bk l y_2.t)))] 150) (Scr.ghost 57 (arhG 18 21) (Scr.ghost 9999 (seqG (valG 18)
 (pushTG 17)) Scr.nil)))) ∧ True) ∧ (decide ((↑y.s.N : Int) < (4 : Int)) = false → (arenaP_31 y y_1) ∧ addO true 0 (↑y_1.snd.val : Int).toNat = (↑y_1.snd.val : Int).toNat ∧
 (arenaP_34 y y_1 g) ∧ ∃ (y_3 : APS W (y.i + 1)), most = most ∧ a = a ∧ len = len ∧ cap = cap ∧ (↑len : Int) = (↑len : Int) ∧ 0 = 0 ∧ y_3.N = y.s.N ∧ y_3.c1 = y.s.c1 ∧ 0 = 0 ∧ y_3.N
 = y.s.N ∧ y_3.c2 = y.s.c2 ∧ (↑y.i : Int) = (↑y.i : Int) ∧ y_3.W = y.s.W ∧ (y_3.N = y.s.N ∧ y_3.c1 = y.s.c1 ∧ (fun (j : Nat) => some (y_3.d j).x) = fun (j : Nat) => if j =
 (↑y_1.snd.val : Int).toNat then some y_2 else some (y.s.d j).x) ∧ (y_3.N = y.s.N ∧ y_3.c2 = y.s.c2 ∧ ∀ (i : Nat), i < y_3.N → (arenaP_2 y_3 i) = if i = (↑y_1.snd.val : Int).toNat
 then (d3v e) else d3V (y.s.d i).y (y.s.d i).A (y.s.d i).L (y.s.d i).C) ∧ True))))))))) ∧ True)) ∧ True) ∧ ∀ (y_1 : APS W (y.i + 1)) (ρ : Nat → Value), ((-9223372036854775808 : Int)
 ≤ (↑y.i : Int) + (1 : Int) ∧ (↑y.i : Int) + (1 : Int) ≤ (9223372036854775807 : Int)) ∧ ∃ (y' : APY W len), len - y'.i < len - y.i ∧ most = most ∧ a = a ∧ len = len ∧ cap = cap ∧
 (↑len : Int) = (↑len : Int) ∧ 0 = 0 ∧ y'.s.N = y_1.N ∧ y'.s.c1 = y_1.c1 ∧ 0 = 0 ∧ y'.s.N = y_1.N ∧ y'.s.c2 = y_1.c2 ∧ (↑y'.i : Int) = (↑y.i : Int) + (1 : Int) ∧ y'.s.W = y_1.W ∧
 (y'.s.N = y_1.N ∧ y'.s.c1 = y_1.c1 ∧ (fun (j : Nat) => some (y'.s.d j).x) = fun (j : Nat) => some (y_1.d j).x) ∧ (y'.s.N = y_1.N ∧ y'.s.c2 = y_1.c2 ∧ ∀ (i : Nat), i < y'.s.N →
 [Value.int .i64 (y'.s.8 i).y.cap, Value.int .i64 (y'.s.8 i).y.births, Value.int .i64 (y'.s.8 i).y.peak, Value.int .i64 (y'.s.8 i).y.faults, Value.int .u64 (y'.s.8 i).y.x0, Value.int
 .u64 (y'.s.8 i).y.x1, Value.int .u64 (y'.s.8 i).y.x2, Value.int .u64 (y'.s.8 i).y.x3, Value.int .u64 (y'.s.8 i).y.x4, Value.int .u64 (y'.s.8 i).y.x5, Value.int .u64 (y'.s.8 i).y.x6,
 Value.int .u64 (y'.s.8 i).y.x7, Value.int .u64 (y'.s.8 i).y.x8, Value.slice (y'.s.d i).A (y'.s.8 i).L (y'.s.8 i).C, Value.int .i64 (y'.s.8 i).y.t0, Value.int .i64 (y'.s.8 i).y.t1,
 Value.int .i64 (y'.s.8 i).y.t2, Value.int .i64 (y'.s.8 i).y.t3, Value.int .i64 (y'.s.8 i).y.t4, Value.int .i64 (y'.s.8 i).y.t5] = (arenaP_2 y_1 i)) ∧ True) ∧ (decide ((↑y.i : Int) <
 (↑len : Int)) = false → (1 ≤ y.s.N ∧ y.s.N ≤ 4 ∧ ∀ (j : Nat), j < y.s.N → (some (y.s.d j).x).isSome = true) ∧ (y.s.N = 1 → ∀ (y_1 : parH.X), some (y.s.d 0).x = some y_1 → y.s.N = 1
 ∧ (∀ (y_2 : LY W y.i 1), (∃ (z : LZ W y.i 1), LY.s 0 rfl z = y_2) ∨ (∃ (z : LZ W y.i 1), LY.s 1 rfl z = y_2) ∨ False) ∧ (∃ (z : LZ W y.i 1), max (0 : Int) (min most 100) = max (0 :
 Int) (min most 100) ∧ 0 = 0 ∧ 1 = y.s.N ∧ z.c1 = y.s.c1 ∧ 0 = 0 ∧ 1 = y.s.N ∧ z.c2 = y.s.c2 ∧ 0 = 0 ∧ 1 = y.s.N ∧ z.c1 = y.s.c1 ∧ (1 : Int) = (↑y.s.N : Int) ∧ z.W = y.s.W ∧ (1 = 1 ∧
 z.c1 = y.s.c1 ∧ 0 = 0 ∧ True) ∧ (1 = 1 ∧ z.c2 = y.s.c2 ∧ d3g (z.d 0) (y.s.d 0) (True)) ∧ (z.d 0).x = y_1 ∧ True) ∧ (∀ (z : LZ W y.i 1) (ρ : Nat → Value), (decide ((↑(z.d 0).L : Int)
 > (0 : Int)) = true → (arenaP_21 (z.d 0)) ∧ (addOpt (z.d 0).A 0).isSome = true ∧ (∃ (x : Addr), addOpt (addOpt (z.d 0).A 0) 0 = some x ∧ z.W.cell? x = some (Value.int .u64 (seenInt
 .u64 z.W (addOpt (addOpt (z.d 0).A 0) 0)))) ∧ (arenaP_21 (z.d 0)) ∧ (addOpt (z.d 0).A 0).isSome = true ∧ (∃ (x : Addr), addOpt (addOpt (z.d 0).A 0) 1 = some x ∧ z.W.cell? x = some
 (Value.slice (seenSli z.W (addOpt (addOpt (z.d 0).A 0) 1)).fst (seenSli z.W (addOpt (addOpt (z.d 0).A 0) 1)).snd.fst (seenSli z.W (addOpt (addOpt (z.d 0).A 0) 1)).snd.snd)) ∧ (((0 :
 Int) ≤ seenInt .u64 z.W (addOpt (addOpt (z.d 0).A 0) 0) ∧ seenInt .u64 z.W (addOpt (addOpt (z.d 0).A 0) 0) < (18446744073709551616 : Int)) ∧ ((∃ (z_1 : Nat → Value), ArInv ((z.d
 0).x.ar z_1)) → z.W = z.W ∧ z.c2 = z.c2 ∧ d3e (z.d 0) (z.d 0) (((-9223372036854775808 : Int) ≤ (↑((z.d 0).x.szV (seenInt .u64 z.W (addOpt (addOpt (z.d 0).A 0) 0))) : Int) -
 (↑(seenSli z.W (addOpt (addOpt (z.d 0).A 0) 1)).snd.fst : Int) ∧ (↑((z.d 0).x.szV (seenInt .u64 z.W (addOpt (addOpt (z.d 0).A 0) 0))) : Int) - (↑(seenSli z.W (addOpt (addOpt (z.d
 0).A 0) 1)).snd.fst : Int) ≤ (9223372036854775807 : Int)) ∧ ((arenaP_6 z (z.d 0)) ∧ ∀ (W' : World), Grow z.W W' → z.c1 = z.c1 ∧ z.c2 = z.c2 ∧ d3e (z.d 0) (z.d 0) ((((↑((z.d 0).x.szV
 (seenInt .u64 z.W (addOpt (addOpt (z.d 0).A 0) 0))) : Int) - (↑(seenSli z.W (addOpt (addOpt (z.d 0).A 0) 1)).snd.fst : Int) != (0 : Int)) = true → false = true ∧ ∃ (W'_1 : World),
 some W' = some W'_1 ∧ Grow W W'_1) ∧ (((↑((z.d 0).x.szV (seenInt .u64 z.W (addOpt (addOpt (z.d 0).A 0) 0))) : Int) - (↑(seenSli z.W (addOpt (addOpt (z.d 0).A 0) 1)).snd.fst : Int)
 != (0 : Int)) = false → arenaP_13 most W' W y z (z.d 0)))) ∧ True))) ∧ True) ∧ (decide ((↑(z.d 0).L : Int) > (0 : Int)) = false → ((arenaP_6 z (z.d 0)) ∧ ∀ (W' : World), Grow z.W W'
 → z.c1 = z.c1 ∧ z.c2 = z.c2 ∧ d3e (z.d 0) (z.d 0) (arenaP_13 most W' W y z (z.d 0))) ∧ True)) ∧ (∀ (z : LZ W y.i 1) (ρ : Nat → Value), true = true ∧ ∃ (W' : World), some z.W = some
 W' ∧ Grow W W') ∧ True) ∧ (y.s.N = 2 → ∀ (y_1 : parH.X), some (y.s.d 1).x = some y_1 → ∀ (y_2 : parH.X), some (y.s.d 0).x = some y_2 → y.s.N = 2 ∧ (∀ (y_3 : LY W y.i 2), (∃ (z : LZ
 W y.i 2), LY.s 0 rfl z = y_3) ∨ (∃ (z : LZ W y.i 2), LY.s 1 rfl z = y_3) ∨ (∃ (z : LZ W y.i 2), LY.s 2 rfl z = y_3) ∨ False) ∧ (∃ (z : LZ W y.i 2), max (0 : Int) (min most 100) =
 max (0 : Int) (min most 100) ∧ 0 = 0 ∧ 2 = y.s.N ∧ z.c1 = y.s.c1 ∧ 0 = 0 ∧ 2 = y.s.N ∧ z.c2 = y.s.c2 ∧ 0 = 0 ∧ 2 = y.s.N ∧ z.c1 = y.s.c1 ∧ (2 : Int) = (↑y.s.N : Int) ∧ z.W = y.s.W ∧
 (2 = 2 ∧ z.c1 = y.s.c1 ∧ 0 = 0 ∧ 0 = 0 ∧ True) ∧ (2 = 2 ∧ z.c2 = y.s.c2 ∧ d3g (z.d 0) (y.s.d 0) (d3g (z.d 1) (y.s.d 1) (True))) ∧ (z.d 0).x = y_2 ∧ (z.d 1).x = y_1 ∧ True) ∧ (∀ (z :
 LZ W y.i 2) (ρ : Nat → Value), (decide ((↑(z.d 0).L : Int) > (0 : Int)) = true → (arenaP_21 (z.d 0)) ∧ (addOpt (z.d 0).A 0).isSome = true ∧ (∃ (x : Addr), addOpt (addOpt (z.d 0).A
 0) 0 = some x ∧ z.W.cell? x = some (Value.int .u64 (seenInt .u64 z.W (addOpt (addOpt (z.d 0).A 0) 0)))) ∧ (arenaP_21 (z.d 0)) ∧ (addOpt (z.d 0).A 0).isSome = true ∧ (∃ (x : Addr),
 addOpt (addOpt (z.d 0).A 0) 1 = some x ∧ z.W.cell? x = some (Value.slice (seenSli z.W (addOpt (addOpt (z.d 0).A 0) 1)).fst (seenSli z.W (addOpt (addOpt (z.d 0).A 0) 1)).snd.fst
 (seenSli z.W (addOpt (addOpt (z.d 0).A 0) 1)).snd.snd)) ∧ (((0 : Int) ≤ seenInt .u64 z.W (addOpt (addOpt (z.d 0).A 0) 0) ∧ seenInt .u64 z.W (addOpt (addOpt (z.d 0).A 0) 0) <
 (18446744073709551616 : Int)) ∧ ((∃ (z_1 : Nat → Value), ArInv ((z.d 0).x.ar z_1)) → z.W = z.W ∧ z.c2 = z.c2 ∧ d3e (z.d 0) (z.d 0) (d3e (z.d 1) (z.d 1) (((-9223372036854775808 :
 Int) ≤ (↑((z.d 0).x.szV (seenInt .u64 z.W (addOpt (addOpt (z.d 0).A 0) 0))) : Int) - (↑(seenSli z.W (addOpt (addOpt (z.d 0).A 0) 1)).snd.fst : Int) ∧ (↑((z.d 0).x.szV (seenInt .u64
 z.W (addOpt (addOpt (z.d 0).A 0) 0))) : Int) - (↑(seenSli z.W (addOpt (addOpt (z.d 0).A 0) 1)).snd.fst : Int) ≤ (9223372036854775807 : Int)) ∧ ((arenaP_16 z (z.d 0)) ∧ ∀ (W' :
 World), Grow z.W W' → z.c1 = z.c1 ∧ z.c2 = z.c2 ∧ d3e (z.d 0) (z.d 0) (d3e (z.d 1) (z.d 1) ((((↑((z.d 0).x.szV (seenInt .u64 z.W (addOpt (addOpt (z.d 0).A 0) 0))) : Int) -
 (↑(seenSli z.W (addOpt (addOpt (z.d 0).A 0) 1)).snd.fst : Int) != (0 : Int)) = true → false = true ∧ ∃ (W'_1 : World), some W' = some W'_1 ∧ Grow W W'_1) ∧ (((↑((z.d 0).x.szV
 (seenInt .u64 z.W (addOpt (addOpt (z.d 0).A 0) 0))) : Int) - (↑(seenSli z.W (addOpt (addOpt (z.d 0).A 0) 1)).snd.fst : Int) != (0 : Int)) = false → arenaP_7 most W' W y z (z.d 0)
 (z.d 1))))) ∧ True)))) ∧ True) ∧ (decide ((↑(z.d 0).L : Int) > (0 : Int)) = false → ((arenaP_16 z (z.d 0)) ∧ ∀ (W' : World), Grow z.W W' → z.c1 = z.c1 ∧ z.c2 = z.c2 ∧ d3e (z.d 0)
 (z.d 0) (d3e (z.d 1) (z.d 1) (arenaP_7 most W' W y z (z.d 0) (z.d 1)))) ∧ True)) ∧ (∀ (z : LZ W y.i 2) (ρ : Nat → Value), (decide ((↑(z.d 1).L : Int) > (0 : Int)) = true →
 (arenaP_21 (z.d 1)) ∧ (addOpt (z.d 1).A 0).isSome = true ∧ (∃ (x : Addr), addOpt (addOpt (z.d 1).A 0) 0 = some x ∧ z.W.cell? x = some (Value.int .u64 (seenInt .u64 z.W (addOpt
 (addOpt (z.d 1).A 0) 0)))) ∧ (arenaP_21 (z.d 1)) ∧ (addOpt (z.d 1).A 0).isSome = true ∧ (∃ (x : Addr), addOpt (addOpt (z.d 1).A 0) 1 = some x ∧ z.W.cell? x = some (Value.slice
 (seenSli z.W (addOpt (addOpt (z.d 1).A 0) 1)).fst (seenSli z.W (addOpt (addOpt (z.d 1).A 0) 1)).snd.fst (seenSli z.W (addOpt (addOpt (z.d 1).A 0) 1)).snd.snd)) ∧ (((0 : Int) ≤
 seenInt .u64 z.W (addOpt (addOpt (z.d 1).A 0) 0) ∧ seenInt .u64 z.W (addOpt (addOpt (z.d 1).A 0) 0) < (18446744073709551616 : Int)) ∧ ((∃ (z_1 : Nat → Value), ArInv ((z.d 1).x.ar
 z_1)) → z.W = z.W ∧ z.c2 = z.c2 ∧ d3e (z.d 0) (z.d 0) (d3e (z.d 1) (z.d 1) (((-9223372036854775808 : Int) ≤ (↑((z.d 1).x.szV (seenInt .u64 z.W (addOpt (addOpt (z.d 1).A 0) 0))) :
 Int) - (↑(seenSli z.W (addOpt (addOpt (z.d 1).A 0) 1)).snd.fst : Int) ∧ (↑((z.d 1).x.szV (seenInt .u64 z.W (addOpt (addOpt (z.d 1).A 0) 0))) : Int) - (↑(seenSli z.W (addOpt (addOpt
 (z.d 1).A 0) 1)).snd.fst : Int) ≤ (9223372036854775807 : Int)) ∧ ((arenaP_16 z (z.d 1)) ∧ ∀ (W' : World), Grow z.W W' → z.c1 = z.c1 ∧ z.c2 = z.c2 ∧ d3e (z.d 0) (z.d 0) (d3e (z.d 1)
 (z.d 1) ((((↑((z.d 1).x.szV (seenInt .u64 z.W (addOpt (addOpt (z.d 1).A 0) 0))) : Int) - (↑(seenSli z.W (addOpt (addOpt (z.d 1).A 0) 1)).snd.fst : Int) != (0 : Int)) = true → false
 = true ∧ ∃ (W'_1 : World), some W' = some W'_1 ∧ Grow W W'_1) ∧ (((↑((z.d 1).x.szV (seenInt .u64 z.W (addOpt (addOpt (z.d 1).A 0) 0))) : Int) - (↑(seenSli z.W (addOpt (addOpt (z.d
 1).A 0) 1)).snd.fst : Int) != (0 : Int)) = false → arenaP_5 most W' W y z (z.d 1) (z.d 0))))) ∧ True)))) ∧ True) ∧ (decide ((↑(z.d 1).L : Int) > (0 : Int)) = false → ((arenaP_16 z
 (z.d 1)) ∧ ∀ (W' : World), Grow z.W W' → z.c1 = z.c1 ∧ z.c2 = z.c2 ∧ d3e (z.d 0) (z.d 0) (d3e (z.d 1) (z.d 1) (arenaP_5 most W' W y z (z.d 1) (z.d 0)))) ∧ True)) ∧ (∀ (z : LZ W y.i
 2) (ρ : Nat → Value), true = true ∧ ∃ (W' : World), some z.W = some W' ∧ Grow W W') ∧ True) ∧ (y.s.N = 3 → ∀ (y_1 : parH.X), some (y.s.d 2).x = some y_1 → ∀ (y_2 : parH.X), some
 (y.s.d 1).x = some y_2 → ∀ (y_3 : parH.X), some (y.s.d 0).x = some y_3 → y.s.N = 3 ∧ (∀ (y_4 : LY W y.i 3), (∃ (z : LZ W y.i 3), LY.s 0 rfl z = y_4) ∨ (∃ (z : LZ W y.i 3), LY.s 1
 rfl z = y_4) ∨ (∃ (z : LZ W y.i 3), LY.s 2 rfl z = y_4) ∨ (∃ (z : LZ W y.i 3), LY.s 3 rfl z = y_4) ∨ False) ∧ (∃ (z : LZ W y.i 3), max (0 : Int) (min most 100) = max (0 : Int) (min
 most 100) ∧ 0 = 0 ∧ 3 = y.s.N ∧ z.c1 = y.s.c1 ∧ 0 = 0 ∧ 3 = y.s.N ∧ z.c2 = y.s.c2 ∧ 0 = 0 ∧ 3 = y.s.N ∧ z.c1 = y.s.c1 ∧ (3 : Int) = (↑y.s.N : Int) ∧ z.W = y.s.W ∧ (3 = 3 ∧ z.c1 =
 y.s.c1 ∧ 0 = 0 ∧ 0 = 0 ∧ 0 = 0 ∧ True) ∧ (3 = 3 ∧ z.c2 = y.s.c2 ∧ d3g (z.d 0) (y.s.d 0) (d3g (z.d 1) (y.s.d 1) (d3g (z.d 2) (y.s.d 2) (True)))) ∧ (z.d 0).x = y_3 ∧ (z.d 1).x = y_2 ∧
 (z.d 2).x = y_1 ∧ True) ∧ (∀ (z : LZ W y.i 3) (ρ : Nat → Value), (decide ((↑(z.d 0).L : Int) > (0 : Int)) = true → (arenaP_21 (z.d 0)) ∧ (addOpt (z.d 0).A 0).isSome = true ∧ (∃ (x :
 Addr), addOpt (addOpt (z.d 0).A 0) 0 = some x ∧ z.W.cell? x = some (Value.int .u64 (seenInt .u64 z.W (addOpt (addOpt (z.d 0).A 0) 0)))) ∧ (arenaP_21 (z.d 0)) ∧ (addOpt (z.d 0).A
 0).isSome = true ∧ (∃ (x : Addr), addOpt (addOpt (z.d 0).A 0) 1 = some x ∧ z.W.cell? x = some (Value.slice (seenSli z.W (addOpt (addOpt (z.d 0).A 0) 1)).fst (seenSli z.W (addOpt
 (addOpt (z.d 0).A 0) 1)).snd.fst (seenSli z.W (addOpt (addOpt (z.d 0).A 0) 1)).snd.snd)) ∧ (((0 : Int) ≤ seenInt .u64 z.W (addOpt (addOpt (z.d 0).A 0) 0) ∧ seenInt .u64 z.W (addOpt
 (addOpt (z.d 0).A 0) 0) < (18446744073709551616 : Int)) ∧ ((∃ (z_1 : Nat → Value), ArInv ((z.d 0).x.ar z_1)) → z.W = z.W ∧ z.c2 = z.c2 ∧ d3e (z.d 0) (z.d 0) (d3e (z.d 1) (z.d 1)
 (d3e (z.d 2) (z.d 2) (((-9223372036854775808 : Int) ≤ (↑((z.d 0).x.szV (seenInt .u64 z.W (addOpt (addOpt (z.d 0).A 0) 0))) : Int) - (↑(seenSli z.W (addOpt (addOpt (z.d 0).A 0)
 1)).snd.fst : Int) ∧ (↑((z.d 0).x.szV (seenInt .u64 z.W (addOpt (addOpt (z.d 0).A 0) 0))) : Int) - (↑(seenSli z.W (addOpt (addOpt (z.d 0).A 0) 1)).snd.fst : Int) ≤
 (9223372036854775807 : Int)) ∧ ((∃ (bs : List (Nat × List Nat)), arenaP_18 z bs (z.d 0)) ∧ ∀ (W' : World), Grow z.W W' → z.c1 = z.c1 ∧ z.c2 = z.c2 ∧ d3e (z.d 0) (z.d 0) (d3e (z.d 1)
 (z.d 1) (d3e (z.d 2) (z.d 2) ((((↑((z.d 0).x.szV (seenInt .u64 z.W (addOpt (addOpt (z.d 0).A 0) 0))) : Int) - (↑(seenSli z.W (addOpt (addOpt (z.d 0).A 0) 1)).snd.fst : Int) != (0 :
 Int)) = true → false = true ∧ ∃ (W'_1 : World), some W' = some W'_1 ∧ Grow W W'_1) ∧ (((↑((z.d 0).x.szV (seenInt .u64 z.W (addOpt (addOpt (z.d 0).A 0) 0))) : Int) - (↑(seenSli z.W
 (addOpt (addOpt (z.d 0).A 0) 1)).snd.fst : Int) != (0 : Int)) = false → arenaP_17 most W' W y z (z.d 0) (z.d 1) (z.d 2)))))) ∧ True))))) ∧ True) ∧ (decide ((↑(z.d 0).L : Int) > (0 :
 Int)) = false → ((∃ (bs : List (Nat × List Nat)), arenaP_18 z bs (z.d 0)) ∧ ∀ (W' : World), Grow z.W W' → z.c1 = z.c1 ∧ z.c2 = z.c2 ∧ d3e (z.d 0) (z.d 0) (d3e (z.d 1) (z.d 1) (d3e
 (z.d 2) (z.d 2) (arenaP_17 most W' W y z (z.d 0) (z.d 1) (z.d 2))))) ∧ True)) ∧ (∀ (z : LZ W y.i 3) (ρ : Nat → Value), (decide ((↑(z.d 1).L : Int) > (0 : Int)) = true → (arenaP_21
 (z.d 1)) ∧ (addOpt (z.d 1).A 0).isSome = true ∧ (∃ (x : Addr), addOpt (addOpt (z.d 1).A 0) 0 = some x ∧ z.W.cell? x = some (Value.int .u64 (seenInt .u64 z.W (addOpt (addOpt (z.d
 1).A 0) 0)))) ∧ (arenaP_21 (z.d 1)) ∧ (addOpt (z.d 1).A 0).isSome = true ∧ (∃ (x : Addr), addOpt (addOpt (z.d 1).A 0) 1 = some x ∧ z.W.cell? x = some (Value.slice (seenSli z.W
 (addOpt (addOpt (z.d 1).A 0) 1)).fst (seenSli z.W (addOpt (addOpt (z.d 1).A 0) 1)).snd.fst (seenSli z.W (addOpt (addOpt (z.d 1).A 0) 1)).snd.snd)) ∧ (((0 : Int) ≤ seenInt .u64 z.W
 (addOpt (addOpt (z.d 1).A 0) 0) ∧ seenInt .u64 z.W (addOpt (addOpt (z.d 1).A 0) 0) < (18446744073709551616 : Int)) ∧ ((∃ (z_1 : Nat → Value), ArInv ((z.d 1).x.ar z_1)) → z.W = z.W ∧
 z.c2 = z.c2 ∧ d3e (z.d 0) (z.d 0) (d3e (z.d 1) (z.d 1) (d3e (z.d 2) (z.d 2) (((-9223372036854775808 : Int) ≤ (↑((z.d 1).x.szV (seenInt .u64 z.W (addOpt (addOpt (z.d 1).A 0) 0))) :
 Int) - (↑(seenSli z.W (addOpt (addOpt (z.d 1).A 0) 1)).snd.fst : Int) ∧ (↑((z.d 1).x.szV (seenInt .u64 z.W (addOpt (addOpt (z.d 1).A 0) 0))) : Int) - (↑(seenSli z.W (addOpt (addOpt
 (z.d 1).A 0) 1)).snd.fst : Int) ≤ (9223372036854775807 : Int)) ∧ ((∃ (bs : List (Nat × List Nat)), arenaP_18 z bs (z.d 1)) ∧ ∀ (W' : World), Grow z.W W' → z.c1 = z.c1 ∧ z.c2 = z.c2
 ∧ d3e (z.d 0) (z.d 0) (d3e (z.d 1) (z.d 1) (d3e (z.d 2) (z.d 2) ((((↑((z.d 1).x.szV (seenInt .u64 z.W (addOpt (addOpt (z.d 1).A 0) 0))) : Int) - (↑(seenSli z.W (addOpt (addOpt (z.d
 1).A 0) 1)).snd.fst : Int) != (0 : Int)) = true → false = true ∧ ∃ (W'_1 : World), some W' = some W'_1 ∧ Grow W W'_1) ∧ (((↑((z.d 1).x.szV (seenInt .u64 z.W (addOpt (addOpt (z.d
 1).A 0) 0))) : Int) - (↑(seenSli z.W (addOpt (addOpt (z.d 1).A 0) 1)).snd.fst : Int) != (0 : Int)) = false → arenaP_11 most W' W y z (z.d 1) (z.d 0) (z.d 2)))))) ∧ True))))) ∧ True)
 ∧ (decide ((↑(z.d 1).L : Int) > (0 : Int)) = false → ((∃ (bs : List (Nat × List Nat)), arenaP_18 z bs (z.d 1)) ∧ ∀ (W' : World), Grow z.W W' → z.c1 = z.c1 ∧ z.c2 = z.c2 ∧ d3e (z.d
 0) (z.d 0) (d3e (z.d 1) (z.d 1) (d3e (z.d 2) (z.d 2) (arenaP_11 most W' W y z (z.d 1) (z.d 0) (z.d 2))))) ∧ True)) ∧ (∀ (z : LZ W y.i 3) (ρ : Nat → Value), (decide ((↑(z.d 2).L :
 Int) > (0 : Int)) = true → (arenaP_21 (z.d 2)) ∧ (addOpt (z.d 2).A 0).isSome = true ∧ (∃ (x : Addr), addOpt (addOpt (z.d 2).A 0) 0 = some x ∧ z.W.cell? x = some (Value.int .u64
 (seenInt .u64 z.W (addOpt (addOpt (z.d 2).A 0) 0)))) ∧ (arenaP_21 (z.d 2)) ∧ (addOpt (z.d 2).A 0).isSome = true ∧ (∃ (x : Addr), addOpt (addOpt (z.d 2).A 0) 1 = some x ∧ z.W.cell? x
 = some (Value.slice (seenSli z.W (addOpt (addOpt (z.d 2).A 0) 1)).fst (seenSli z.W (addOpt (addOpt (z.d 2).A 0) 1)).snd.fst (seenSli z.W (addOpt (addOpt (z.d 2).A 0) 1)).snd.snd)) ∧
 (((0 : Int) ≤ seenInt .u64 z.W (addOpt (addOpt (z.d 2).A 0) 0) ∧ seenInt .u64 z.W (addOpt (addOpt (z.d 2).A 0) 0) < (18446744073709551616 : Int)) ∧ ((∃ (z_1 : Nat → Value), ArInv
 ((z.d 2).x.ar z_1)) → z.W = z.W ∧ z.c2 = z.c2 ∧ d3e (z.d 0) (z.d 0) (d3e (z.d 1) (z.d 1) (d3e (z.d 2) (z.d 2) (((-9223372036854775808 : Int) ≤ (↑((z.d 2).x.szV (seenInt .u64 z.W
 (addOpt (addOpt (z.d 2).A 0) 0))) : Int) - (↑(seenSli z.W (addOpt (addOpt (z.d 2).A 0) 1)).snd.fst : Int) ∧ (↑((z.d 2).x.szV (seenInt .u64 z.W (addOpt (addOpt (z.d 2).A 0) 0))) :
 Int) - (↑(seenSli z.W (addOpt (addOpt (z.d 2).A 0) 1)).snd.fst : Int) ≤ (9223372036854775807 : Int)) ∧ ((∃ (bs : List (Nat × List Nat)), arenaP_18 z bs (z.d 2)) ∧ ∀ (W' : World),
 Grow z.W W' → z.c1 = z.c1 ∧ z.c2 = z.c2 ∧ d3e (z.d 0) (z.d 0) (d3e (z.d 1) (z.d 1) (d3e (z.d 2) (z.d 2) ((((↑((z.d 2).x.szV (seenInt .u64 z.W (addOpt (addOpt (z.d 2).A 0) 0))) :
 Int) - (↑(seenSli z.W (addOpt (addOpt (z.d 2).A 0) 1)).snd.fst : Int) != (0 : Int)) = true → false = true ∧ ∃ (W'_1 : World), some W' = some W'_1 ∧ Grow W W'_1) ∧ (((↑((z.d 2).x.szV
 (seenInt .u64 z.W (addOpt (addOpt (z.d 2).A 0) 0))) : Int) - (↑(seenSli z.W (addOpt (addOpt (z.d 2).A 0) 1)).snd.fst : Int) != (0 : Int)) = false → arenaP_12 most W' W y z (z.d 2)
 (z.d 0) (z.d 1)))))) ∧ True))))) ∧ True) ∧ (decide ((↑(z.d 2).L : Int) > (0 : Int)) = false → ((∃ (bs : List (Nat × List Nat)), arenaP_18 z bs (z.d 2)) ∧ ∀ (W' : World), Grow z.W W'
 → z.c1 = z.c1 ∧ z.c2 = z.c2 ∧ d3e (z.d 0) (z.d 0) (d3e (z.d 1) (z.d 1) (d3e (z.d 2) (z.d 2) (arenaP_12 most W' W y z (z.d 2) (z.d 0) (z.d 1))))) ∧ True)) ∧ (∀ (z : LZ W y.i 3) (ρ :
 Nat → Value), true = true ∧ ∃ (W' : World), some z.W = some W' ∧ Grow W W') ∧ True) ∧ (y.s.N = 4 → ∀ (y_1 : parH.X), some (y.s.d 3).x = some y_1 → ∀ (y_2 : parH.X), some (y.s.d 2).x
 = some y_2 → ∀ (y_3 : parH.X), some (y.s.d 1).x = some y_3 → ∀ (y_4 : parH.X), some (y.s.d 0).x = some y_4 → y.s.N = 4 ∧ (∀ (y_5 : LY W y.i 4), (∃ (z : LZ W y.i 4), LY.s 0 rfl z =
 y_5) ∨ (∃ (z : LZ W y.i 4), LY.s 1 rfl z = y_5) ∨ (∃ (z : LZ W y.i 4), LY.s 2 rfl z = y_5) ∨ (∃ (z : LZ W y.i 4), LY.s 3 rfl z = y_5) ∨ (∃ (z : LZ W y.i 4), LY.s 4 rfl z = y_5) ∨
 False) ∧ (∃ (z : LZ W y.i 4), max (0 : Int) (min most 100) = max (0 : Int) (min most 100) ∧ 0 = 0 ∧ 4 = y.s.N ∧ z.c1 = y.s.c1 ∧ 0 = 0 ∧ 4 = y.s.N ∧ z.c2 = y.s.c2 ∧ 0 = 0 ∧ 4 = y.s.N
 ∧ z.c1 = y.s.c1 ∧ (4 : Int) = (↑y.s.N : Int) ∧ z.W = y.s.W ∧ (4 = 4 ∧ z.c1 = y.s.c1 ∧ 0 = 0 ∧ 0 = 0 ∧ 0 = 0 ∧ 0 = 0 ∧ True) ∧ (4 = 4 ∧ z.c2 = y.s.c2 ∧ d3g (z.d 0) (y.s.d 0) (d3g
 (z.d 1) (y.s.d 1) (d3g (z.d 2) (y.s.d 2) (d3g (z.d 3) (y.s.d 3) (True))))) ∧ (z.d 0).x = y_4 ∧ (z.d 1).x = y_3 ∧ (z.d 2).x = y_2 ∧ (z.d 3).x = y_1 ∧ True) ∧ (∀ (z : LZ W y.i 4) (ρ :
 Nat → Value), (decide ((↑(z.d 0).L : Int) > (0 : Int)) = true → (arenaP_21 (z.d 0)) ∧ (addOpt (z.d 0).A 0).isSome = true ∧ (∃ (x : Addr), addOpt (addOpt (z.d 0).A 0) 0 = some x ∧
 z.W.cell? x = some (Value.int .u64 (seenInt .u64 z.W (addOpt (addOpt (z.d 0).A 0) 0)))) ∧ (arenaP_21 (z.d 0)) ∧ (addOpt (z.d 0).A 0).isSome = true ∧ (∃ (x : Addr), addOpt (addOpt
 (z.d 0).A 0) 1 = some x ∧ z.W.cell? x = some (Value.slice (seenSli z.W (addOpt (addOpt (z.d 0).A 0) 1)).fst (seenSli z.W (addOpt (addOpt (z.d 0).A 0) 1)).snd.fst (seenSli z.W
 (addOpt (addOpt (z.d 0).A 0) 1)).snd.snd)) ∧ (((0 : Int) ≤ seenInt .u64 z.W (addOpt (addOpt (z.d 0).A 0) 0) ∧ seenInt .u64 z.W (addOpt (addOpt (z.d 0).A 0) 0) <
 (18446744073709551616 : Int)) ∧ ((∃ (z_1 : Nat → Value), ArInv ((z.d 0).x.ar z_1)) → z.W = z.W ∧ z.c2 = z.c2 ∧ d3e (z.d 0) (z.d 0) (d3e (z.d 1) (z.d 1) (d3e (z.d 2) (z.d 2) (d3e
 (z.d 3) (z.d 3) (((-9223372036854775808 : Int) ≤ (↑((z.d 0).x.szV (seenInt .u64 z.W (addOpt (addOpt (z.d 0).A 0) 0))) : Int) - (↑(seenSli z.W (addOpt (addOpt (z.d 0).A 0)
 1)).snd.fst : Int) ∧ (↑((z.d 0).x.szV (seenInt .u64 z.W (addOpt (addOpt (z.d 0).A 0) 0))) : Int) - (↑(seenSli z.W (addOpt (addOpt (z.d 0).A 0) 1)).snd.fst : Int) ≤
 (9223372036854775807 : Int)) ∧ ((arenaP_25 z (z.d 0)) ∧ ∀ (W' : World), Grow z.W W' → z.c1 = z.c1 ∧ z.c2 = z.c2 ∧ d3e (z.d 0) (z.d 0) (d3e (z.d 1) (z.d 1) (d3e (z.d 2) (z.d 2) (d3e
 (z.d 3) (z.d 3) ((((↑((z.d 0).x.szV (seenInt .u64 z.W (addOpt (addOpt (z.d 0).A 0) 0))) : Int) - (↑(seenSli z.W (addOpt (addOpt (z.d 0).A 0) 1)).snd.fst : Int) != (0 : Int)) = true
 → false = true ∧ ∃ (W'_1 : World), some W' = some W'_1 ∧ Grow W W'_1) ∧ (((↑((z.d 0).x.szV (seenInt .u64 z.W (addOpt (addOpt (z.d 0).A 0) 0))) : Int) - (↑(seenSli z.W (addOpt
 (addOpt (z.d 0).A 0) 1)).snd.fst : Int) != (0 : Int)) = false → arenaP_14 most W' W y z (z.d 0) (z.d 1) (z.d 2) (z.d 3))))))) ∧ True)))))) ∧ True) ∧ (decide ((↑(z.d 0).L : Int) > (0
 : Int)) = false → ((arenaP_25 z (z.d 0)) ∧ ∀ (W' : World), Grow z.W W' → z.c1 = z.c1 ∧ z.c2 = z.c2 ∧ d3e (z.d 0) (z.d 0) (d3e (z.d 1) (z.d 1) (d3e (z.d 2) (z.d 2) (d3e (z.d 3) (z.d
 3) (arenaP_14 most W' W y z (z.d 0) (z.d 1) (z.d 2) (z.d 3)))))) ∧ True)) ∧ (∀ (z : LZ W y.i 4) (ρ : Nat → Value), (decide ((↑(z.d 1).L : Int) > (0 : Int)) = true → (arenaP_21 (z.d
 1)) ∧ (addOpt (z.d 1).A 0).isSome = true ∧ (∃ (x : Addr), addOpt (addOpt (z.d 1).A 0) 0 = some x ∧ z.W.cell? x = some (Value.int .u64 (seenInt .u64 z.W (addOpt (addOpt (z.d 1).A 0)
 0)))) ∧ (arenaP_21 (z.d 1)) ∧ (addOpt (z.d 1).A 0).isSome = true ∧ (∃ (x : Addr), addOpt (addOpt (z.d 1).A 0) 1 = some x ∧ z.W.cell? x = some (Value.slice (seenSli z.W (addOpt
 (addOpt (z.d 1).A 0) 1)).fst (seenSli z.W (addOpt (addOpt (z.d 1).A 0) 1)).snd.fst (seenSli z.W (addOpt (addOpt (z.d 1).A 0) 1)).snd.snd)) ∧ (((0 : Int) ≤ seenInt .u64 z.W (addOpt
 (addOpt (z.d 1).A 0) 0) ∧ seenInt .u64 z.W (addOpt (addOpt (z.d 1).A 0) 0) < (18446744073709551616 : Int)) ∧ ((∃ (z_1 : Nat → Value), ArInv ((z.d 1).x.ar z_1)) → z.W = z.W ∧ z.c2 =
 z.c2 ∧ d3e (z.d 0) (z.d 0) (d3e (z.d 1) (z.d 1) (d3e (z.d 2) (z.d 2) (d3e (z.d 3) (z.d 3) (((-9223372036854775808 : Int) ≤ (↑((z.d 1).x.szV (seenInt .u64 z.W (addOpt (addOpt (z.d
 1).A 0) 0))) : Int) - (↑(seenSli z.W (addOpt (addOpt (z.d 1).A 0) 1)).snd.fst : Int) ∧ (↑((z.d 1).x.szV (seenInt .u64 z.W (addOpt (addOpt (z.d 1).A 0) 0))) : Int) - (↑(seenSli z.W
 (addOpt (addOpt (z.d 1).A 0) 1)).snd.fst : Int) ≤ (9223372036854775807 : Int)) ∧ ((arenaP_25 z (z.d 1)) ∧ ∀ (W' : World), Grow z.W W' → z.c1 = z.c1 ∧ z.c2 = z.c2 ∧ d3e (z.d 0) (z.d
 0) (d3e (z.d 1) (z.d 1) (d3e (z.d 2) (z.d 2) (d3e (z.d 3) (z.d 3) ((((↑((z.d 1).x.szV (seenInt .u64 z.W (addOpt (addOpt (z.d 1).A 0) 0))) : Int) - (↑(seenSli z.W (addOpt (addOpt
 (z.d 1).A 0) 1)).snd.fst : Int) != (0 : Int)) = true → false = true ∧ ∃ (W'_1 : World), some W' = some W'_1 ∧ Grow W W'_1) ∧ (((↑((z.d 1).x.szV (seenInt .u64 z.W (addOpt (addOpt
 (z.d 1).A 0) 0))) : Int) - (↑(seenSli z.W (addOpt (addOpt (z.d 1).A 0) 1)).snd.fst : Int) != (0 : Int)) = false → arenaP_8 most W' W y z (z.d 1) (z.d 0) (z.d 2) (z.d 3))))))) ∧
 True)))))) ∧ True) ∧ (decide ((↑(z.d 1).L : Int) > (0 : Int)) = false → ((arenaP_25 z (z.d 1)) ∧ ∀ (W' : World), Grow z.W W' → z.c1 = z.c1 ∧ z.c2 = z.c2 ∧ d3e (z.d 0) (z.d 0) (d3e
 (z.d 1) (z.d 1) (d3e (z.d 2) (z.d 2) (d3e (z.d 3) (z.d 3) (arenaP_8 most W' W y z (z.d 1) (z.d 0) (z.d 2) (z.d 3)))))) ∧ True)) ∧ (∀ (z : LZ W y.i 4) (ρ : Nat → Value), (decide
 ((↑(z.d 2).L : Int) > (0 : Int)) = true → (arenaP_21 (z.d 2)) ∧ (addOpt (z.d 2).A 0).isSome = true ∧ (∃ (x : Addr), addOpt (addOpt (z.d 2).A 0) 0 = some x ∧ z.W.cell? x = some
 (Value.int .u64 (seenInt .u64 z.W (addOpt (addOpt (z.d 2).A 0) 0)))) ∧ (arenaP_21 (z.d 2)) ∧ (addOpt (z.d 2).A 0).isSome = true ∧ (∃ (x : Addr), addOpt (addOpt (z.d 2).A 0) 1 = some
 x ∧ z.W.cell? x = some (Value.slice (seenSli z.W (addOpt (addOpt (z.d 2).A 0) 1)).fst (seenSli z.W (addOpt (addOpt (z.d 2).A 0) 1)).snd.fst (seenSli z.W (addOpt (addOpt (z.d 2).A 0)
 1)).snd.snd)) ∧ (((0 : Int) ≤ seenInt .u64 z.W (addOpt (addOpt (z.d 2).A 0) 0) ∧ seenInt .u64 z.W (addOpt (addOpt (z.d 2).A 0) 0) < (18446744073709551616 : Int)) ∧ ((∃ (z_1 : Nat →
 Value), ArInv ((z.d 2).x.ar z_1)) → z.W = z.W ∧ z.c2 = z.c2 ∧ d3e (z.d 0) (z.d 0) (d3e (z.d 1) (z.d 1) (d3e (z.d 2) (z.d 2) (d3e (z.d 3) (z.d 3) (((-9223372036854775808 : Int) ≤
 (↑((z.d 2).x.szV (seenInt .u64 z.W (addOpt (addOpt (z.d 2).A 0) 0))) : Int) - (↑(seenSli z.W (addOpt (addOpt (z.d 2).A 0) 1)).snd.fst : Int) ∧ (↑((z.d 2).x.szV (seenInt .u64 z.W
 (addOpt (addOpt (z.d 2).A 0) 0))) : Int) - (↑(seenSli z.W (addOpt (addOpt (z.d 2).A 0) 1)).snd.fst : Int) ≤ (9223372036854775807 : Int)) ∧ ((arenaP_25 z (z.d 2)) ∧ ∀ (W' : World),
 Grow z.W W' → z.c1 = z.c1 ∧ z.c2 = z.c2 ∧ d3e (z.d 0) (z.d 0) (d3e (z.d 1) (z.d 1) (d3e (z.d 2) (z.d 2) (d3e (z.d 3) (z.d 3) ((((↑((z.d 2).x.szV (seenInt .u64 z.W (addOpt (addOpt
 (z.d 2).A 0) 0))) : Int) - (↑(seenSli z.W (addOpt (addOpt (z.d 2).A 0) 1)).snd.fst : Int) != (0 : Int)) = true → false = true ∧ ∃ (W'_1 : World), some W' = some W'_1 ∧ Grow W W'_1)
 ∧ (((↑((z.d 2).x.szV (seenInt .u64 z.W (addOpt (addOpt (z.d 2).A 0) 0))) : Int) - (↑(seenSli z.W (addOpt (addOpt (z.d 2).A 0) 1)).snd.fst : Int) != (0 : Int)) = false → arenaP_9
 most W' W y z (z.d 2) (z.d 0) (z.d 1) (z.d 3))))))) ∧ True)))))) ∧ True) ∧ (decide ((↑(z.d 2).L : Int) > (0 : Int)) = false → ((arenaP_25 z (z.d 2)) ∧ ∀ (W' : World), Grow z.W W' →
 z.c1 = z.c1 ∧ z.c2 = z.c2 ∧ d3e (z.d 0) (z.d 0) (d3e (z.d 1) (z.d 1) (d3e (z.d 2) (z.d 2) (d3e (z.d 3) (z.d 3) (arenaP_9 most W' W y z (z.d 2) (z.d 0) (z.d 1) (z.d 3)))))) ∧ True))
 ∧ (∀ (z : LZ W y.i 4) (ρ : Nat → Value), (decide ((↑(z.d 3).L : Int) > (0 : Int)) = true → (arenaP_21 (z.d 3)) ∧ (addOpt (z.d 3).A 0).isSome = true ∧ (∃ (x : Addr), addOpt (addOpt
 (z.d 3).A 0) 0 = some x ∧ z.W.cell? x = some (Value.int .u64 (seenInt .u64 z.W (addOpt (addOpt (z.d 3).A 0) 0)))) ∧ (arenaP_21 (z.d 3)) ∧ (addOpt (z.d 3).A 0).isSome = true ∧ (∃ (x
 : Addr), addOpt (addOpt (z.d 3).A 0) 1 = some x ∧ z.W.cell? x = some (Value.slice (seenSli z.W (addOpt (addOpt (z.d 3).A 0) 1)).fst (seenSli z.W (addOpt (addOpt (z.d 3).A 0)
 1)).snd.fst (seenSli z.W (addOpt (addOpt (z.d 3).A 0) 1)).snd.snd)) ∧ (((0 : Int) ≤ seenInt .u64 z.W (addOpt (addOpt (z.d 3).A 0) 0) ∧ seenInt .u64 z.W (addOpt (addOpt (z.d 3).A 0)
 0) < (18446744073709551616 : Int)) ∧ ((∃ (z_1 : Nat → Value), ArInv ((z.d 3).x.ar z_1)) → z.W = z.W ∧ z.c2 = z.c2 ∧ d3e (z.d 0) (z.d 0) (d3e (z.d 1) (z.d 1) (d3e (z.d 2) (z.d 2)
 (d3e (z.d 3) (z.d 3) (((-9223372036854775808 : Int) ≤ (↑((z.d 3).x.szV (seenInt .u64 z.W (addOpt (addOpt (z.d 3).A 0) 0))) : Int) - (↑(seenSli z.W (addOpt (addOpt (z.d 3).A 0)
 1)).snd.fst : Int) ∧ (↑((z.d 3).x.szV (seenInt .u64 z.W (addOpt (addOpt (z.d 3).A 0) 0))) : Int) - (↑(seenSli z.W (addOpt (addOpt (z.d 3).A 0) 1)).snd.fst : Int) ≤
 (9223372036854775807 : Int)) ∧ ((arenaP_25 z (z.d 3)) ∧ ∀ (W' : World), Grow z.W W' → z.c1 = z.c1 ∧ z.c2 = z.c2 ∧ d3e (z.d 0) (z.d 0) (d3e (z.d 1) (z.d 1) (d3e (z.d 2) (z.d 2) (d3e
 (z.d 3) (z.d 3) ((((↑((z.d 3).x.szV (seenInt .u64 z.W (addOpt (addOpt (z.d 3).A 0) 0))) : Int) - (↑(seenSli z.W (addOpt (addOpt (z.d 3).A 0) 1)).snd.fst : Int) != (0 : Int)) = true
 → false = true ∧ ∃ (W'_1 : World), some W' = some W'_1 ∧ Grow W W'_1) ∧ (((↑((z.d 3).x.szV (seenInt .u64 z.W (addOpt (addOpt (z.d 3).A 0) 0))) : Int) - (↑(seenSli z.W (addOpt
 (addOpt (z.d 3).A 0) 1)).snd.fst : Int) != (0 : Int)) = false → arenaP_10 most W' W y z (z.d 3) (z.d 0) (z.d 1) (z.d 2))))))) ∧ True)))))) ∧ True) ∧ (decide ((↑(z.d 3).L : Int) > (0
 : Int)) = false → ((arenaP_25 z (z.d 3)) ∧ ∀ (W' : World), Grow z.W W' → z.c1 = z.c1 ∧ z.c2 = z.c2 ∧ d3e (z.d 0) (z.d 0) (d3e (z.d 1) (z.d 1) (d3e (z.d 2) (z.d 2) (d3e (z.d 3) (z.d
 3) (arenaP_10 most W' W y z (z.d 3) (z.d 0) (z.d 1) (z.d 2)))))) ∧ True)) ∧ (∀ (z : LZ W y.i 4) (ρ : Nat → Value), true = true ∧ ∃ (W' : World), some z.W = some W' ∧ Grow W W') ∧
 True))))) ∧ (c < (0 : Int) ∨ (60000 : Int) < c → (decide (c < (0 : Int)) = true → true = true ∧ ∃ (W' : World), some W = some W' ∧ Grow W W') ∧ (decide (c < (0 : Int)) = false →
 (decide (c > (60000 : Int)) = true → true = true ∧ ∃ (W' : World), some W = some W' ∧ Grow W W') ∧ (decide (c > (60000 : Int)) = false → Stuck 869))))) := by
  kernel_rfl
theorem arenaPlays_run (W : World) (a : Option Addr) (len cap : Nat) (c most : Int) (hc : OpsOk W a len) : Run (callN Try.prog (tblAP : List (Smry Try.prog XP)) (fun _ t => Nat.beq t 180 || Nat.beq t 200) 100 20 3 [.c (.int false .i64 c), .c (.sliv a false len cap), .c (.int false .i64 most)] ⟨[(0, .seen W)], 1⟩ (apScr W len) (fun v m _ => retGrow W v m)) := by
  constructor
  rw [arenaPlays_vc]
  delta arenaP_1 arenaP_2 arenaP_3 arenaP_4 arenaP_15 arenaP_33 arenaP_26 arenaP_32 arenaP_40 arenaP_36 arenaP_27 arenaP_35 arenaP_5 arenaP_6 arenaP_28 arenaP_44 arenaP_41 arenaP_42 arenaP_7 arenaP_8 arenaP_9 arenaP_10 arenaP_11 arenaP_12 arenaP_39 arenaP_13 arenaP_14 arenaP_16 arenaP_17 arenaP_18 arenaP_19 arenaP_31 arenaP_34 arenaP_20 arenaP_21 arenaP_22 arenaP_23 arenaP_24 arenaP_25 arenaP_29 arenaP_30 arenaP_37 arenaP_38 arenaP_43
  refine ⟨hc, fun b hb => ⟨fun _ => ⟨rfl, W, rfl, Grow.refl W⟩, fun hbf => ⟨fun hcap => ⟨fun h => absurd (of_decide_eq_true h) (by omega), fun _ => ⟨fun h => absurd (of_decide_eq_true h) (by omega), fun _ => ⟨?_, fun y ρ => ⟨fun hlt => ⟨?_, ?_⟩, fun hge => ?_⟩⟩⟩⟩, fun hcap => ⟨fun _ => ⟨rfl, W, rfl, Grow.refl W⟩, fun h1 => ⟨fun _ => ⟨rfl, W, rfl, Grow.refl W⟩, fun h2 => ?_⟩⟩⟩⟩⟩
  · have ok0 : AR W 0 ⟨PA.new c.toNat, ⟨c, 0, 0, 0, 0, 0, 0, 0, 0, 0, 0, 0, 0, 0, 0, 0, 0, 0, 0⟩, none, 0, 0, []⟩ := ⟨DocAt.nil W, (by have h := DR.new c.toNat; rw [Int.toNat_of_nonneg hcap.1] at h; exact h), ⟨by show c.toNat ≤ 60000; omega, Nat.le_refl _, Nat.le_refl _, Nat.le_refl _, Nat.le_refl _, Nat.le_refl _, Nat.le_refl _, Nat.le_refl _, Nat.le_refl _⟩, Nat.le_refl _, Nat.le_refl _⟩
    refine ⟨⟨0, Nat.zero_le _, ⟨W, Grow.refl W, 1, Nat.le_refl _, by decide, 1, 1, fun _ => _, fun _ _ => ok0⟩⟩, ?_⟩
    repeat' first | with_reducible apply And.intro | exact trivial | exact rfl | (intro _ _; exact rfl)
  · have hlt' : y.i < len := by have := of_decide_eq_true hlt; omega
    have hi100 : y.i ≤ 100 := by have := hb hbf; omega
    have hops : SeenL y.s.W (addOpt a (y.i * 9)) 0 opK := SeenL.grow y.s.g (hc.ops y.i hlt')
    have hsome := hc.some (by omega)
    have hN1 := y.s.h1
    have hN4 := y.s.h4
    refine ⟨⟨by omega, by omega, hsome⟩, hops, ⟨⟨by omega, by omega⟩, ⟨wrap_u64_nonneg _, by omega⟩, ?_, ⟨apOp y.s.g hc hlt', ⟨(IntKind.u64.wrap (seenInt .i64 y.s.W (addOpt (addOpt a (y.i * 9)) 1)) % (y.s.N : Int)).toNat, ?_⟩⟩, ?_⟩, ?_⟩
    · exact ⟨by have := Int.emod_nonneg (IntKind.u64.wrap (seenInt .i64 y.s.W (addOpt (addOpt a (y.i * 9)) 1))) (b := (y.s.N : Int)) (by omega); exact Int.le_trans (by decide) this, by have := Int.emod_lt_of_pos (IntKind.u64.wrap (seenInt .i64 y.s.W (addOpt (addOpt a (y.i * 9)) 1))) (b := (y.s.N : Int)) (by omega); exact Int.le_trans (Int.le_of_lt this) (by omega)⟩
    · have h1 := Int.emod_nonneg (IntKind.u64.wrap (seenInt .i64 y.s.W (addOpt (addOpt a (y.i * 9)) 1))) (b := (y.s.N : Int)) (by omega)
      have h2 := Int.emod_lt_of_pos (IntKind.u64.wrap (seenInt .i64 y.s.W (addOpt (addOpt a (y.i * 9)) 1))) (b := (y.s.N : Int)) (by omega)
      omega
    · repeat' first | with_reducible apply And.intro | exact trivial | with_reducible exact rfl | exact rfl | (intro _ _; exact rfl)
      exact Int.toNat_of_nonneg (Int.emod_nonneg _ (by omega))
    · intro z ρ1
      obtain ⟨o, k, hk⟩ := z
      have hki : ((k : Nat) : Int) < (y.s.N : Int) := by omega
      refine ⟨⟨⟨Int.natCast_nonneg _, hki⟩, rfl⟩, fun g x hx => ⟨⟨⟨Int.natCast_nonneg _, hki⟩, rfl⟩, fun e he => ?_⟩⟩
      have he : e = y.s.d k := he
      have hx : x = e.x := by rw [he]; exact (Option.some.inj hx).symm
      have R : AR y.s.W y.i e := he ▸ y.s.ok k hk
      subst hx
      have k0 : (0 : Int) ≤ (k : Int) := Int.natCast_nonneg _
      have kN : ((k : Int)).toNat = k := rfl
      simp only [kN, d3e_self, eq_self, true_and, and_true, k0, hki]
      have ok := R.ok3 hi100
      have ob := o.ok
      have on := o.n0
      have om := o.m0
      have f9 := R.dr.fx9
      have bne : ∀ {p q : Int}, p = q → (p != q) = true → False := fun e h => by subst e; rw [bne_self_eq_false] at h; cases h
      have layL : (words3 y.s.W o.v.wa o.v.wl).length = o.v.wl := words3_len _ _ _
      refine ⟨by (first | rfl | exact Nat.zero_add _ | simp [addO]), by (first | rfl | exact Nat.zero_add _ | simp [addO]), ⟨⟨_, R.at'⟩, ob⟩, fun h b hhb => ⟨fun _ => ?_, fun _ => ⟨fun _ => ?_, fun _ => ⟨fun _ => ?_, fun _ => ⟨fun _ => ?_, fun _ => ⟨fun _ => ?_, fun _ => ⟨fun _ => ?_, fun _ => ⟨fun _ => ?_, fun _ => ⟨fun hN => ?_, fun _ => ?_⟩⟩⟩⟩⟩⟩⟩⟩⟩
      · refine ⟨o.ws, o.wlen, fun hz => ⟨e.bs, R.layAny hi100 o.ws o.wsm o.wlen, fun W' y3 a' l' c' h1 e1 ho => ?_⟩⟩
        obtain ⟨q1, q2, bs', R'⟩ := R.lay hi100 hz ho
        rw [layL] at q1 q2 R'
        refine ⟨fun h => (bne q1 h).elim, fun _ => ⟨fun h => (bne q2 h).elim, fun _ => ?_⟩⟩
        refine ⟨by (first | rfl | exact Nat.zero_add _ | simp [addO]), apPut y.s k ho.grow _ R', ?_⟩
        repeat' first | with_reducible apply And.intro | with_reducible exact rfl | exact apPut_x _ _ _ _ _ | (intro _ _; exact apPut_v _ _ _ _ _ _) | exact rfl
      · refine ⟨o.ws, o.wlen, fun hz => ⟨e.bs, R.layAny hi100 o.ws o.wsm o.wlen, fun W' y3 a' l' c' h1 e1 ho => ?_⟩⟩
        obtain ⟨q1, q2, bs', R'⟩ := R.lay hi100 hz ho
        rw [layL] at q1 q2 R'
        refine ⟨fun h => (bne q1 h).elim, fun _ => ⟨fun h => (bne q2 h).elim, fun _ => ?_⟩⟩
        refine ⟨by (first | rfl | exact Nat.zero_add _ | simp [addO]), apPut y.s k ho.grow _ R', ?_⟩
        repeat' first | with_reducible apply And.intro | with_reducible exact rfl | exact apPut_x _ _ _ _ _ | (intro _ _; exact apPut_v _ _ _ _ _ _) | exact rfl
      · refine ⟨e.bs, R.at', fun y0 hy0 => ⟨hy0 ▸ ok, fun W' a' l' c' y' bs' G at' hy' hb' => ⟨hhb.1, fun hz => ?_⟩⟩⟩
        have hy0 : y0 = e.y := hy0
        subst hy0 hy' hb'
        refine ⟨fun q => (bne (R.dr.freeE hz hhb.1.1).symm q).elim, fun _ => ?_⟩
        have R' : AR W' (y.i + 1) ⟨e.x.frX h, free3Y e.y e.bs h, a', l', c', free3B e.bs h⟩ := R.next at' (R.dr.free hz hhb.1.1) (step_fr _ _) (mild_free _ _)
        refine ⟨by (first | rfl | exact Nat.zero_add _ | simp [addO]), apPut y.s k G _ R', ?_⟩
        repeat' first | with_reducible apply And.intro | with_reducible exact rfl | exact apPut_x _ _ _ _ _ | (intro _ _; exact apPut_v _ _ _ _ _ _) | exact rfl
      · refine ⟨⟨hhb.2, f9⟩, fun hz => ⟨e.bs, R.at', fun y0 hy0 => ⟨hy0 ▸ ok, fun W' a' l' c' y' bs' G at' hy' hb' => ?_⟩⟩⟩
        have hy0 : y0 = e.y := hy0
        subst hy0 hy' hb'
        refine ⟨fun q => (bne (R.dr.getW hz hhb.2.1).symm q).elim, fun _ => ⟨fun q => (bne (R.dr.getE hz hhb.2.1).symm q).elim, fun _ => ?_⟩⟩
        have R' : AR W' (y.i + 1) ⟨e.x.rdX b o.v.xa, read3Y e.y e.bs b o.v.xa, a', l', c', e.bs⟩ := R.next at' (R.dr.read hz hhb.2.1) (step_rd _ _ _) (Mild.refl _)
        refine ⟨by (first | rfl | exact Nat.zero_add _ | simp [addO]), apPut y.s k G _ R', ?_⟩
        repeat' first | with_reducible apply And.intro | with_reducible exact rfl | exact apPut_x _ _ _ _ _ | (intro _ _; exact apPut_v _ _ _ _ _ _) | exact rfl
      · refine ⟨e.bs, R.at', fun y0 hy0 => ⟨⟨hy0 ▸ ok, on⟩, fun W' a' l' c' y' bs' G at' hy' hb' => ⟨⟨⟨hhb.2, f9⟩, on⟩, fun hz => ?_⟩⟩⟩
        have hy0 : y0 = e.y := hy0
        subst hy0 hy' hb'
        refine ⟨fun q => (bne (R.dr.getE hz hhb.2.1).symm q).elim, fun _ => ?_⟩
        have R' : AR W' (y.i + 1) ⟨e.x.wrX b o.v.xa o.v.n, write3Y e.y e.bs b o.v.xa o.v.n, a', l', c', write3B e.y e.bs b o.v.xa o.v.n⟩ := R.next at' (R.dr.write hz hhb.2.1 on.1) (step_wr _ _ _ _) (mild_write _ _ _ _ _)
        refine ⟨by (first | rfl | exact Nat.zero_add _ | simp [addO]), apPut y.s k G _ R', ?_⟩
        repeat' first | with_reducible apply And.intro | with_reducible exact rfl | exact apPut_x _ _ _ _ _ | (intro _ _; exact apPut_v _ _ _ _ _ _) | exact rfl
      · refine ⟨⟨⟨hhb.2, f9⟩, om, on.1⟩, fun hz => ⟨e.bs, R.at', fun y0 hy0 => ⟨⟨hy0 ▸ ok, om⟩, fun W' a' l' c' y' bs' G at' hy' hb' => ?_⟩⟩⟩
        have hy0 : y0 = e.y := hy0
        subst hy0 hy' hb'
        refine ⟨fun q => ?_, fun _ => ⟨fun q => (bne (R.dr.getE hz hhb.2.1).symm q).elim, fun _ => ?_⟩⟩
        · exfalso
          rw [R.dr.swapR hz hhb.2.1, beq_self_eq_true] at q
          cases q
        have R' : AR W' (y.i + 1) ⟨e.x.swX b o.v.xa o.v.n o.v.m, swap3Y e.y e.bs b o.v.xa o.v.n o.v.m, a', l', c', swap3B e.y e.bs b o.v.xa o.v.n o.v.m⟩ := R.next at' (R.dr.swap hz hhb.2.1 om.1) (step_sw _ _ _ _ _) (mild_swap _ _ _ _ _ _)
        refine ⟨by (first | rfl | exact Nat.zero_add _ | simp [addO]), apPut y.s k G _ R', ?_⟩
        repeat' first | with_reducible apply And.intro | with_reducible exact rfl | exact apPut_x _ _ _ _ _ | (intro _ _; exact apPut_v _ _ _ _ _ _) | exact rfl
      · refine ⟨⟨⟨hhb.2, f9⟩, on⟩, fun hz => ⟨e.bs, R.at', fun y0 hy0 => ⟨⟨hy0 ▸ ok, on⟩, fun W' a' l' c' y' bs' G at' hy' hb' => ?_⟩⟩⟩
        have hy0 : y0 = e.y := hy0
        subst hy0 hy' hb'
        refine ⟨fun q => (bne (R.dr.getW hz hhb.2.1).symm q).elim, fun _ => ⟨fun q => (bne (R.dr.getE hz hhb.2.1).symm q).elim, fun _ => ?_⟩⟩
        have R' : AR W' (y.i + 1) ⟨e.x.adX b o.v.xa o.v.n, add3Y e.y e.bs b o.v.xa o.v.n, a', l', c', add3B e.y e.bs b o.v.xa o.v.n⟩ := R.next at' (R.dr.add hz hhb.2.1 on.1) (step_ad _ _ _ _) (mild_add _ _ _ _ _)
        refine ⟨by (first | rfl | exact Nat.zero_add _ | simp [addO]), apPut y.s k G _ R', ?_⟩
        repeat' first | with_reducible apply And.intro | with_reducible exact rfl | exact apPut_x _ _ _ _ _ | (intro _ _; exact apPut_v _ _ _ _ _ _) | exact rfl
      · have hN' : y.s.N < 4 := by have := of_decide_eq_true hN; omega
        intro g2
        refine ⟨fun hz l hl => ⟨⟨⟨Nat.le_refl _, by omega, fun c1 h1 => ⟨Nat.le_refl _, by omega, fun c2 h2 => ⟨by omega, by omega, by (first | rfl | exact Nat.zero_add _ | simp [addO]), ⟨hk, fun j hj => if_pos hj⟩, ?_⟩⟩⟩, fun K q => q⟩, fun K q => q.1⟩, fun K q hz l hl => (q hz l hl).1.1⟩
        subst he
        refine ⟨apPush y.s k hk hN' c1 c2 l hl, rfl, rfl, rfl, rfl, rfl, ⟨rfl, rfl, apPush_x y.s k hk hN' c1 c2 l hl⟩, rfl, rfl, fun j hj => apPush_v y.s k hk hN' c1 c2 l hl hj⟩
      · have R' := R.grow (Grow.refl _) (Nat.le_succ _)
        refine ⟨by (first | rfl | exact Nat.zero_add _ | simp [addO]), apPut y.s k (Grow.refl _) _ R', ?_⟩
        repeat' first | with_reducible apply And.intro | with_reducible exact rfl | exact apPut_x _ _ _ _ _ | (intro _ _; exact apPut_v _ _ _ _ _ _) | exact rfl
  · intro y1 ρ1
    refine ⟨⟨by omega, by have := hb hbf; have := of_decide_eq_true hlt; omega⟩, ⟨y.i + 1, by have := of_decide_eq_true hlt; omega, y1⟩, ?_⟩
    refine ⟨by have := of_decide_eq_true hlt; show len - (y.i + 1) < len - y.i; omega, ?_⟩
    repeat' first | with_reducible apply And.intro | exact trivial | with_reducible exact rfl | exact rfl | (intro _ _; exact rfl)
  · have hN1 := y.s.h1
    have hN4 := y.s.h4
    have hi100 : y.i ≤ 100 := by have := hb hbf; have := y.hi; omega
    refine ⟨⟨hN1, hN4, fun _ _ => rfl⟩, ?_⟩
    refine ⟨fun hN => ?_, fun hN => ?_, fun hN => ?_, fun hN => ?_⟩
    · intro x0 e0
      cases e0
      refine ⟨hN, ly1, ⟨⟨y.s.W, y.s.g, y.s.c1, y.s.c2, y.s.d, fun j hj => y.s.ok j (by omega)⟩, ?_⟩, fun z ρ => ?_, fun z ρ => ⟨rfl, z.W, rfl, z.g⟩, trivial⟩
      · repeat' first | with_reducible apply And.intro | exact trivial | with_reducible exact rfl | exact rfl | with_reducible refine d3g_intro _ ?_ | exact d3g_intro _ trivial | refine d3g_intro _ ?_ | omega | (show _ = _; omega)
      · simp only [d3e_self, eq_self, true_and, and_true]
        have Rk := z.ok 0 (by decide)
        have R0 := z.ok 0 (by decide)
        refine ⟨fun hL => ?_, fun hL => ⟨⟨_, Rk.at', fun y0 e => ⟨e ▸ Rk.dr, Rk.pafew hi100⟩⟩, fun W' G => ?_⟩⟩
        · have hL : 0 < _ := Int.natCast_pos.1 (of_decide_eq_true hL)
          have sm := Rk.at'.row.sm hL
          have ks := Rk.at'.row.kinds hL
          refine ⟨⟨Int.le_refl _, Int.natCast_pos.2 hL, sm⟩, addOpt_isSome sm, ks.1, ⟨Int.le_refl _, Int.natCast_pos.2 hL, sm⟩, addOpt_isSome sm, ks.2.1, u64_bd _ _, fun hz => ?_⟩
          have hsz := ap_size Rk hz hL
          refine ⟨by rw [hsz]; decide, ⟨_, Rk.at', fun y0 e => ⟨e ▸ Rk.dr, Rk.pafew hi100⟩⟩, fun W' G => ⟨fun q => (by exfalso; rw [hsz] at q; cases q), fun _ => ?_⟩⟩
          refine ⟨⟨by omega, by have := Rk.at'.lc; omega⟩, fun W1 a1 cap1 bs1 L1 G1 hz1 hL1 hbs1 hrow1 hcap1 => ?_⟩
          have Rk1 := Rk.grow (G.trans G1) (Nat.le_refl _)
          have R01 := R0.grow (G.trans G1) (Nat.le_refl _)
          obtain ⟨rw1, hr1⟩ := ap_blocks Rk1 (K := max 0 (min most 100)) (by omega) hL1 hbs1 hrow1
          refine ⟨rw1, fun r1 h1 => ⟨fun q => (by exfalso; rw [hr1 r1 h1] at q; cases q), fun _ => ?_⟩⟩
          refine ⟨fun hf => ⟨⟨Rk1.row, Rk1.row⟩, fun r2 h2 => ⟨fun q => (by exfalso; rw [h2.2 (fun _ _ => ⟨rfl, rfl, fun _ _ => rfl⟩)] at q; cases q), fun _ => ?_⟩⟩, fun hf => ((ap_self Rk1).2 hf).elim⟩
          refine ⟨⟨W1, z.g.trans (G.trans G1), z.c1, z.c2, z.d, fun j hj => (z.ok j hj).grow (G.trans G1) (Nat.le_refl _)⟩, Nat.lt_add_one _, ?_⟩
          repeat' first | with_reducible apply And.intro | exact trivial | with_reducible exact rfl | exact rfl | with_reducible refine d3g_intro _ ?_ | exact d3g_intro _ trivial | refine d3g_intro _ ?_ | omega | (show _ = _; omega)
        · refine ⟨⟨by omega, by have := Rk.at'.lc; omega⟩, fun W1 a1 cap1 bs1 L1 G1 hz1 hL1 hbs1 hrow1 hcap1 => ?_⟩
          have Rk1 := Rk.grow (G.trans G1) (Nat.le_refl _)
          have R01 := R0.grow (G.trans G1) (Nat.le_refl _)
          obtain ⟨rw1, hr1⟩ := ap_blocks Rk1 (K := max 0 (min most 100)) (by omega) hL1 hbs1 hrow1
          refine ⟨rw1, fun r1 h1 => ⟨fun q => (by exfalso; rw [hr1 r1 h1] at q; cases q), fun _ => ?_⟩⟩
          refine ⟨fun hf => ⟨⟨Rk1.row, Rk1.row⟩, fun r2 h2 => ⟨fun q => (by exfalso; rw [h2.2 (fun _ _ => ⟨rfl, rfl, fun _ _ => rfl⟩)] at q; cases q), fun _ => ?_⟩⟩, fun hf => ((ap_self Rk1).2 hf).elim⟩
          refine ⟨⟨W1, z.g.trans (G.trans G1), z.c1, z.c2, z.d, fun j hj => (z.ok j hj).grow (G.trans G1) (Nat.le_refl _)⟩, Nat.lt_add_one _, ?_⟩
          repeat' first | with_reducible apply And.intro | exact trivial | with_reducible exact rfl | exact rfl | with_reducible refine d3g_intro _ ?_ | exact d3g_intro _ trivial | refine d3g_intro _ ?_ | omega | (show _ = _; omega)
    · intro x1 e1 x0 e0
      cases e0
      cases e1
      refine ⟨hN, ly2, ⟨⟨y.s.W, y.s.g, y.s.c1, y.s.c2, y.s.d, fun j hj => y.s.ok j (by omega)⟩, ?_⟩, fun z ρ => ?_, fun z ρ => ?_, fun z ρ => ⟨rfl, z.W, rfl, z.g⟩, trivial⟩
      · repeat' first | with_reducible apply And.intro | exact trivial | with_reducible exact rfl | exact rfl | with_reducible refine d3g_intro _ ?_ | exact d3g_intro _ trivial | refine d3g_intro _ ?_ | omega | (show _ = _; omega)
      · simp only [d3e_self, eq_self, true_and, and_true]
        have Rk := z.ok 0 (by decide)
        have R0 := z.ok 0 (by decide)
        refine ⟨fun hL => ?_, fun hL => ⟨⟨_, Rk.at', fun y0 e => ⟨e ▸ Rk.dr, Rk.pafew hi100⟩⟩, fun W' G => ?_⟩⟩
        · have hL : 0 < _ := Int.natCast_pos.1 (of_decide_eq_true hL)
          have sm := Rk.at'.row.sm hL
          have ks := Rk.at'.row.kinds hL
          refine ⟨⟨Int.le_refl _, Int.natCast_pos.2 hL, sm⟩, addOpt_isSome sm, ks.1, ⟨Int.le_refl _, Int.natCast_pos.2 hL, sm⟩, addOpt_isSome sm, ks.2.1, u64_bd _ _, fun hz => ?_⟩
          have hsz := ap_size Rk hz hL
          refine ⟨by rw [hsz]; decide, ⟨_, Rk.at', fun y0 e => ⟨e ▸ Rk.dr, Rk.pafew hi100⟩⟩, fun W' G => ⟨fun q => (by exfalso; rw [hsz] at q; cases q), fun _ => ?_⟩⟩
          refine ⟨⟨by omega, by have := Rk.at'.lc; omega⟩, fun W1 a1 cap1 bs1 L1 G1 hz1 hL1 hbs1 hrow1 hcap1 => ?_⟩
          have Rk1 := Rk.grow (G.trans G1) (Nat.le_refl _)
          have R01 := R0.grow (G.trans G1) (Nat.le_refl _)
          obtain ⟨rw1, hr1⟩ := ap_blocks Rk1 (K := max 0 (min most 100)) (by omega) hL1 hbs1 hrow1
          refine ⟨rw1, fun r1 h1 => ⟨fun q => (by exfalso; rw [hr1 r1 h1] at q; cases q), fun _ => ?_⟩⟩
          refine ⟨fun hf => ⟨⟨Rk1.row, Rk1.row⟩, fun r2 h2 => ⟨fun q => (by exfalso; rw [h2.2 (fun _ _ => ⟨rfl, rfl, fun _ _ => rfl⟩)] at q; cases q), fun _ => ?_⟩⟩, fun hf => ((ap_self Rk1).2 hf).elim⟩
          refine ⟨⟨W1, z.g.trans (G.trans G1), z.c1, z.c2, z.d, fun j hj => (z.ok j hj).grow (G.trans G1) (Nat.le_refl _)⟩, Nat.lt_add_one _, ?_⟩
          repeat' first | with_reducible apply And.intro | exact trivial | with_reducible exact rfl | exact rfl | with_reducible refine d3g_intro _ ?_ | exact d3g_intro _ trivial | refine d3g_intro _ ?_ | omega | (show _ = _; omega)
        · refine ⟨⟨by omega, by have := Rk.at'.lc; omega⟩, fun W1 a1 cap1 bs1 L1 G1 hz1 hL1 hbs1 hrow1 hcap1 => ?_⟩
          have Rk1 := Rk.grow (G.trans G1) (Nat.le_refl _)
          have R01 := R0.grow (G.trans G1) (Nat.le_refl _)
          obtain ⟨rw1, hr1⟩ := ap_blocks Rk1 (K := max 0 (min most 100)) (by omega) hL1 hbs1 hrow1
          refine ⟨rw1, fun r1 h1 => ⟨fun q => (by exfalso; rw [hr1 r1 h1] at q; cases q), fun _ => ?_⟩⟩
          refine ⟨fun hf => ⟨⟨Rk1.row, Rk1.row⟩, fun r2 h2 => ⟨fun q => (by exfalso; rw [h2.2 (fun _ _ => ⟨rfl, rfl, fun _ _ => rfl⟩)] at q; cases q), fun _ => ?_⟩⟩, fun hf => ((ap_self Rk1).2 hf).elim⟩
          refine ⟨⟨W1, z.g.trans (G.trans G1), z.c1, z.c2, z.d, fun j hj => (z.ok j hj).grow (G.trans G1) (Nat.le_refl _)⟩, Nat.lt_add_one _, ?_⟩
          repeat' first | with_reducible apply And.intro | exact trivial | with_reducible exact rfl | exact rfl | with_reducible refine d3g_intro _ ?_ | exact d3g_intro _ trivial | refine d3g_intro _ ?_ | omega | (show _ = _; omega)
      · simp only [d3e_self, eq_self, true_and, and_true]
        have Rk := z.ok 1 (by decide)
        have R0 := z.ok 0 (by decide)
        refine ⟨fun hL => ?_, fun hL => ⟨⟨_, Rk.at', fun y0 e => ⟨e ▸ Rk.dr, Rk.pafew hi100⟩⟩, fun W' G => ?_⟩⟩
        · have hL : 0 < _ := Int.natCast_pos.1 (of_decide_eq_true hL)
          have sm := Rk.at'.row.sm hL
          have ks := Rk.at'.row.kinds hL
          refine ⟨⟨Int.le_refl _, Int.natCast_pos.2 hL, sm⟩, addOpt_isSome sm, ks.1, ⟨Int.le_refl _, Int.natCast_pos.2 hL, sm⟩, addOpt_isSome sm, ks.2.1, u64_bd _ _, fun hz => ?_⟩
          have hsz := ap_size Rk hz hL
          refine ⟨by rw [hsz]; decide, ⟨_, Rk.at', fun y0 e => ⟨e ▸ Rk.dr, Rk.pafew hi100⟩⟩, fun W' G => ⟨fun q => (by exfalso; rw [hsz] at q; cases q), fun _ => ?_⟩⟩
          refine ⟨⟨by omega, by have := Rk.at'.lc; omega⟩, fun W1 a1 cap1 bs1 L1 G1 hz1 hL1 hbs1 hrow1 hcap1 => ?_⟩
          have Rk1 := Rk.grow (G.trans G1) (Nat.le_refl _)
          have R01 := R0.grow (G.trans G1) (Nat.le_refl _)
          obtain ⟨rw1, hr1⟩ := ap_blocks Rk1 (K := max 0 (min most 100)) (by omega) hL1 hbs1 hrow1
          refine ⟨rw1, fun r1 h1 => ⟨fun q => (by exfalso; rw [hr1 r1 h1] at q; cases q), fun _ => ?_⟩⟩
          intro v v'
          obtain ⟨s1, s2⟩ := ap_same Rk1 R01 v v' rfl
          refine ⟨fun hf => ⟨(s1 hf).1, fun r2 h2 => ⟨fun q => (by exfalso; rw [(s1 hf).2 r2 h2] at q; cases q), fun _ => ?_⟩⟩, fun hf => ⟨fun q => (by exfalso; rw [s2 hf] at q; cases q), fun _ => ?_⟩⟩
          · refine ⟨⟨W1, z.g.trans (G.trans G1), z.c1, z.c2, z.d, fun j hj => (z.ok j hj).grow (G.trans G1) (Nat.le_refl _)⟩, Nat.lt_add_one _, ?_⟩
            repeat' first | with_reducible apply And.intro | exact trivial | with_reducible exact rfl | exact rfl | with_reducible refine d3g_intro _ ?_ | exact d3g_intro _ trivial | refine d3g_intro _ ?_ | omega | (show _ = _; omega)
          · refine ⟨⟨W1, z.g.trans (G.trans G1), z.c1, z.c2, z.d, fun j hj => (z.ok j hj).grow (G.trans G1) (Nat.le_refl _)⟩, Nat.lt_add_one _, ?_⟩
            repeat' first | with_reducible apply And.intro | exact trivial | with_reducible exact rfl | exact rfl | with_reducible refine d3g_intro _ ?_ | exact d3g_intro _ trivial | refine d3g_intro _ ?_ | omega | (show _ = _; omega)
        · refine ⟨⟨by omega, by have := Rk.at'.lc; omega⟩, fun W1 a1 cap1 bs1 L1 G1 hz1 hL1 hbs1 hrow1 hcap1 => ?_⟩
          have Rk1 := Rk.grow (G.trans G1) (Nat.le_refl _)
          have R01 := R0.grow (G.trans G1) (Nat.le_refl _)
          obtain ⟨rw1, hr1⟩ := ap_blocks Rk1 (K := max 0 (min most 100)) (by omega) hL1 hbs1 hrow1
          refine ⟨rw1, fun r1 h1 => ⟨fun q => (by exfalso; rw [hr1 r1 h1] at q; cases q), fun _ => ?_⟩⟩
          intro v v'
          obtain ⟨s1, s2⟩ := ap_same Rk1 R01 v v' rfl
          refine ⟨fun hf => ⟨(s1 hf).1, fun r2 h2 => ⟨fun q => (by exfalso; rw [(s1 hf).2 r2 h2] at q; cases q), fun _ => ?_⟩⟩, fun hf => ⟨fun q => (by exfalso; rw [s2 hf] at q; cases q), fun _ => ?_⟩⟩
          · refine ⟨⟨W1, z.g.trans (G.trans G1), z.c1, z.c2, z.d, fun j hj => (z.ok j hj).grow (G.trans G1) (Nat.le_refl _)⟩, Nat.lt_add_one _, ?_⟩
            repeat' first | with_reducible apply And.intro | exact trivial | with_reducible exact rfl | exact rfl | with_reducible refine d3g_intro _ ?_ | exact d3g_intro _ trivial | refine d3g_intro _ ?_ | omega | (show _ = _; omega)
          · refine ⟨⟨W1, z.g.trans (G.trans G1), z.c1, z.c2, z.d, fun j hj => (z.ok j hj).grow (G.trans G1) (Nat.le_refl _)⟩, Nat.lt_add_one _, ?_⟩
            repeat' first | with_reducible apply And.intro | exact trivial | with_reducible exact rfl | exact rfl | with_reducible refine d3g_intro _ ?_ | exact d3g_intro _ trivial | refine d3g_intro _ ?_ | omega | (show _ = _; omega)
    · intro x2 e2 x1 e1 x0 e0
      cases e0
      cases e1
      cases e2
      refine ⟨hN, ly3, ⟨⟨y.s.W, y.s.g, y.s.c1, y.s.c2, y.s.d, fun j hj => y.s.ok j (by omega)⟩, ?_⟩, fun z ρ => ?_, fun z ρ => ?_, fun z ρ => ?_, fun z ρ => ⟨rfl, z.W, rfl, z.g⟩, trivial⟩
      · repeat' first | with_reducible apply And.intro | exact trivial | with_reducible exact rfl | exact rfl | with_reducible refine d3g_intro _ ?_ | exact d3g_intro _ trivial | refine d3g_intro _ ?_ | omega | (show _ = _; omega)
      · simp only [d3e_self, eq_self, true_and, and_true]
        have Rk := z.ok 0 (by decide)
        have R0 := z.ok 0 (by decide)
        refine ⟨fun hL => ?_, fun hL => ⟨⟨_, Rk.at', fun y0 e => ⟨e ▸ Rk.dr, Rk.pafew hi100⟩⟩, fun W' G => ?_⟩⟩
        · have hL : 0 < _ := Int.natCast_pos.1 (of_decide_eq_true hL)
          have sm := Rk.at'.row.sm hL
          have ks := Rk.at'.row.kinds hL
          refine ⟨⟨Int.le_refl _, Int.natCast_pos.2 hL, sm⟩, addOpt_isSome sm, ks.1, ⟨Int.le_refl _, Int.natCast_pos.2 hL, sm⟩, addOpt_isSome sm, ks.2.1, u64_bd _ _, fun hz => ?_⟩
          have hsz := ap_size Rk hz hL
          refine ⟨by rw [hsz]; decide, ⟨_, Rk.at', fun y0 e => ⟨e ▸ Rk.dr, Rk.pafew hi100⟩⟩, fun W' G => ⟨fun q => (by exfalso; rw [hsz] at q; cases q), fun _ => ?_⟩⟩
          refine ⟨⟨by omega, by have := Rk.at'.lc; omega⟩, fun W1 a1 cap1 bs1 L1 G1 hz1 hL1 hbs1 hrow1 hcap1 => ?_⟩
          have Rk1 := Rk.grow (G.trans G1) (Nat.le_refl _)
          have R01 := R0.grow (G.trans G1) (Nat.le_refl _)
          obtain ⟨rw1, hr1⟩ := ap_blocks Rk1 (K := max 0 (min most 100)) (by omega) hL1 hbs1 hrow1
          refine ⟨rw1, fun r1 h1 => ⟨fun q => (by exfalso; rw [hr1 r1 h1] at q; cases q), fun _ => ?_⟩⟩
          refine ⟨fun hf => ⟨⟨Rk1.row, Rk1.row⟩, fun r2 h2 => ⟨fun q => (by exfalso; rw [h2.2 (fun _ _ => ⟨rfl, rfl, fun _ _ => rfl⟩)] at q; cases q), fun _ => ?_⟩⟩, fun hf => ((ap_self Rk1).2 hf).elim⟩
          refine ⟨⟨W1, z.g.trans (G.trans G1), z.c1, z.c2, z.d, fun j hj => (z.ok j hj).grow (G.trans G1) (Nat.le_refl _)⟩, Nat.lt_add_one _, ?_⟩
          repeat' first | with_reducible apply And.intro | exact trivial | with_reducible exact rfl | exact rfl | with_reducible refine d3g_intro _ ?_ | exact d3g_intro _ trivial | refine d3g_intro _ ?_ | omega | (show _ = _; omega)
        · refine ⟨⟨by omega, by have := Rk.at'.lc; omega⟩, fun W1 a1 cap1 bs1 L1 G1 hz1 hL1 hbs1 hrow1 hcap1 => ?_⟩
          have Rk1 := Rk.grow (G.trans G1) (Nat.le_refl _)
          have R01 := R0.grow (G.trans G1) (Nat.le_refl _)
          obtain ⟨rw1, hr1⟩ := ap_blocks Rk1 (K := max 0 (min most 100)) (by omega) hL1 hbs1 hrow1
          refine ⟨rw1, fun r1 h1 => ⟨fun q => (by exfalso; rw [hr1 r1 h1] at q; cases q), fun _ => ?_⟩⟩
          refine ⟨fun hf => ⟨⟨Rk1.row, Rk1.row⟩, fun r2 h2 => ⟨fun q => (by exfalso; rw [h2.2 (fun _ _ => ⟨rfl, rfl, fun _ _ => rfl⟩)] at q; cases q), fun _ => ?_⟩⟩, fun hf => ((ap_self Rk1).2 hf).elim⟩
          refine ⟨⟨W1, z.g.trans (G.trans G1), z.c1, z.c2, z.d, fun j hj => (z.ok j hj).grow (G.trans G1) (Nat.le_refl _)⟩, Nat.lt_add_one _, ?_⟩
          repeat' first | with_reducible apply And.intro | exact trivial | with_reducible exact rfl | exact rfl | with_reducible refine d3g_intro _ ?_ | exact d3g_intro _ trivial | refine d3g_intro _ ?_ | omega | (show _ = _; omega)
      · simp only [d3e_self, eq_self, true_and, and_true]
        have Rk := z.ok 1 (by decide)
        have R0 := z.ok 0 (by decide)
        refine ⟨fun hL => ?_, fun hL => ⟨⟨_, Rk.at', fun y0 e => ⟨e ▸ Rk.dr, Rk.pafew hi100⟩⟩, fun W' G => ?_⟩⟩
        · have hL : 0 < _ := Int.natCast_pos.1 (of_decide_eq_true hL)
          have sm := Rk.at'.row.sm hL
          have ks := Rk.at'.row.kinds hL
          refine ⟨⟨Int.le_refl _, Int.natCast_pos.2 hL, sm⟩, addOpt_isSome sm, ks.1, ⟨Int.le_refl _, Int.natCast_pos.2 hL, sm⟩, addOpt_isSome sm, ks.2.1, u64_bd _ _, fun hz => ?_⟩
          have hsz := ap_size Rk hz hL
          refine ⟨by rw [hsz]; decide, ⟨_, Rk.at', fun y0 e => ⟨e ▸ Rk.dr, Rk.pafew hi100⟩⟩, fun W' G => ⟨fun q => (by exfalso; rw [hsz] at q; cases q), fun _ => ?_⟩⟩
          refine ⟨⟨by omega, by have := Rk.at'.lc; omega⟩, fun W1 a1 cap1 bs1 L1 G1 hz1 hL1 hbs1 hrow1 hcap1 => ?_⟩
          have Rk1 := Rk.grow (G.trans G1) (Nat.le_refl _)
          have R01 := R0.grow (G.trans G1) (Nat.le_refl _)
          obtain ⟨rw1, hr1⟩ := ap_blocks Rk1 (K := max 0 (min most 100)) (by omega) hL1 hbs1 hrow1
          refine ⟨rw1, fun r1 h1 => ⟨fun q => (by exfalso; rw [hr1 r1 h1] at q; cases q), fun _ => ?_⟩⟩
          intro v v'
          obtain ⟨s1, s2⟩ := ap_same Rk1 R01 v v' rfl
          refine ⟨fun hf => ⟨(s1 hf).1, fun r2 h2 => ⟨fun q => (by exfalso; rw [(s1 hf).2 r2 h2] at q; cases q), fun _ => ?_⟩⟩, fun hf => ⟨fun q => (by exfalso; rw [s2 hf] at q; cases q), fun _ => ?_⟩⟩
          · refine ⟨⟨W1, z.g.trans (G.trans G1), z.c1, z.c2, z.d, fun j hj => (z.ok j hj).grow (G.trans G1) (Nat.le_refl _)⟩, Nat.lt_add_one _, ?_⟩
            repeat' first | with_reducible apply And.intro | exact trivial | with_reducible exact rfl | exact rfl | with_reducible refine d3g_intro _ ?_ | exact d3g_intro _ trivial | refine d3g_intro _ ?_ | omega | (show _ = _; omega)
          · refine ⟨⟨W1, z.g.trans (G.trans G1), z.c1, z.c2, z.d, fun j hj => (z.ok j hj).grow (G.trans G1) (Nat.le_refl _)⟩, Nat.lt_add_one _, ?_⟩
            repeat' first | with_reducible apply And.intro | exact trivial | with_reducible exact rfl | exact rfl | with_reducible refine d3g_intro _ ?_ | exact d3g_intro _ trivial | refine d3g_intro _ ?_ | omega | (show _ = _; omega)
        · refine ⟨⟨by omega, by have := Rk.at'.lc; omega⟩, fun W1 a1 cap1 bs1 L1 G1 hz1 hL1 hbs1 hrow1 hcap1 => ?_⟩
          have Rk1 := Rk.grow (G.trans G1) (Nat.le_refl _)
          have R01 := R0.grow (G.trans G1) (Nat.le_refl _)
          obtain ⟨rw1, hr1⟩ := ap_blocks Rk1 (K := max 0 (min most 100)) (by omega) hL1 hbs1 hrow1
          refine ⟨rw1, fun r1 h1 => ⟨fun q => (by exfalso; rw [hr1 r1 h1] at q; cases q), fun _ => ?_⟩⟩
          intro v v'
          obtain ⟨s1, s2⟩ := ap_same Rk1 R01 v v' rfl
          refine ⟨fun hf => ⟨(s1 hf).1, fun r2 h2 => ⟨fun q => (by exfalso; rw [(s1 hf).2 r2 h2] at q; cases q), fun _ => ?_⟩⟩, fun hf => ⟨fun q => (by exfalso; rw [s2 hf] at q; cases q), fun _ => ?_⟩⟩
          · refine ⟨⟨W1, z.g.trans (G.trans G1), z.c1, z.c2, z.d, fun j hj => (z.ok j hj).grow (G.trans G1) (Nat.le_refl _)⟩, Nat.lt_add_one _, ?_⟩
            repeat' first | with_reducible apply And.intro | exact trivial | with_reducible exact rfl | exact rfl | with_reducible refine d3g_intro _ ?_ | exact d3g_intro _ trivial | refine d3g_intro _ ?_ | omega | (show _ = _; omega)
          · refine ⟨⟨W1, z.g.trans (G.trans G1), z.c1, z.c2, z.d, fun j hj => (z.ok j hj).grow (G.trans G1) (Nat.le_refl _)⟩, Nat.lt_add_one _, ?_⟩
            repeat' first | with_reducible apply And.intro | exact trivial | with_reducible exact rfl | exact rfl | with_reducible refine d3g_intro _ ?_ | exact d3g_intro _ trivial | refine d3g_intro _ ?_ | omega | (show _ = _; omega)
      · simp only [d3e_self, eq_self, true_and, and_true]
        have Rk := z.ok 2 (by decide)
        have R0 := z.ok 0 (by decide)
        refine ⟨fun hL => ?_, fun hL => ⟨⟨_, Rk.at', fun y0 e => ⟨e ▸ Rk.dr, Rk.pafew hi100⟩⟩, fun W' G => ?_⟩⟩
        · have hL : 0 < _ := Int.natCast_pos.1 (of_decide_eq_true hL)
          have sm := Rk.at'.row.sm hL
          have ks := Rk.at'.row.kinds hL
          refine ⟨⟨Int.le_refl _, Int.natCast_pos.2 hL, sm⟩, addOpt_isSome sm, ks.1, ⟨Int.le_refl _, Int.natCast_pos.2 hL, sm⟩, addOpt_isSome sm, ks.2.1, u64_bd _ _, fun hz => ?_⟩
          have hsz := ap_size Rk hz hL
          refine ⟨by rw [hsz]; decide, ⟨_, Rk.at', fun y0 e => ⟨e ▸ Rk.dr, Rk.pafew hi100⟩⟩, fun W' G => ⟨fun q => (by exfalso; rw [hsz] at q; cases q), fun _ => ?_⟩⟩
          refine ⟨⟨by omega, by have := Rk.at'.lc; omega⟩, fun W1 a1 cap1 bs1 L1 G1 hz1 hL1 hbs1 hrow1 hcap1 => ?_⟩
          have Rk1 := Rk.grow (G.trans G1) (Nat.le_refl _)
          have R01 := R0.grow (G.trans G1) (Nat.le_refl _)
          obtain ⟨rw1, hr1⟩ := ap_blocks Rk1 (K := max 0 (min most 100)) (by omega) hL1 hbs1 hrow1
          refine ⟨rw1, fun r1 h1 => ⟨fun q => (by exfalso; rw [hr1 r1 h1] at q; cases q), fun _ => ?_⟩⟩
          intro v v'
          obtain ⟨s1, s2⟩ := ap_same Rk1 R01 v v' rfl
          refine ⟨fun hf => ⟨(s1 hf).1, fun r2 h2 => ⟨fun q => (by exfalso; rw [(s1 hf).2 r2 h2] at q; cases q), fun _ => ?_⟩⟩, fun hf => ⟨fun q => (by exfalso; rw [s2 hf] at q; cases q), fun _ => ?_⟩⟩
          · refine ⟨⟨W1, z.g.trans (G.trans G1), z.c1, z.c2, z.d, fun j hj => (z.ok j hj).grow (G.trans G1) (Nat.le_refl _)⟩, Nat.lt_add_one _, ?_⟩
            repeat' first | with_reducible apply And.intro | exact trivial | with_reducible exact rfl | exact rfl | with_reducible refine d3g_intro _ ?_ | exact d3g_intro _ trivial | refine d3g_intro _ ?_ | omega | (show _ = _; omega)
          · refine ⟨⟨W1, z.g.trans (G.trans G1), z.c1, z.c2, z.d, fun j hj => (z.ok j hj).grow (G.trans G1) (Nat.le_refl _)⟩, Nat.lt_add_one _, ?_⟩
            repeat' first | with_reducible apply And.intro | exact trivial | with_reducible exact rfl | exact rfl | with_reducible refine d3g_intro _ ?_ | exact d3g_intro _ trivial | refine d3g_intro _ ?_ | omega | (show _ = _; omega)
        · refine ⟨⟨by omega, by have := Rk.at'.lc; omega⟩, fun W1 a1 cap1 bs1 L1 G1 hz1 hL1 hbs1 hrow1 hcap1 => ?_⟩
          have Rk1 := Rk.grow (G.trans G1) (Nat.le_refl _)
          have R01 := R0.grow (G.trans G1) (Nat.le_refl _)
          obtain ⟨rw1, hr1⟩ := ap_blocks Rk1 (K := max 0 (min most 100)) (by omega) hL1 hbs1 hrow1
          refine ⟨rw1, fun r1 h1 => ⟨fun q => (by exfalso; rw [hr1 r1 h1] at q; cases q), fun _ => ?_⟩⟩
          intro v v'
          obtain ⟨s1, s2⟩ := ap_same Rk1 R01 v v' rfl
          refine ⟨fun hf => ⟨(s1 hf).1, fun r2 h2 => ⟨fun q => (by exfalso; rw [(s1 hf).2 r2 h2] at q; cases q), fun _ => ?_⟩⟩, fun hf => ⟨fun q => (by exfalso; rw [s2 hf] at q; cases q), fun _ => ?_⟩⟩
          · refine ⟨⟨W1, z.g.trans (G.trans G1), z.c1, z.c2, z.d, fun j hj => (z.ok j hj).grow (G.trans G1) (Nat.le_refl _)⟩, Nat.lt_add_one _, ?_⟩
            repeat' first | with_reducible apply And.intro | exact trivial | with_reducible exact rfl | exact rfl | with_reducible refine d3g_intro _ ?_ | exact d3g_intro _ trivial | refine d3g_intro _ ?_ | omega | (show _ = _; omega)
          · refine ⟨⟨W1, z.g.trans (G.trans G1), z.c1, z.c2, z.d, fun j hj => (z.ok j hj).grow (G.trans G1) (Nat.le_refl _)⟩, Nat.lt_add_one _, ?_⟩
            repeat' first | with_reducible apply And.intro | exact trivial | with_reducible exact rfl | exact rfl | with_reducible refine d3g_intro _ ?_ | exact d3g_intro _ trivial | refine d3g_intro _ ?_ | omega | (show _ = _; omega)
    · intro x3 e3 x2 e2 x1 e1 x0 e0
      cases e0
      cases e1
      cases e2
      cases e3
      refine ⟨hN, ly4, ⟨⟨y.s.W, y.s.g, y.s.c1, y.s.c2, y.s.d, fun j hj => y.s.ok j (by omega)⟩, ?_⟩, fun z ρ => ?_, fun z ρ => ?_, fun z ρ => ?_, fun z ρ => ?_, fun z ρ => ⟨rfl, z.W, rfl, z.g⟩, trivial⟩
      · repeat' first | with_reducible apply And.intro | exact trivial | with_reducible exact rfl | exact rfl | with_reducible refine d3g_intro _ ?_ | exact d3g_intro _ trivial | refine d3g_intro _ ?_ | omega | (show _ = _; omega)
      · simp only [d3e_self, eq_self, true_and, and_true]
        have Rk := z.ok 0 (by decide)
        have R0 := z.ok 0 (by decide)
        refine ⟨fun hL => ?_, fun hL => ⟨⟨_, Rk.at', fun y0 e => ⟨e ▸ Rk.dr, Rk.pafew hi100⟩⟩, fun W' G => ?_⟩⟩
        · have hL : 0 < _ := Int.natCast_pos.1 (of_decide_eq_true hL)
          have sm := Rk.at'.row.sm hL
          have ks := Rk.at'.row.kinds hL
          refine ⟨⟨Int.le_refl _, Int.natCast_pos.2 hL, sm⟩, addOpt_isSome sm, ks.1, ⟨Int.le_refl _, Int.natCast_pos.2 hL, sm⟩, addOpt_isSome sm, ks.2.1, u64_bd _ _, fun hz => ?_⟩
          have hsz := ap_size Rk hz hL
          refine ⟨by rw [hsz]; decide, ⟨_, Rk.at', fun y0 e => ⟨e ▸ Rk.dr, Rk.pafew hi100⟩⟩, fun W' G => ⟨fun q => (by exfalso; rw [hsz] at q; cases q), fun _ => ?_⟩⟩
          refine ⟨⟨by omega, by have := Rk.at'.lc; omega⟩, fun W1 a1 cap1 bs1 L1 G1 hz1 hL1 hbs1 hrow1 hcap1 => ?_⟩
          have Rk1 := Rk.grow (G.trans G1) (Nat.le_refl _)
          have R01 := R0.grow (G.trans G1) (Nat.le_refl _)
          obtain ⟨rw1, hr1⟩ := ap_blocks Rk1 (K := max 0 (min most 100)) (by omega) hL1 hbs1 hrow1
          refine ⟨rw1, fun r1 h1 => ⟨fun q => (by exfalso; rw [hr1 r1 h1] at q; cases q), fun _ => ?_⟩⟩
          refine ⟨fun hf => ⟨⟨Rk1.row, Rk1.row⟩, fun r2 h2 => ⟨fun q => (by exfalso; rw [h2.2 (fun _ _ => ⟨rfl, rfl, fun _ _ => rfl⟩)] at q; cases q), fun _ => ?_⟩⟩, fun hf => ((ap_self Rk1).2 hf).elim⟩
          refine ⟨⟨W1, z.g.trans (G.trans G1), z.c1, z.c2, z.d, fun j hj => (z.ok j hj).grow (G.trans G1) (Nat.le_refl _)⟩, Nat.lt_add_one _, ?_⟩
          repeat' first | with_reducible apply And.intro | exact trivial | with_reducible exact rfl | exact rfl | with_reducible refine d3g_intro _ ?_ | exact d3g_intro _ trivial | refine d3g_intro _ ?_ | omega | (show _ = _; omega)
        · refine ⟨⟨by omega, by have := Rk.at'.lc; omega⟩, fun W1 a1 cap1 bs1 L1 G1 hz1 hL1 hbs1 hrow1 hcap1 => ?_⟩
          have Rk1 := Rk.grow (G.trans G1) (Nat.le_refl _)
          have R01 := R0.grow (G.trans G1) (Nat.le_refl _)
          obtain ⟨rw1, hr1⟩ := ap_blocks Rk1 (K := max 0 (min most 100)) (by omega) hL1 hbs1 hrow1
          refine ⟨rw1, fun r1 h1 => ⟨fun q => (by exfalso; rw [hr1 r1 h1] at q; cases q), fun _ => ?_⟩⟩
          refine ⟨fun hf => ⟨⟨Rk1.row, Rk1.row⟩, fun r2 h2 => ⟨fun q => (by exfalso; rw [h2.2 (fun _ _ => ⟨rfl, rfl, fun _ _ => rfl⟩)] at q; cases q), fun _ => ?_⟩⟩, fun hf => ((ap_self Rk1).2 hf).elim⟩
          refine ⟨⟨W1, z.g.trans (G.trans G1), z.c1, z.c2, z.d, fun j hj => (z.ok j hj).grow (G.trans G1) (Nat.le_refl _)⟩, Nat.lt_add_one _, ?_⟩
          repeat' first | with_reducible apply And.intro | exact trivial | with_reducible exact rfl | exact rfl | with_reducible refine d3g_intro _ ?_ | exact d3g_intro _ trivial | refine d3g_intro _ ?_ | omega | (show _ = _; omega)
      · simp only [d3e_self, eq_self, true_and, and_true]
        have Rk := z.ok 1 (by decide)
        have R0 := z.ok 0 (by decide)
        refine ⟨fun hL => ?_, fun hL => ⟨⟨_, Rk.at', fun y0 e => ⟨e ▸ Rk.dr, Rk.pafew hi100⟩⟩, fun W' G => ?_⟩⟩
        · have hL : 0 < _ := Int.natCast_pos.1 (of_decide_eq_true hL)
          have sm := Rk.at'.row.sm hL
          have ks := Rk.at'.row.kinds hL
          refine ⟨⟨Int.le_refl _, Int.natCast_pos.2 hL, sm⟩, addOpt_isSome sm, ks.1, ⟨Int.le_refl _, Int.natCast_pos.2 hL, sm⟩, addOpt_isSome sm, ks.2.1, u64_bd _ _, fun hz => ?_⟩
          have hsz := ap_size Rk hz hL
          refine ⟨by rw [hsz]; decide, ⟨_, Rk.at', fun y0 e => ⟨e ▸ Rk.dr, Rk.pafew hi100⟩⟩, fun W' G => ⟨fun q => (by exfalso; rw [hsz] at q; cases q), fun _ => ?_⟩⟩
          refine ⟨⟨by omega, by have := Rk.at'.lc; omega⟩, fun W1 a1 cap1 bs1 L1 G1 hz1 hL1 hbs1 hrow1 hcap1 => ?_⟩
          have Rk1 := Rk.grow (G.trans G1) (Nat.le_refl _)
          have R01 := R0.grow (G.trans G1) (Nat.le_refl _)
          obtain ⟨rw1, hr1⟩ := ap_blocks Rk1 (K := max 0 (min most 100)) (by omega) hL1 hbs1 hrow1
          refine ⟨rw1, fun r1 h1 => ⟨fun q => (by exfalso; rw [hr1 r1 h1] at q; cases q), fun _ => ?_⟩⟩
          intro v v'
          obtain ⟨s1, s2⟩ := ap_same Rk1 R01 v v' rfl
          refine ⟨fun hf => ⟨(s1 hf).1, fun r2 h2 => ⟨fun q => (by exfalso; rw [(s1 hf).2 r2 h2] at q; cases q), fun _ => ?_⟩⟩, fun hf => ⟨fun q => (by exfalso; rw [s2 hf] at q; cases q), fun _ => ?_⟩⟩
          · refine ⟨⟨W1, z.g.trans (G.trans G1), z.c1, z.c2, z.d, fun j hj => (z.ok j hj).grow (G.trans G1) (Nat.le_refl _)⟩, Nat.lt_add_one _, ?_⟩
            repeat' first | with_reducible apply And.intro | exact trivial | with_reducible exact rfl | exact rfl | with_reducible refine d3g_intro _ ?_ | exact d3g_intro _ trivial | refine d3g_intro _ ?_ | omega | (show _ = _; omega)
          · refine ⟨⟨W1, z.g.trans (G.trans G1), z.c1, z.c2, z.d, fun j hj => (z.ok j hj).grow (G.trans G1) (Nat.le_refl _)⟩, Nat.lt_add_one _, ?_⟩
            repeat' first | with_reducible apply And.intro | exact trivial | with_reducible exact rfl | exact rfl | with_reducible refine d3g_intro _ ?_ | exact d3g_intro _ trivial | refine d3g_intro _ ?_ | omega | (show _ = _; omega)
        · refine ⟨⟨by omega, by have := Rk.at'.lc; omega⟩, fun W1 a1 cap1 bs1 L1 G1 hz1 hL1 hbs1 hrow1 hcap1 => ?_⟩
          have Rk1 := Rk.grow (G.trans G1) (Nat.le_refl _)
          have R01 := R0.grow (G.trans G1) (Nat.le_refl _)
          obtain ⟨rw1, hr1⟩ := ap_blocks Rk1 (K := max 0 (min most 100)) (by omega) hL1 hbs1 hrow1
          refine ⟨rw1, fun r1 h1 => ⟨fun q => (by exfalso; rw [hr1 r1 h1] at q; cases q), fun _ => ?_⟩⟩
          intro v v'
          obtain ⟨s1, s2⟩ := ap_same Rk1 R01 v v' rfl
          refine ⟨fun hf => ⟨(s1 hf).1, fun r2 h2 => ⟨fun q => (by exfalso; rw [(s1 hf).2 r2 h2] at q; cases q), fun _ => ?_⟩⟩, fun hf => ⟨fun q => (by exfalso; rw [s2 hf] at q; cases q), fun _ => ?_⟩⟩
          · refine ⟨⟨W1, z.g.trans (G.trans G1), z.c1, z.c2, z.d, fun j hj => (z.ok j hj).grow (G.trans G1) (Nat.le_refl _)⟩, Nat.lt_add_one _, ?_⟩
            repeat' first | with_reducible apply And.intro | exact trivial | with_reducible exact rfl | exact rfl | with_reducible refine d3g_intro _ ?_ | exact d3g_intro _ trivial | refine d3g_intro _ ?_ | omega | (show _ = _; omega)
          · refine ⟨⟨W1, z.g.trans (G.trans G1), z.c1, z.c2, z.d, fun j hj => (z.ok j hj).grow (G.trans G1) (Nat.le_refl _)⟩, Nat.lt_add_one _, ?_⟩
            repeat' first | with_reducible apply And.intro | exact trivial | with_reducible exact rfl | exact rfl | with_reducible refine d3g_intro _ ?_ | exact d3g_intro _ trivial | refine d3g_intro _ ?_ | omega | (show _ = _; omega)
      · simp only [d3e_self, eq_self, true_and, and_true]
        have Rk := z.ok 2 (by decide)
        have R0 := z.ok 0 (by decide)
        refine ⟨fun hL => ?_, fun hL => ⟨⟨_, Rk.at', fun y0 e => ⟨e ▸ Rk.dr, Rk.pafew hi100⟩⟩, fun W' G => ?_⟩⟩
        · have hL : 0 < _ := Int.natCast_pos.1 (of_decide_eq_true hL)
          have sm := Rk.at'.row.sm hL
          have ks := Rk.at'.row.kinds hL
          refine ⟨⟨Int.le_refl _, Int.natCast_pos.2 hL, sm⟩, addOpt_isSome sm, ks.1, ⟨Int.le_refl _, Int.natCast_pos.2 hL, sm⟩, addOpt_isSome sm, ks.2.1, u64_bd _ _, fun hz => ?_⟩
          have hsz := ap_size Rk hz hL
          refine ⟨by rw [hsz]; decide, ⟨_, Rk.at', fun y0 e => ⟨e ▸ Rk.dr, Rk.pafew hi100⟩⟩, fun W' G => ⟨fun q => (by exfalso; rw [hsz] at q; cases q), fun _ => ?_⟩⟩
          refine ⟨⟨by omega, by have := Rk.at'.lc; omega⟩, fun W1 a1 cap1 bs1 L1 G1 hz1 hL1 hbs1 hrow1 hcap1 => ?_⟩
          have Rk1 := Rk.grow (G.trans G1) (Nat.le_refl _)
          have R01 := R0.grow (G.trans G1) (Nat.le_refl _)
          obtain ⟨rw1, hr1⟩ := ap_blocks Rk1 (K := max 0 (min most 100)) (by omega) hL1 hbs1 hrow1
          refine ⟨rw1, fun r1 h1 => ⟨fun q => (by exfalso; rw [hr1 r1 h1] at q; cases q), fun _ => ?_⟩⟩
          intro v v'
          obtain ⟨s1, s2⟩ := ap_same Rk1 R01 v v' rfl
          refine ⟨fun hf => ⟨(s1 hf).1, fun r2 h2 => ⟨fun q => (by exfalso; rw [(s1 hf).2 r2 h2] at q; cases q), fun _ => ?_⟩⟩, fun hf => ⟨fun q => (by exfalso; rw [s2 hf] at q; cases q), fun _ => ?_⟩⟩
          · refine ⟨⟨W1, z.g.trans (G.trans G1), z.c1, z.c2, z.d, fun j hj => (z.ok j hj).grow (G.trans G1) (Nat.le_refl _)⟩, Nat.lt_add_one _, ?_⟩
            repeat' first | with_reducible apply And.intro | exact trivial | with_reducible exact rfl | exact rfl | with_reducible refine d3g_intro _ ?_ | exact d3g_intro _ trivial | refine d3g_intro _ ?_ | omega | (show _ = _; omega)
          · refine ⟨⟨W1, z.g.trans (G.trans G1), z.c1, z.c2, z.d, fun j hj => (z.ok j hj).grow (G.trans G1) (Nat.le_refl _)⟩, Nat.lt_add_one _, ?_⟩
            repeat' first | with_reducible apply And.intro | exact trivial | with_reducible exact rfl | exact rfl | with_reducible refine d3g_intro _ ?_ | exact d3g_intro _ trivial | refine d3g_intro _ ?_ | omega | (show _ = _; omega)
        · refine ⟨⟨by omega, by have := Rk.at'.lc; omega⟩, fun W1 a1 cap1 bs1 L1 G1 hz1 hL1 hbs1 hrow1 hcap1 => ?_⟩
          have Rk1 := Rk.grow (G.trans G1) (Nat.le_refl _)
          have R01 := R0.grow (G.trans G1) (Nat.le_refl _)
          obtain ⟨rw1, hr1⟩ := ap_blocks Rk1 (K := max 0 (min most 100)) (by omega) hL1 hbs1 hrow1
          refine ⟨rw1, fun r1 h1 => ⟨fun q => (by exfalso; rw [hr1 r1 h1] at q; cases q), fun _ => ?_⟩⟩
          intro v v'
          obtain ⟨s1, s2⟩ := ap_same Rk1 R01 v v' rfl
          refine ⟨fun hf => ⟨(s1 hf).1, fun r2 h2 => ⟨fun q => (by exfalso; rw [(s1 hf).2 r2 h2] at q; cases q), fun _ => ?_⟩⟩, fun hf => ⟨fun q => (by exfalso; rw [s2 hf] at q; cases q), fun _ => ?_⟩⟩
          · refine ⟨⟨W1, z.g.trans (G.trans G1), z.c1, z.c2, z.d, fun j hj => (z.ok j hj).grow (G.trans G1) (Nat.le_refl _)⟩, Nat.lt_add_one _, ?_⟩
            repeat' first | with_reducible apply And.intro | exact trivial | with_reducible exact rfl | exact rfl | with_reducible refine d3g_intro _ ?_ | exact d3g_intro _ trivial | refine d3g_intro _ ?_ | omega | (show _ = _; omega)
          · refine ⟨⟨W1, z.g.trans (G.trans G1), z.c1, z.c2, z.d, fun j hj => (z.ok j hj).grow (G.trans G1) (Nat.le_refl _)⟩, Nat.lt_add_one _, ?_⟩
            repeat' first | with_reducible apply And.intro | exact trivial | with_reducible exact rfl | exact rfl | with_reducible refine d3g_intro _ ?_ | exact d3g_intro _ trivial | refine d3g_intro _ ?_ | omega | (show _ = _; omega)
      · simp only [d3e_self, eq_self, true_and, and_true]
        have Rk := z.ok 3 (by decide)
        have R0 := z.ok 0 (by decide)
        refine ⟨fun hL => ?_, fun hL => ⟨⟨_, Rk.at', fun y0 e => ⟨e ▸ Rk.dr, Rk.pafew hi100⟩⟩, fun W' G => ?_⟩⟩
        · have hL : 0 < _ := Int.natCast_pos.1 (of_decide_eq_true hL)
          have sm := Rk.at'.row.sm hL
          have ks := Rk.at'.row.kinds hL
          refine ⟨⟨Int.le_refl _, Int.natCast_pos.2 hL, sm⟩, addOpt_isSome sm, ks.1, ⟨Int.le_refl _, Int.natCast_pos.2 hL, sm⟩, addOpt_isSome sm, ks.2.1, u64_bd _ _, fun hz => ?_⟩
          have hsz := ap_size Rk hz hL
          refine ⟨by rw [hsz]; decide, ⟨_, Rk.at', fun y0 e => ⟨e ▸ Rk.dr, Rk.pafew hi100⟩⟩, fun W' G => ⟨fun q => (by exfalso; rw [hsz] at q; cases q), fun _ => ?_⟩⟩
          refine ⟨⟨by omega, by have := Rk.at'.lc; omega⟩, fun W1 a1 cap1 bs1 L1 G1 hz1 hL1 hbs1 hrow1 hcap1 => ?_⟩
          have Rk1 := Rk.grow (G.trans G1) (Nat.le_refl _)
          have R01 := R0.grow (G.trans G1) (Nat.le_refl _)
          obtain ⟨rw1, hr1⟩ := ap_blocks Rk1 (K := max 0 (min most 100)) (by omega) hL1 hbs1 hrow1
          refine ⟨rw1, fun r1 h1 => ⟨fun q => (by exfalso; rw [hr1 r1 h1] at q; cases q), fun _ => ?_⟩⟩
          intro v v'
          obtain ⟨s1, s2⟩ := ap_same Rk1 R01 v v' rfl
          refine ⟨fun hf => ⟨(s1 hf).1, fun r2 h2 => ⟨fun q => (by exfalso; rw [(s1 hf).2 r2 h2] at q; cases q), fun _ => ?_⟩⟩, fun hf => ⟨fun q => (by exfalso; rw [s2 hf] at q; cases q), fun _ => ?_⟩⟩
          · refine ⟨⟨W1, z.g.trans (G.trans G1), z.c1, z.c2, z.d, fun j hj => (z.ok j hj).grow (G.trans G1) (Nat.le_refl _)⟩, Nat.lt_add_one _, ?_⟩
            repeat' first | with_reducible apply And.intro | exact trivial | with_reducible exact rfl | exact rfl | with_reducible refine d3g_intro _ ?_ | exact d3g_intro _ trivial | refine d3g_intro _ ?_ | omega | (show _ = _; omega)
          · refine ⟨⟨W1, z.g.trans (G.trans G1), z.c1, z.c2, z.d, fun j hj => (z.ok j hj).grow (G.trans G1) (Nat.le_refl _)⟩, Nat.lt_add_one _, ?_⟩
            repeat' first | with_reducible apply And.intro | exact trivial | with_reducible exact rfl | exact rfl | with_reducible refine d3g_intro _ ?_ | exact d3g_intro _ trivial | refine d3g_intro _ ?_ | omega | (show _ = _; omega)
        · refine ⟨⟨by omega, by have := Rk.at'.lc; omega⟩, fun W1 a1 cap1 bs1 L1 G1 hz1 hL1 hbs1 hrow1 hcap1 => ?_⟩
          have Rk1 := Rk.grow (G.trans G1) (Nat.le_refl _)
          have R01 := R0.grow (G.trans G1) (Nat.le_refl _)
          obtain ⟨rw1, hr1⟩ := ap_blocks Rk1 (K := max 0 (min most 100)) (by omega) hL1 hbs1 hrow1
          refine ⟨rw1, fun r1 h1 => ⟨fun q => (by exfalso; rw [hr1 r1 h1] at q; cases q), fun _ => ?_⟩⟩
          intro v v'
          obtain ⟨s1, s2⟩ := ap_same Rk1 R01 v v' rfl
          refine ⟨fun hf => ⟨(s1 hf).1, fun r2 h2 => ⟨fun q => (by exfalso; rw [(s1 hf).2 r2 h2] at q; cases q), fun _ => ?_⟩⟩, fun hf => ⟨fun q => (by exfalso; rw [s2 hf] at q; cases q), fun _ => ?_⟩⟩
          · refine ⟨⟨W1, z.g.trans (G.trans G1), z.c1, z.c2, z.d, fun j hj => (z.ok j hj).grow (G.trans G1) (Nat.le_refl _)⟩, Nat.lt_add_one _, ?_⟩
            repeat' first | with_reducible apply And.intro | exact trivial | with_reducible exact rfl | exact rfl | with_reducible refine d3g_intro _ ?_ | exact d3g_intro _ trivial | refine d3g_intro _ ?_ | omega | (show _ = _; omega)
          · refine ⟨⟨W1, z.g.trans (G.trans G1), z.c1, z.c2, z.d, fun j hj => (z.ok j hj).grow (G.trans G1) (Nat.le_refl _)⟩, Nat.lt_add_one _, ?_⟩
            repeat' first | with_reducible apply And.intro | exact trivial | with_reducible exact rfl | exact rfl | with_reducible refine d3g_intro _ ?_ | exact d3g_intro _ trivial | refine d3g_intro _ ?_ | omega | (show _ = _; omega)
  · exfalso
    have h1 := of_decide_eq_false h1
    have h2 := of_decide_eq_false h2
    omega
end Go.Proofs.Ytnkikhhiaecebaa
