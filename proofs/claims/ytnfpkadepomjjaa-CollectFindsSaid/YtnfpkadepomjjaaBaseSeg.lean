/- Arenas with segments, as the laws from layer 12 on begin with. -/
import Derived.Test.YtnfpkadepomjjaaBaseS
import Derived.Test.YtnfpkadepomjjaaSumDir
set_option linter.all false
namespace Go.Proofs.Ytnfpkadepomjjaa
open Go Go.RowKit

/-- The handle of the segment g. -/
def hsF (g : Nat) : Int := ((g + 1) * 65537 : Nat)
/-- The arena itself: the slices' values of its blocks, the last one first. -/
def segA : List Value → Ar
  | [] => Ar.new 60000
  | v :: l => ((segA l).lay (List.replicate (7 * 2 ^ l.length) 0) v).write 0 ((l.length + 1 : Nat) : Int) (((l.length + 1) * 65537 : Nat) : Int)
/-- An arena with n segments, of zeros, told in the fixed words. -/
structure SegOk (n : Nat) (A : Ar) : Prop where
  cap : A.cap = 60000
  used : A.used = 7 * (2 ^ n - 1)
  faults : A.faults = 0
  births : A.births = n
  high : A.s.high = n
  back : A.s.back = []
  len : A.bs.length = n
  blk : ∀ g, g < n → ∃ v, A.find ((g + 1) * 65537) = some ⟨g + 1, (g + 1) * 65537, List.replicate (7 * 2 ^ g) 0, v⟩
  miss : ∀ h, (∀ g, g < n → h ≠ (g + 1) * 65537) → A.find h = none
  fixed0 : A.fixed 0 = 0
  fixed : ∀ g, g < 8 → A.fixed (g + 1) = if g < n then (g + 1) * 65537 else 0
  tally : A.t = ⟨n, 0, 0, n, 0, 0⟩
  eq : ∃ l : List Value, l.length = n ∧ A = segA l
theorem SegOk.new : SegOk 0 (Ar.new 60000) where
  cap := rfl
  used := rfl
  faults := rfl
  births := rfl
  high := rfl
  back := rfl
  len := rfl
  blk := fun g h => absurd h (Nat.not_lt_zero g)
  miss := fun h _ => rfl
  fixed0 := rfl
  fixed := fun g _ => rfl
  tally := rfl
  eq := ⟨[], rfl, rfl⟩
theorem SegOk.more {n : Nat} {A : Ar} (h : SegOk n A) (v : Value) {ws : List Nat} {i y : Int} (hw : ws = List.replicate (7 * 2 ^ n) 0) (hi : i = ((n + 1 : Nat) : Int)) (hy : y = (((n + 1) * 65537 : Nat) : Int)) : SegOk (n + 1) ((A.lay ws v).write 0 i y) := by
  subst hw hi hy
  have hl : layH A = (n + 1) * 65537 := by unfold layH; rw [h.births, h.high]; omega
  have hp : 1 ≤ 2 ^ n := Nat.one_le_two_pow
  have hfind : ∀ x, Ar.find ((A.lay (List.replicate (7 * 2 ^ n) 0) v).write 0 ((n + 1 : Nat) : Int) (((n + 1) * 65537 : Nat) : Int)) x = (A.find x).or (if (n + 1) * 65537 = x then some ⟨n + 1, (n + 1) * 65537, List.replicate (7 * 2 ^ n) 0, v⟩ else none) := fun x => by
    unfold Ar.find
    have e : ((A.lay (List.replicate (7 * 2 ^ n) 0) v).write 0 ((n + 1 : Nat) : Int) (((n + 1) * 65537 : Nat) : Int)).bs = A.bs ++ [⟨n + 1, (n + 1) * 65537, List.replicate (7 * 2 ^ n) 0, v⟩] := by
      simp only [Ar.write, Ar.set, Ar.tick, Ar.lay, Int.toNat_zero, if_true, hl, h.high]
    rw [e, List.find?_append]
    congr 1
    simp only [List.find?_cons, List.find?_nil]
    by_cases hx : (n + 1) * 65537 = x
    · simp [hx]
    · rw [if_neg hx, (beq_eq_false_iff_ne.2 hx : ((n + 1) * 65537 == x) = false)]
  refine { cap := h.cap, used := ?_, faults := h.faults, births := ?_, high := ?_, back := h.back, len := ?_, blk := ?_, miss := ?_, fixed0 := ?_, fixed := ?_, tally := ?_, eq := ?_ }
  · show A.used + (List.replicate (7 * 2 ^ n) 0).length = _
    rw [h.used, List.length_replicate, Nat.pow_succ]
    omega
  · show A.births + 1 = _
    rw [h.births]
  · show A.s.high + 1 = _
    rw [h.high]
  · show (A.bs ++ [_]).length = _
    rw [List.length_append, h.len]; rfl
  · intro g hg
    rw [hfind]
    by_cases e : g = n
    · subst e
      rw [h.miss _ (fun k hk => by omega)]
      exact ⟨v, by simp⟩
    · obtain ⟨u, hu⟩ := h.blk g (by omega)
      exact ⟨u, by rw [hu]; rfl⟩
  · intro x hx
    rw [hfind, h.miss x (fun g hg => hx g (by omega)), if_neg (fun e => hx n (by omega) e.symm)]
    rfl
  · show (if 0 = (((n + 1 : Nat) : Int)).toNat then ((((n + 1) * 65537 : Nat) : Int)).toNat else A.fixed 0) = 0
    rw [if_neg (by omega), h.fixed0]
  · intro g hg
    show (if g + 1 = (((n + 1 : Nat) : Int)).toNat then ((((n + 1) * 65537 : Nat) : Int)).toNat else A.fixed (g + 1)) = _
    rw [Int.toNat_natCast, Int.toNat_natCast, h.fixed g hg]
    by_cases e : g = n
    · subst e; simp
    · rw [if_neg (by omega)]
      by_cases e2 : g < n
      · rw [if_pos e2, if_pos (by omega)]
      · rw [if_neg e2, if_neg (by omega)]
  · show ({ lays := A.t.lays + 1, frees := A.t.frees, reads := A.t.reads, writes := A.t.writes + 1, swaps := A.t.swaps, adds := A.t.adds } : Tly) = _
    rw [h.tally]
  · obtain ⟨l, rfl, e⟩ := h.eq
    exact ⟨v :: l, rfl, by rw [segA, ← e]⟩
def isI (k : IntKind) : SC → Bool
  | .int _ k' _ _ => decide (k = k')
  | _ => false
theorem isI_den {k : IntKind} {x : SC} (h : isI k x = true) : ∃ n : Int, ∀ ν, x.den ν = .int k n := by
  unfold isI at h
  split at h
  · rename_i l k' n bd
    have := of_decide_eq_true h
    subst this
    exact ⟨n, fun _ => rfl⟩
  · cases h
/-- Cells as the document's arena has them. -/
def isM (l : List SC) : Bool := match l with
  | [x0, x1, x2, x3, x4, x5, x6, x7, x8, x9, x10, x11, x12, x13, x14, x15, x16, x17, x18, x19] =>
    (isI .i64 x0 && isI .i64 x1 && isI .i64 x2 && isI .i64 x3) && (isI .u64 x4 && isI .u64 x5 && isI .u64 x6 && isI .u64 x7 && isI .u64 x8 && isI .u64 x9 && isI .u64 x10 && isI .u64 x11 && isI .u64 x12) &&
      (match x13 with | .sli _ _ _ _ _ _ _ => true | _ => false) && (isI .i64 x14 && isI .i64 x15 && isI .i64 x16 && isI .i64 x17 && isI .i64 x18 && isI .i64 x19)
  | _ => false
def rawM (z : Nat → Int) (a : Option Addr) (ln cp : Nat) : List SC := [.int false .i64 (z 0), .int false .i64 (z 1), .int false .i64 (z 2), .int false .i64 (z 3),
  .int false .u64 (z 4), .int false .u64 (z 5), .int false .u64 (z 6), .int false .u64 (z 7), .int false .u64 (z 8), .int false .u64 (z 9), .int false .u64 (z 10), .int false .u64 (z 11), .int false .u64 (z 12),
  .sliv a false ln cp, .int false .i64 (z 14), .int false .i64 (z 15), .int false .i64 (z 16), .int false .i64 (z 17), .int false .i64 (z 18), .int false .i64 (z 19)]
theorem isM_den {l : List SC} (h : isM l = true) (ν : Nat → Nat) : ∃ z a ln cp, ∀ μ, SC.denL ν l = SC.denL μ (rawM z a ln cp) := by
  unfold isM at h
  split at h
  · rename_i x0 x1 x2 x3 x4 x5 x6 x7 x8 x9 x10 x11 x12 x13 x14 x15 x16 x17 x18 x19
    simp only [Bool.and_eq_true] at h
    obtain ⟨⟨⟨⟨⟨⟨h0, h1⟩, h2⟩, h3⟩, ⟨⟨⟨⟨⟨⟨⟨⟨h4, h5⟩, h6⟩, h7⟩, h8⟩, h9⟩, h10⟩, h11⟩, h12⟩⟩, h13⟩, ⟨⟨⟨⟨⟨h14, h15⟩, h16⟩, h17⟩, h18⟩, h19⟩⟩ := h
    obtain ⟨n0, e0⟩ := isI_den h0
    obtain ⟨n1, e1⟩ := isI_den h1
    obtain ⟨n2, e2⟩ := isI_den h2
    obtain ⟨n3, e3⟩ := isI_den h3
    obtain ⟨n4, e4⟩ := isI_den h4
    obtain ⟨n5, e5⟩ := isI_den h5
    obtain ⟨n6, e6⟩ := isI_den h6
    obtain ⟨n7, e7⟩ := isI_den h7
    obtain ⟨n8, e8⟩ := isI_den h8
    obtain ⟨n9, e9⟩ := isI_den h9
    obtain ⟨n10, e10⟩ := isI_den h10
    obtain ⟨n11, e11⟩ := isI_den h11
    obtain ⟨n12, e12⟩ := isI_den h12
    obtain ⟨n14, e14⟩ := isI_den h14
    obtain ⟨n15, e15⟩ := isI_den h15
    obtain ⟨n16, e16⟩ := isI_den h16
    obtain ⟨n17, e17⟩ := isI_den h17
    obtain ⟨n18, e18⟩ := isI_den h18
    obtain ⟨n19, e19⟩ := isI_den h19
    split at h13
    · rename_i s k lo o ll len cap
      refine ⟨fun i => [n0, n1, n2, n3, n4, n5, n6, n7, n8, n9, n10, n11, n12, 0, n14, n15, n16, n17, n18, n19].getD i 0, some ⟨ν s, o * k, none⟩, len, cap, fun μ => ?_⟩
      simp only [SC.denL, e0, e1, e2, e3, e4, e5, e6, e7, e8, e9, e10, e11, e12, e14, e15, e16, e17, e18, e19, rawM, SC.den]
      rfl
    · cases h13
  · cases h
def segPost (n : Nat) (v : SV) (m : MX) : Prop := match v with
  | .tup [(false, [.ptr p 0]), (true, l), (false, [.sli s 1 _ 0 _ k cap])] => match m.hp.get p with
    | some (.ext (.ar A)) => match (m.hp.del p).get s with
      | some o => isM l = true ∧ k = n ∧ SegOk n A ∧ eqO (.ints 25 .u64 n cap hsF) o
      | none => Stuck 770
    | _ => Stuck 771
  | _ => Stuck 772
def tblS : List (Smry Try.prog XE) := [newX, layX true, writeX, powS]
end Go.Proofs.Ytnfpkadepomjjaa

/- Segments(1): the run of it, by the executor. -/
namespace Go.Proofs.Ytnfpkadepomjjaa
open Go Go.RowKit
set_option maxRecDepth 1000000
set_option maxHeartbeats 0
theorem seg_vc1 : (callN Try.prog tblS (fun _ _ => false) 100 20 13 [.c (.int true .i64 1)] ⟨[], 0⟩ .nil (fun v m _ => segPost 1 v m)) = (
    ((0 : Int) ≤ (60000 : Int) ∧ (60000 : Int) ≤ (60000 : Int)) ∧ (7 : Nat) = (7 : Nat) ∧ (7 : Nat) = (7 : Nat) ∧ ((1 : Nat) ≤ (7 : Nat) ∧ (7 : Nat) ≤ (2048 : Nat)) ∧ (7 : Nat) ≤ (60000
    : Nat) ∧ ([] : List Nat) = [] ∧ (0 : Nat) < (268435455 : Nat) ∧ True ∧ ∀ (v : Value), (True ∧ True ∧ True ∧ (7 : Nat) ≤ (1000000000 : Nat) ∧ ∀ (cap : Nat), (7 : Nat) ≤ cap → True ∧
    True ∧ (1 : Nat) ≤ (1000000000 : Nat) ∧ ∀ (cap_1 : Nat), (1 : Nat) ≤ cap_1 → cap_1 = cap_1 ∧ ((Ar.new (60000 : Nat)).lay [(0 : Nat), (0 : Nat), (0 : Nat), (0 : Nat), (0 : Nat), (0 :
    Nat), (0 : Nat)] v).Has (0 : Int) (1 : Int) ∧ ((0 : Int) ≤ (65537 : Int) ∧ (65537 : Int) < (18446744073709551616 : Int)) ∧ (cap_1 = cap_1 ∧ (0 : Nat) = (0 : Nat) ∧ cap = cap ∧ (0 :
    Nat) = (0 : Nat) ∧ cap_1 = cap_1 ∧ True ∧ True ∧ (1 : Nat) ≤ (1000000000 : Nat) ∧ ∀ (cap : Nat), (1 : Nat) ≤ cap → (isM [SC.int true IntKind.i64 (Int.ofNat ((59999 : Nat) + (1 :
    Nat))) Bd.any, SC.int true IntKind.i64 (Int.ofNat ((0 : Nat) + (1 : Nat))), SC.int true IntKind.i64 (Int.ofNat ((6 : Nat) + (1 : Nat))), SC.int true IntKind.i64 (Int.ofNat (0 :
    Nat)) Bd.any, SC.int true IntKind.u64 (Int.ofNat (0 : Nat)) Bd.any, SC.int true IntKind.u64 (Int.ofNat ((65536 : Nat) + (1 : Nat))) Bd.any, SC.int true IntKind.u64 (Int.ofNat (0 :
    Nat)) Bd.any, SC.int true IntKind.u64 (Int.ofNat (0 : Nat)) Bd.any, SC.int true IntKind.u64 (Int.ofNat (0 : Nat)) Bd.any, SC.int true IntKind.u64 (Int.ofNat (0 : Nat)) Bd.any,
    SC.int true IntKind.u64 (Int.ofNat (0 : Nat)) Bd.any, SC.int true IntKind.u64 (Int.ofNat (0 : Nat)) Bd.any, SC.int true IntKind.u64 (Int.ofNat (0 : Nat)) Bd.any, SC.sli (136 : Nat)
    (2 : Nat) true (0 : Nat) true (1 : Nat) cap_1, SC.int true IntKind.i64 (Int.ofNat ((0 : Nat) + (1 : Nat))), SC.int true IntKind.i64 (Int.ofNat (0 : Nat)) Bd.any, SC.int true
    IntKind.i64 (Int.ofNat (0 : Nat)) Bd.any, SC.int true IntKind.i64 (Int.ofNat ((0 : Nat) + (1 : Nat))), SC.int true IntKind.i64 (Int.ofNat (0 : Nat)) Bd.any, SC.int true IntKind.i64
    (Int.ofNat (0 : Nat)) Bd.any] = true ∧ (1 : Nat) = (1 : Nat) ∧ SegOk (1 : Nat) (((Ar.new (60000 : Nat)).lay [(0 : Nat), (0 : Nat), (0 : Nat), (0 : Nat), (0 : Nat), (0 : Nat), (0 :
    Nat)] v).write (0 : Int) (1 : Int) (65537 : Int)) ∧ (1 : Nat) = (1 : Nat) ∧ cap = cap ∧ (65537 : Int) = (65537 : Int) ∧ True) ∧ True) ∧ True) ∧ True) := by
  kernel_rfl
theorem seg_run1 : callN Try.prog tblS (fun _ _ => false) 100 20 13 [.c (.int true .i64 1)] ⟨[], 0⟩ .nil (fun v m _ => segPost 1 v m) := by
  rw [seg_vc1]
  repeat' first
    | with_reducible apply And.intro
    | with_reducible exact trivial
    | intro _
    | with_reducible exact Eq.refl _
  all_goals first
    | omega
    | (unfold Ar.Has; exact ⟨by omega, by omega, by omega, rfl⟩)
    | exact Nat.le_of_ble_eq_true rfl
    | exact (SegOk.more SegOk.new _ rfl rfl rfl)
    | rfl
    | (simp_all; done)
end Go.Proofs.Ytnfpkadepomjjaa

/- Segments(2): the run of it, by the executor. -/
namespace Go.Proofs.Ytnfpkadepomjjaa
open Go Go.RowKit
set_option maxRecDepth 1000000
set_option maxHeartbeats 0
theorem seg_vc2 : (callN Try.prog tblS (fun _ _ => false) 100 20 13 [.c (.int true .i64 2)] ⟨[], 0⟩ .nil (fun v m _ => segPost 2 v m)) = (
    ((0 : Int) ≤ (60000 : Int) ∧ (60000 : Int) ≤ (60000 : Int)) ∧ (7 : Nat) = (7 : Nat) ∧ (7 : Nat) = (7 : Nat) ∧ ((1 : Nat) ≤ (7 : Nat) ∧ (7 : Nat) ≤ (2048 : Nat)) ∧ (7 : Nat) ≤ (60000
    : Nat) ∧ ([] : List Nat) = [] ∧ (0 : Nat) < (268435455 : Nat) ∧ True ∧ ∀ (v : Value), (True ∧ True ∧ True ∧ (7 : Nat) ≤ (1000000000 : Nat) ∧ ∀ (cap : Nat), (7 : Nat) ≤ cap → True ∧
    True ∧ (1 : Nat) ≤ (1000000000 : Nat) ∧ ∀ (cap_1 : Nat), (1 : Nat) ≤ cap_1 → cap_1 = cap_1 ∧ ((Ar.new (60000 : Nat)).lay [(0 : Nat), (0 : Nat), (0 : Nat), (0 : Nat), (0 : Nat), (0 :
    Nat), (0 : Nat)] v).Has (0 : Int) (1 : Int) ∧ ((0 : Int) ≤ (65537 : Int) ∧ (65537 : Int) < (18446744073709551616 : Int)) ∧ (cap_1 = cap_1 ∧ (0 : Nat) = (0 : Nat) ∧ cap = cap ∧ (0 :
    Nat) = (0 : Nat) ∧ cap_1 = cap_1 ∧ True ∧ True ∧ (1 : Nat) ≤ (1000000000 : Nat) ∧ ∀ (cap_2 : Nat), (1 : Nat) ≤ cap_2 → (14 : Nat) = (14 : Nat) ∧ (14 : Nat) = (14 : Nat) ∧ ((1 : Nat)
    ≤ (14 : Nat) ∧ (14 : Nat) ≤ (2048 : Nat)) ∧ (((Ar.new (Int.toNat (60000 : Int))).lay (List.replicate 7 0) v).write (0 : Int) (1 : Int) (65537 : Int)).used + (14 : Nat) ≤ (((Ar.new
    (Int.toNat (60000 : Int))).lay (List.replicate 7 0) v).write (0 : Int) (1 : Int) (65537 : Int)).cap ∧ ([] : List Nat) = [] ∧ (((Ar.new (Int.toNat (60000 : Int))).lay (List.replicate
    7 0) v).write (0 : Int) (1 : Int) (65537 : Int)).births < (268435455 : Nat) ∧ True ∧ ∀ (v_1 : Value), (cap_1 = cap_1 ∧ (0 : Nat) = (0 : Nat) ∧ cap = cap ∧ (0 : Nat) = (0 : Nat) ∧
    cap_1 = cap_1 ∧ ((0 : Int) ≤ (1 : Int) ∧ (1 : Int) ≤ (↑cap_1 : Int)) ∧ True ∧ True ∧ (1 : Nat) ≤ (1000000000 : Nat) ∧ ∀ (cap_3 : Nat), (1 : Nat) ≤ cap_3 → True ∧ True ∧ (14 : Nat) ≤
    (1000000000 : Nat) ∧ ∀ (cap_4 : Nat), (14 : Nat) ≤ cap_4 → cap_3 = cap_3 ∧ True ∧ (2 : Nat) ≤ (1000000000 : Nat) ∧ ∀ (cap_5 : Nat), (2 : Nat) ≤ cap_5 → cap_5 = cap_5 ∧ True ∧ (2 :
    Nat) ≤ (1000000000 : Nat) ∧ ∀ (cap_6 : Nat), (2 : Nat) ≤ cap_6 → ((((Ar.new (60000 : Nat)).lay [(0 : Nat), (0 : Nat), (0 : Nat), (0 : Nat), (0 : Nat), (0 : Nat), (0 : Nat)] v).write
    (0 : Int) (1 : Int) (65537 : Int)).lay [(0 : Nat), (0 : Nat), (0 : Nat), (0 : Nat), (0 : Nat), (0 : Nat), (0 : Nat), (0 : Nat), (0 : Nat), (0 : Nat), (0 : Nat), (0 : Nat), (0 :
    Nat), (0 : Nat)] v_1).Has (0 : Int) (2 : Int) ∧ ((0 : Int) ≤ (131074 : Int) ∧ (131074 : Int) < (18446744073709551616 : Int)) ∧ (cap_6 = cap_6 ∧ (0 : Nat) = (0 : Nat) ∧ cap = cap ∧
    (0 : Nat) = (0 : Nat) ∧ cap_4 = cap_4 ∧ (0 : Nat) = (0 : Nat) ∧ cap_6 = cap_6 ∧ cap_2 = cap_2 ∧ True ∧ (2 : Nat) ≤ (1000000000 : Nat) ∧ ∀ (cap : Nat), (2 : Nat) ≤ cap → (isM [SC.int
    true IntKind.i64 (Int.ofNat ((59999 : Nat) + (1 : Nat))) Bd.any, SC.int true IntKind.i64 (Int.ofNat ((1 : Nat) + (1 : Nat))), SC.int true IntKind.i64 (Int.ofNat ((20 : Nat) + (1 :
    Nat))), SC.int true IntKind.i64 (Int.ofNat (0 : Nat)) Bd.any, SC.int true IntKind.u64 (Int.ofNat (0 : Nat)) Bd.any, SC.int true IntKind.u64 (Int.ofNat ((65536 : Nat) + (1 : Nat)))
    Bd.any, SC.int true IntKind.u64 (131074 : Int) Bd.any, SC.int true IntKind.u64 (Int.ofNat (0 : Nat)) Bd.any, SC.int true IntKind.u64 (Int.ofNat (0 : Nat)) Bd.any, SC.int true
    IntKind.u64 (Int.ofNat (0 : Nat)) Bd.any, SC.int true IntKind.u64 (Int.ofNat (0 : Nat)) Bd.any, SC.int true IntKind.u64 (Int.ofNat (0 : Nat)) Bd.any, SC.int true IntKind.u64
    (Int.ofNat (0 : Nat)) Bd.any, SC.sli (449 : Nat) (2 : Nat) true (0 : Nat) true (2 : Nat) cap_6, SC.int true IntKind.i64 (Int.ofNat ((1 : Nat) + (1 : Nat))), SC.int true IntKind.i64
    (Int.ofNat (0 : Nat)) Bd.any, SC.int true IntKind.i64 (Int.ofNat (0 : Nat)) Bd.any, SC.int true IntKind.i64 (Int.ofNat ((1 : Nat) + (1 : Nat))), SC.int true IntKind.i64 (Int.ofNat
    (0 : Nat)) Bd.any, SC.int true IntKind.i64 (Int.ofNat (0 : Nat)) Bd.any] = true ∧ (2 : Nat) = (2 : Nat) ∧ SegOk (2 : Nat) (((((Ar.new (60000 : Nat)).lay [(0 : Nat), (0 : Nat), (0 :
    Nat), (0 : Nat), (0 : Nat), (0 : Nat), (0 : Nat)] v).write (0 : Int) (1 : Int) (65537 : Int)).lay [(0 : Nat), (0 : Nat), (0 : Nat), (0 : Nat), (0 : Nat), (0 : Nat), (0 : Nat), (0 :
    Nat), (0 : Nat), (0 : Nat), (0 : Nat), (0 : Nat), (0 : Nat), (0 : Nat)] v_1).write (0 : Int) (2 : Int) (131074 : Int)) ∧ (2 : Nat) = [SC.int true IntKind.u64 (Int.ofNat ((65536 :
    Nat) + (1 : Nat))) Bd.any, SC.int true IntKind.u64 (131074 : Int) Bd.any].length ∧ cap = cap ∧ (65537 : Int) = (65537 : Int) ∧ (131074 : Int) = (131074 : Int) ∧ True) ∧ True) ∧
    True) ∧ True) ∧ True) ∧ True) := by
  kernel_rfl
theorem seg_run2 : callN Try.prog tblS (fun _ _ => false) 100 20 13 [.c (.int true .i64 2)] ⟨[], 0⟩ .nil (fun v m _ => segPost 2 v m) := by
  rw [seg_vc2]
  repeat' first
    | with_reducible apply And.intro
    | with_reducible exact trivial
    | intro _
    | with_reducible exact Eq.refl _
  all_goals first
    | omega
    | (unfold Ar.Has; exact ⟨by omega, by omega, by omega, rfl⟩)
    | exact Nat.le_of_ble_eq_true rfl
    | exact (SegOk.more (SegOk.more SegOk.new _ rfl rfl rfl) _ rfl rfl rfl)
    | rfl
    | (simp_all; done)
end Go.Proofs.Ytnfpkadepomjjaa

/- Segments(3): the run of it, by the executor. -/
namespace Go.Proofs.Ytnfpkadepomjjaa
open Go Go.RowKit
set_option maxRecDepth 1000000
set_option maxHeartbeats 0
theorem seg_vc3 : (callN Try.prog tblS (fun _ _ => false) 100 20 13 [.c (.int true .i64 3)] ⟨[], 0⟩ .nil (fun v m _ => segPost 3 v m)) = (
    ((0 : Int) ≤ (60000 : Int) ∧ (60000 : Int) ≤ (60000 : Int)) ∧ (7 : Nat) = (7 : Nat) ∧ (7 : Nat) = (7 : Nat) ∧ ((1 : Nat) ≤ (7 : Nat) ∧ (7 : Nat) ≤ (2048 : Nat)) ∧ (7 : Nat) ≤ (60000
    : Nat) ∧ ([] : List Nat) = [] ∧ (0 : Nat) < (268435455 : Nat) ∧ True ∧ ∀ (v : Value), (True ∧ True ∧ True ∧ (7 : Nat) ≤ (1000000000 : Nat) ∧ ∀ (cap : Nat), (7 : Nat) ≤ cap → True ∧
    True ∧ (1 : Nat) ≤ (1000000000 : Nat) ∧ ∀ (cap_1 : Nat), (1 : Nat) ≤ cap_1 → cap_1 = cap_1 ∧ ((Ar.new (60000 : Nat)).lay [(0 : Nat), (0 : Nat), (0 : Nat), (0 : Nat), (0 : Nat), (0 :
    Nat), (0 : Nat)] v).Has (0 : Int) (1 : Int) ∧ ((0 : Int) ≤ (65537 : Int) ∧ (65537 : Int) < (18446744073709551616 : Int)) ∧ (cap_1 = cap_1 ∧ (0 : Nat) = (0 : Nat) ∧ cap = cap ∧ (0 :
    Nat) = (0 : Nat) ∧ cap_1 = cap_1 ∧ True ∧ True ∧ (1 : Nat) ≤ (1000000000 : Nat) ∧ ∀ (cap_2 : Nat), (1 : Nat) ≤ cap_2 → (14 : Nat) = (14 : Nat) ∧ (14 : Nat) = (14 : Nat) ∧ ((1 : Nat)
    ≤ (14 : Nat) ∧ (14 : Nat) ≤ (2048 : Nat)) ∧ (((Ar.new (Int.toNat (60000 : Int))).lay (List.replicate 7 0) v).write (0 : Int) (1 : Int) (65537 : Int)).used + (14 : Nat) ≤ (((Ar.new
    (Int.toNat (60000 : Int))).lay (List.replicate 7 0) v).write (0 : Int) (1 : Int) (65537 : Int)).cap ∧ ([] : List Nat) = [] ∧ (((Ar.new (Int.toNat (60000 : Int))).lay (List.replicate
    7 0) v).write (0 : Int) (1 : Int) (65537 : Int)).births < (268435455 : Nat) ∧ True ∧ ∀ (v_1 : Value), (cap_1 = cap_1 ∧ (0 : Nat) = (0 : Nat) ∧ cap = cap ∧ (0 : Nat) = (0 : Nat) ∧
    cap_1 = cap_1 ∧ ((0 : Int) ≤ (1 : Int) ∧ (1 : Int) ≤ (↑cap_1 : Int)) ∧ True ∧ True ∧ (1 : Nat) ≤ (1000000000 : Nat) ∧ ∀ (cap_3 : Nat), (1 : Nat) ≤ cap_3 → True ∧ True ∧ (14 : Nat) ≤
    (1000000000 : Nat) ∧ ∀ (cap_4 : Nat), (14 : Nat) ≤ cap_4 → cap_3 = cap_3 ∧ True ∧ (2 : Nat) ≤ (1000000000 : Nat) ∧ ∀ (cap_5 : Nat), (2 : Nat) ≤ cap_5 → cap_5 = cap_5 ∧ True ∧ (2 :
    Nat) ≤ (1000000000 : Nat) ∧ ∀ (cap_6 : Nat), (2 : Nat) ≤ cap_6 → ((((Ar.new (60000 : Nat)).lay [(0 : Nat), (0 : Nat), (0 : Nat), (0 : Nat), (0 : Nat), (0 : Nat), (0 : Nat)] v).write
    (0 : Int) (1 : Int) (65537 : Int)).lay [(0 : Nat), (0 : Nat), (0 : Nat), (0 : Nat), (0 : Nat), (0 : Nat), (0 : Nat), (0 : Nat), (0 : Nat), (0 : Nat), (0 : Nat), (0 : Nat), (0 :
    Nat), (0 : Nat)] v_1).Has (0 : Int) (2 : Int) ∧ ((0 : Int) ≤ (131074 : Int) ∧ (131074 : Int) < (18446744073709551616 : Int)) ∧ (cap_6 = cap_6 ∧ (0 : Nat) = (0 : Nat) ∧ cap = cap ∧
    (0 : Nat) = (0 : Nat) ∧ cap_4 = cap_4 ∧ (0 : Nat) = (0 : Nat) ∧ cap_6 = cap_6 ∧ cap_2 = cap_2 ∧ True ∧ (2 : Nat) ≤ (1000000000 : Nat) ∧ ∀ (cap_7 : Nat), (2 : Nat) ≤ cap_7 → (28 :
    Nat) = (28 : Nat) ∧ (28 : Nat) = (28 : Nat) ∧ ((1 : Nat) ≤ (28 : Nat) ∧ (28 : Nat) ≤ (2048 : Nat)) ∧ (((((Ar.new (Int.toNat (60000 : Int))).lay (List.replicate 7 0) v).write (0 :
    Int) (1 : Int) (65537 : Int)).lay (List.replicate 14 0) v_1).write (0 : Int) (2 : Int) (131074 : Int)).used + (28 : Nat) ≤ (((((Ar.new (Int.toNat (60000 : Int))).lay (List.replicate
    7 0) v).write (0 : Int) (1 : Int) (65537 : Int)).lay (List.replicate 14 0) v_1).write (0 : Int) (2 : Int) (131074 : Int)).cap ∧ ([] : List Nat) = [] ∧ (((((Ar.new (Int.toNat (60000
    : Int))).lay (List.replicate 7 0) v).write (0 : Int) (1 : Int) (65537 : Int)).lay (List.replicate 14 0) v_1).write (0 : Int) (2 : Int) (131074 : Int)).births < (268435455 : Nat) ∧
    True ∧ ∀ (v_2 : Value), (cap_6 = cap_6 ∧ (0 : Nat) = (0 : Nat) ∧ cap = cap ∧ (0 : Nat) = (0 : Nat) ∧ cap_4 = cap_4 ∧ (0 : Nat) = (0 : Nat) ∧ cap_6 = cap_6 ∧ ((0 : Int) ≤ (2 : Int) ∧
    (2 : Int) ≤ (↑cap_6 : Int)) ∧ True ∧ True ∧ (2 : Nat) ≤ (1000000000 : Nat) ∧ ∀ (cap_8 : Nat), (2 : Nat) ≤ cap_8 → True ∧ True ∧ (28 : Nat) ≤ (1000000000 : Nat) ∧ ∀ (cap_9 : Nat),
    (28 : Nat) ≤ cap_9 → cap_8 = cap_8 ∧ True ∧ (3 : Nat) ≤ (1000000000 : Nat) ∧ ∀ (cap_10 : Nat), (3 : Nat) ≤ cap_10 → cap_10 = cap_10 ∧ True ∧ (3 : Nat) ≤ (1000000000 : Nat) ∧ ∀
    (cap_11 : Nat), (3 : Nat) ≤ cap_11 → ((((((Ar.new (60000 : Nat)).lay [(0 : Nat), (0 : Nat), (0 : Nat), (0 : Nat), (0 : Nat), (0 : Nat), (0 : Nat)] v).write (0 : Int) (1 : Int)
    (65537 : Int)).lay [(0 : Nat), (0 : Nat), (0 : Nat), (0 : Nat), (0 : Nat), (0 : Nat), (0 : Nat), (0 : Nat), (0 : Nat), (0 : Nat), (0 : Nat), (0 : Nat), (0 : Nat), (0 : Nat)]
    v_1).write (0 : Int) (2 : Int) (131074 : Int)).lay [(0 : Nat), (0 : Nat), (0 : Nat), (0 : Nat), (0 : Nat), (0 : Nat), (0 : Nat), (0 : Nat), (0 : Nat), (0 : Nat), (0 : Nat), (0 :
    Nat), (0 : Nat), (0 : Nat), (0 : Nat), (0 : Nat), (0 : Nat), (0 : Nat), (0 : Nat), (0 : Nat), (0 : Nat), (0 : Nat), (0 : Nat), (0 : Nat), (0 : Nat), (0 : Nat), (0 : Nat), (0 : Nat)]
    v_2).Has (0 : Int) (3 : Int) ∧ ((0 : Int) ≤ (196611 : Int) ∧ (196611 : Int) < (18446744073709551616 : Int)) ∧ (cap_11 = cap_11 ∧ (0 : Nat) = (0 : Nat) ∧ cap = cap ∧ (0 : Nat) = (0 :
    Nat) ∧ cap_4 = cap_4 ∧ (0 : Nat) = (0 : Nat) ∧ cap_9 = cap_9 ∧ (0 : Nat) = (0 : Nat) ∧ cap_11 = cap_11 ∧ cap_7 = cap_7 ∧ True ∧ (3 : Nat) ≤ (1000000000 : Nat) ∧ ∀ (cap : Nat), (3 :
    Nat) ≤ cap → (isM [SC.int true IntKind.i64 (Int.ofNat ((59999 : Nat) + (1 : Nat))) Bd.any, SC.int true IntKind.i64 (Int.ofNat ((2 : Nat) + (1 : Nat))), SC.int true IntKind.i64
    (Int.ofNat ((48 : Nat) + (1 : Nat))), SC.int true IntKind.i64 (Int.ofNat (0 : Nat)) Bd.any, SC.int true IntKind.u64 (Int.ofNat (0 : Nat)) Bd.any, SC.int true IntKind.u64 (Int.ofNat
    ((65536 : Nat) + (1 : Nat))) Bd.any, SC.int true IntKind.u64 (131074 : Int) Bd.any, SC.int true IntKind.u64 (196611 : Int) Bd.any, SC.int true IntKind.u64 (Int.ofNat (0 : Nat))
    Bd.any, SC.int true IntKind.u64 (Int.ofNat (0 : Nat)) Bd.any, SC.int true IntKind.u64 (Int.ofNat (0 : Nat)) Bd.any, SC.int true IntKind.u64 (Int.ofNat (0 : Nat)) Bd.any, SC.int true
    IntKind.u64 (Int.ofNat (0 : Nat)) Bd.any, SC.sli (802 : Nat) (2 : Nat) true (0 : Nat) true (3 : Nat) cap_11, SC.int true IntKind.i64 (Int.ofNat ((2 : Nat) + (1 : Nat))), SC.int true
    IntKind.i64 (Int.ofNat (0 : Nat)) Bd.any, SC.int true IntKind.i64 (Int.ofNat (0 : Nat)) Bd.any, SC.int true IntKind.i64 (Int.ofNat ((2 : Nat) + (1 : Nat))), SC.int true IntKind.i64
    (Int.ofNat (0 : Nat)) Bd.any, SC.int true IntKind.i64 (Int.ofNat (0 : Nat)) Bd.any] = true ∧ (3 : Nat) = (3 : Nat) ∧ SegOk (3 : Nat) (((((((Ar.new (60000 : Nat)).lay [(0 : Nat), (0
    : Nat), (0 : Nat), (0 : Nat), (0 : Nat), (0 : Nat), (0 : Nat)] v).write (0 : Int) (1 : Int) (65537 : Int)).lay [(0 : Nat), (0 : Nat), (0 : Nat), (0 : Nat), (0 : Nat), (0 : Nat), (0
    : Nat), (0 : Nat), (0 : Nat), (0 : Nat), (0 : Nat), (0 : Nat), (0 : Nat), (0 : Nat)] v_1).write (0 : Int) (2 : Int) (131074 : Int)).lay [(0 : Nat), (0 : Nat), (0 : Nat), (0 : Nat),
    (0 : Nat), (0 : Nat), (0 : Nat), (0 : Nat), (0 : Nat), (0 : Nat), (0 : Nat), (0 : Nat), (0 : Nat), (0 : Nat), (0 : Nat), (0 : Nat), (0 : Nat), (0 : Nat), (0 : Nat), (0 : Nat), (0 :
    Nat), (0 : Nat), (0 : Nat), (0 : Nat), (0 : Nat), (0 : Nat), (0 : Nat), (0 : Nat)] v_2).write (0 : Int) (3 : Int) (196611 : Int)) ∧ (3 : Nat) = [SC.int true IntKind.u64 (Int.ofNat
    ((65536 : Nat) + (1 : Nat))) Bd.any, SC.int true IntKind.u64 (131074 : Int) Bd.any, SC.int true IntKind.u64 (196611 : Int) Bd.any].length ∧ cap = cap ∧ (65537 : Int) = (65537 : Int)
    ∧ (131074 : Int) = (131074 : Int) ∧ (196611 : Int) = (196611 : Int) ∧ True) ∧ True) ∧ True) ∧ True) ∧ True) ∧ True) ∧ True) ∧ True) := by
  kernel_rfl
theorem seg_run3 : callN Try.prog tblS (fun _ _ => false) 100 20 13 [.c (.int true .i64 3)] ⟨[], 0⟩ .nil (fun v m _ => segPost 3 v m) := by
  rw [seg_vc3]
  repeat' first
    | with_reducible apply And.intro
    | with_reducible exact trivial
    | intro _
    | with_reducible exact Eq.refl _
  all_goals first
    | omega
    | (unfold Ar.Has; exact ⟨by omega, by omega, by omega, rfl⟩)
    | exact Nat.le_of_ble_eq_true rfl
    | exact (SegOk.more (SegOk.more (SegOk.more SegOk.new _ rfl rfl rfl) _ rfl rfl rfl) _ rfl rfl rfl)
    | rfl
    | (simp_all; done)
end Go.Proofs.Ytnfpkadepomjjaa

/- Segments(4): the run of it, by the executor. -/
namespace Go.Proofs.Ytnfpkadepomjjaa
open Go Go.RowKit
set_option maxRecDepth 1000000
set_option maxHeartbeats 0
theorem seg_vc4 : (callN Try.prog tblS (fun _ _ => false) 100 20 13 [.c (.int true .i64 4)] ⟨[], 0⟩ .nil (fun v m _ => segPost 4 v m)) = (
    ((0 : Int) ≤ (60000 : Int) ∧ (60000 : Int) ≤ (60000 : Int)) ∧ (7 : Nat) = (7 : Nat) ∧ (7 : Nat) = (7 : Nat) ∧ ((1 : Nat) ≤ (7 : Nat) ∧ (7 : Nat) ≤ (2048 : Nat)) ∧ (7 : Nat) ≤ (60000
    : Nat) ∧ ([] : List Nat) = [] ∧ (0 : Nat) < (268435455 : Nat) ∧ True ∧ ∀ (v : Value), (True ∧ True ∧ True ∧ (7 : Nat) ≤ (1000000000 : Nat) ∧ ∀ (cap : Nat), (7 : Nat) ≤ cap → True ∧
    True ∧ (1 : Nat) ≤ (1000000000 : Nat) ∧ ∀ (cap_1 : Nat), (1 : Nat) ≤ cap_1 → cap_1 = cap_1 ∧ ((Ar.new (60000 : Nat)).lay [(0 : Nat), (0 : Nat), (0 : Nat), (0 : Nat), (0 : Nat), (0 :
    Nat), (0 : Nat)] v).Has (0 : Int) (1 : Int) ∧ ((0 : Int) ≤ (65537 : Int) ∧ (65537 : Int) < (18446744073709551616 : Int)) ∧ (cap_1 = cap_1 ∧ (0 : Nat) = (0 : Nat) ∧ cap = cap ∧ (0 :
    Nat) = (0 : Nat) ∧ cap_1 = cap_1 ∧ True ∧ True ∧ (1 : Nat) ≤ (1000000000 : Nat) ∧ ∀ (cap_2 : Nat), (1 : Nat) ≤ cap_2 → (14 : Nat) = (14 : Nat) ∧ (14 : Nat) = (14 : Nat) ∧ ((1 : Nat)
    ≤ (14 : Nat) ∧ (14 : Nat) ≤ (2048 : Nat)) ∧ (((Ar.new (Int.toNat (60000 : Int))).lay (List.replicate 7 0) v).write (0 : Int) (1 : Int) (65537 : Int)).used + (14 : Nat) ≤ (((Ar.new
    (Int.toNat (60000 : Int))).lay (List.replicate 7 0) v).write (0 : Int) (1 : Int) (65537 : Int)).cap ∧ ([] : List Nat) = [] ∧ (((Ar.new (Int.toNat (60000 : Int))).lay (List.replicate
    7 0) v).write (0 : Int) (1 : Int) (65537 : Int)).births < (268435455 : Nat) ∧ True ∧ ∀ (v_1 : Value), (cap_1 = cap_1 ∧ (0 : Nat) = (0 : Nat) ∧ cap = cap ∧ (0 : Nat) = (0 : Nat) ∧
    cap_1 = cap_1 ∧ ((0 : Int) ≤ (1 : Int) ∧ (1 : Int) ≤ (↑cap_1 : Int)) ∧ True ∧ True ∧ (1 : Nat) ≤ (1000000000 : Nat) ∧ ∀ (cap_3 : Nat), (1 : Nat) ≤ cap_3 → True ∧ True ∧ (14 : Nat) ≤
    (1000000000 : Nat) ∧ ∀ (cap_4 : Nat), (14 : Nat) ≤ cap_4 → cap_3 = cap_3 ∧ True ∧ (2 : Nat) ≤ (1000000000 : Nat) ∧ ∀ (cap_5 : Nat), (2 : Nat) ≤ cap_5 → cap_5 = cap_5 ∧ True ∧ (2 :
    Nat) ≤ (1000000000 : Nat) ∧ ∀ (cap_6 : Nat), (2 : Nat) ≤ cap_6 → ((((Ar.new (60000 : Nat)).lay [(0 : Nat), (0 : Nat), (0 : Nat), (0 : Nat), (0 : Nat), (0 : Nat), (0 : Nat)] v).write
    (0 : Int) (1 : Int) (65537 : Int)).lay [(0 : Nat), (0 : Nat), (0 : Nat), (0 : Nat), (0 : Nat), (0 : Nat), (0 : Nat), (0 : Nat), (0 : Nat), (0 : Nat), (0 : Nat), (0 : Nat), (0 :
    Nat), (0 : Nat)] v_1).Has (0 : Int) (2 : Int) ∧ ((0 : Int) ≤ (131074 : Int) ∧ (131074 : Int) < (18446744073709551616 : Int)) ∧ (cap_6 = cap_6 ∧ (0 : Nat) = (0 : Nat) ∧ cap = cap ∧
    (0 : Nat) = (0 : Nat) ∧ cap_4 = cap_4 ∧ (0 : Nat) = (0 : Nat) ∧ cap_6 = cap_6 ∧ cap_2 = cap_2 ∧ True ∧ (2 : Nat) ≤ (1000000000 : Nat) ∧ ∀ (cap_7 : Nat), (2 : Nat) ≤ cap_7 → (28 :
    Nat) = (28 : Nat) ∧ (28 : Nat) = (28 : Nat) ∧ ((1 : Nat) ≤ (28 : Nat) ∧ (28 : Nat) ≤ (2048 : Nat)) ∧ (((((Ar.new (Int.toNat (60000 : Int))).lay (List.replicate 7 0) v).write (0 :
    Int) (1 : Int) (65537 : Int)).lay (List.replicate 14 0) v_1).write (0 : Int) (2 : Int) (131074 : Int)).used + (28 : Nat) ≤ (((((Ar.new (Int.toNat (60000 : Int))).lay (List.replicate
    7 0) v).write (0 : Int) (1 : Int) (65537 : Int)).lay (List.replicate 14 0) v_1).write (0 : Int) (2 : Int) (131074 : Int)).cap ∧ ([] : List Nat) = [] ∧ (((((Ar.new (Int.toNat (60000
    : Int))).lay (List.replicate 7 0) v).write (0 : Int) (1 : Int) (65537 : Int)).lay (List.replicate 14 0) v_1).write (0 : Int) (2 : Int) (131074 : Int)).births < (268435455 : Nat) ∧
    True ∧ ∀ (v_2 : Value), (cap_6 = cap_6 ∧ (0 : Nat) = (0 : Nat) ∧ cap = cap ∧ (0 : Nat) = (0 : Nat) ∧ cap_4 = cap_4 ∧ (0 : Nat) = (0 : Nat) ∧ cap_6 = cap_6 ∧ ((0 : Int) ≤ (2 : Int) ∧
    (2 : Int) ≤ (↑cap_6 : Int)) ∧ True ∧ True ∧ (2 : Nat) ≤ (1000000000 : Nat) ∧ ∀ (cap_8 : Nat), (2 : Nat) ≤ cap_8 → True ∧ True ∧ (28 : Nat) ≤ (1000000000 : Nat) ∧ ∀ (cap_9 : Nat),
    (28 : Nat) ≤ cap_9 → cap_8 = cap_8 ∧ True ∧ (3 : Nat) ≤ (1000000000 : Nat) ∧ ∀ (cap_10 : Nat), (3 : Nat) ≤ cap_10 → cap_10 = cap_10 ∧ True ∧ (3 : Nat) ≤ (1000000000 : Nat) ∧ ∀
    (cap_11 : Nat), (3 : Nat) ≤ cap_11 → ((((((Ar.new (60000 : Nat)).lay [(0 : Nat), (0 : Nat), (0 : Nat), (0 : Nat), (0 : Nat), (0 : Nat), (0 : Nat)] v).write (0 : Int) (1 : Int)
    (65537 : Int)).lay [(0 : Nat), (0 : Nat), (0 : Nat), (0 : Nat), (0 : Nat), (0 : Nat), (0 : Nat), (0 : Nat), (0 : Nat), (0 : Nat), (0 : Nat), (0 : Nat), (0 : Nat), (0 : Nat)]
    v_1).write (0 : Int) (2 : Int) (131074 : Int)).lay [(0 : Nat), (0 : Nat), (0 : Nat), (0 : Nat), (0 : Nat), (0 : Nat), (0 : Nat), (0 : Nat), (0 : Nat), (0 : Nat), (0 : Nat), (0 :
    Nat), (0 : Nat), (0 : Nat), (0 : Nat), (0 : Nat), (0 : Nat), (0 : Nat), (0 : Nat), (0 : Nat), (0 : Nat), (0 : Nat), (0 : Nat), (0 : Nat), (0 : Nat), (0 : Nat), (0 : Nat), (0 : Nat)]
    v_2).Has (0 : Int) (3 : Int) ∧ ((0 : Int) ≤ (196611 : Int) ∧ (196611 : Int) < (18446744073709551616 : Int)) ∧ (cap_11 = cap_11 ∧ (0 : Nat) = (0 : Nat) ∧ cap = cap ∧ (0 : Nat) = (0 :
    Nat) ∧ cap_4 = cap_4 ∧ (0 : Nat) = (0 : Nat) ∧ cap_9 = cap_9 ∧ (0 : Nat) = (0 : Nat) ∧ cap_11 = cap_11 ∧ cap_7 = cap_7 ∧ True ∧ (3 : Nat) ≤ (1000000000 : Nat) ∧ ∀ (cap_12 : Nat), (3
    : Nat) ≤ cap_12 → (56 : Nat) = (56 : Nat) ∧ (56 : Nat) = (56 : Nat) ∧ ((1 : Nat) ≤ (56 : Nat) ∧ (56 : Nat) ≤ (2048 : Nat)) ∧ (((((((Ar.new (Int.toNat (60000 : Int))).lay
    (List.replicate 7 0) v).write (0 : Int) (1 : Int) (65537 : Int)).lay (List.replicate 14 0) v_1).write (0 : Int) (2 : Int) (131074 : Int)).lay (List.replicate 28 0) v_2).write (0 :
    Int) (3 : Int) (196611 : Int)).used + (56 : Nat) ≤ (((((((Ar.new (Int.toNat (60000 : Int))).lay (List.replicate 7 0) v).write (0 : Int) (1 : Int) (65537 : Int)).lay (List.replicate
    14 0) v_1).write (0 : Int) (2 : Int) (131074 : Int)).lay (List.replicate 28 0) v_2).write (0 : Int) (3 : Int) (196611 : Int)).cap ∧ ([] : List Nat) = [] ∧ (((((((Ar.new (Int.toNat
    (60000 : Int))).lay (List.replicate 7 0) v).write (0 : Int) (1 : Int) (65537 : Int)).lay (List.replicate 14 0) v_1).write (0 : Int) (2 : Int) (131074 : Int)).lay (List.replicate 28
    0) v_2).write (0 : Int) (3 : Int) (196611 : Int)).births < (268435455 : Nat) ∧ True ∧ ∀ (v_3 : Value), (cap_11 = cap_11 ∧ (0 : Nat) = (0 : Nat) ∧ cap = cap ∧ (0 : Nat) = (0 : Nat) ∧
    cap_4 = cap_4 ∧ (0 : Nat) = (0 : Nat) ∧ cap_9 = cap_9 ∧ (0 : Nat) = (0 : Nat) ∧ cap_11 = cap_11 ∧ ((0 : Int) ≤ (3 : Int) ∧ (3 : Int) ≤ (↑cap_11 : Int)) ∧ True ∧ True ∧ (3 : Nat) ≤
    (1000000000 : Nat) ∧ ∀ (cap_13 : Nat), (3 : Nat) ≤ cap_13 → True ∧ True ∧ (56 : Nat) ≤ (1000000000 : Nat) ∧ ∀ (cap_14 : Nat), (56 : Nat) ≤ cap_14 → cap_13 = cap_13 ∧ True ∧ (4 :
    Nat) ≤ (1000000000 : Nat) ∧ ∀ (cap_15 : Nat), (4 : Nat) ≤ cap_15 → cap_15 = cap_15 ∧ True ∧ (4 : Nat) ≤ (1000000000 : Nat) ∧ ∀ (cap_16 : Nat), (4 : Nat) ≤ cap_16 → ((((((((Ar.new
    (60000 : Nat)).lay [(0 : Nat), (0 : Nat), (0 : Nat), (0 : Nat), (0 : Nat), (0 : Nat), (0 : Nat)] v).write (0 : Int) (1 : Int) (65537 : Int)).lay [(0 : Nat), (0 : Nat), (0 : Nat), (0
    : Nat), (0 : Nat), (0 : Nat), (0 : Nat), (0 : Nat), (0 : Nat), (0 : Nat), (0 : Nat), (0 : Nat), (0 : Nat), (0 : Nat)] v_1).write (0 : Int) (2 : Int) (131074 : Int)).lay [(0 : Nat),
    (0 : Nat), (0 : Nat), (0 : Nat), (0 : Nat), (0 : Nat), (0 : Nat), (0 : Nat), (0 : Nat), (0 : Nat), (0 : Nat), (0 : Nat), (0 : Nat), (0 : Nat), (0 : Nat), (0 : Nat), (0 : Nat), (0 :
    Nat), (0 : Nat), (0 : Nat), (0 : Nat), (0 : Nat), (0 : Nat), (0 : Nat), (0 : Nat), (0 : Nat), (0 : Nat), (0 : Nat)] v_2).write (0 : Int) (3 : Int) (196611 : Int)).lay [(0 : Nat), (0
    : Nat), (0 : Nat), (0 : Nat), (0 : Nat), (0 : Nat), (0 : Nat), (0 : Nat), (0 : Nat), (0 : Nat), (0 : Nat), (0 : Nat), (0 : Nat), (0 : Nat), (0 : Nat), (0 : Nat), (0 : Nat), (0 :
    Nat), (0 : Nat), (0 : Nat), (0 : Nat), (0 : Nat), (0 : Nat), (0 : Nat), (0 : Nat), (0 : Nat), (0 : Nat), (0 : Nat), (0 : Nat), (0 : Nat), (0 : Nat), (0 : Nat), (0 : Nat), (0 : Nat),
    (0 : Nat), (0 : Nat), (0 : Nat), (0 : Nat), (0 : Nat), (0 : Nat), (0 : Nat), (0 : Nat), (0 : Nat), (0 : Nat), (0 : Nat), (0 : Nat), (0 : Nat), (0 : Nat), (0 : Nat), (0 : Nat), (0 :
    Nat), (0 : Nat), (0 : Nat), (0 : Nat), (0 : Nat), (0 : Nat)] v_3).Has (0 : Int) (4 : Int) ∧ ((0 : Int) ≤ (262148 : Int) ∧ (262148 : Int) < (18446744073709551616 : Int)) ∧ (cap_16 =
    cap_16 ∧ (0 : Nat) = (0 : Nat) ∧ cap = cap ∧ (0 : Nat) = (0 : Nat) ∧ cap_4 = cap_4 ∧ (0 : Nat) = (0 : Nat) ∧ cap_9 = cap_9 ∧ (0 : Nat) = (0 : Nat) ∧ cap_14 = cap_14 ∧ (0 : Nat) = (0
    : Nat) ∧ cap_16 = cap_16 ∧ cap_12 = cap_12 ∧ True ∧ (4 : Nat) ≤ (1000000000 : Nat) ∧ ∀ (cap : Nat), (4 : Nat) ≤ cap → (isM [SC.int true IntKind.i64 (Int.ofNat ((59999 : Nat) + (1 :
    Nat))) Bd.any, SC.int true IntKind.i64 (Int.ofNat ((3 : Nat) + (1 : Nat))), SC.int true IntKind.i64 (Int.ofNat ((104 : Nat) + (1 : Nat))), SC.int true IntKind.i64 (Int.ofNat (0 :
    Nat)) Bd.any, SC.int true IntKind.u64 (Int.ofNat (0 : Nat)) Bd.any, SC.int true IntKind.u64 (Int.ofNat ((65536 : Nat) + (1 : Nat))) Bd.any, SC.int true IntKind.u64 (131074 : Int)
    Bd.any, SC.int true IntKind.u64 (196611 : Int) Bd.any, SC.int true IntKind.u64 (262148 : Int) Bd.any, SC.int true IntKind.u64 (Int.ofNat (0 : Nat)) Bd.any, SC.int true IntKind.u64
    (Int.ofNat (0 : Nat)) Bd.any, SC.int true IntKind.u64 (Int.ofNat (0 : Nat)) Bd.any, SC.int true IntKind.u64 (Int.ofNat (0 : Nat)) Bd.any, SC.sli (1202 : Nat) (2 : Nat) true (0 :
    Nat) true (4 : Nat) cap_16, SC.int true IntKind.i64 (Int.ofNat ((3 : Nat) + (1 : Nat))), SC.int true IntKind.i64 (Int.ofNat (0 : Nat)) Bd.any, SC.int true IntKind.i64 (Int.ofNat (0
    : Nat)) Bd.any, SC.int true IntKind.i64 (Int.ofNat ((3 : Nat) + (1 : Nat))), SC.int true IntKind.i64 (Int.ofNat (0 : Nat)) Bd.any, SC.int true IntKind.i64 (Int.ofNat (0 : Nat))
    Bd.any] = true ∧ (4 : Nat) = (4 : Nat) ∧ SegOk (4 : Nat) (((((((((Ar.new (60000 : Nat)).lay [(0 : Nat), (0 : Nat), (0 : Nat), (0 : Nat), (0 : Nat), (0 : Nat), (0 : Nat)] v).write (0
    : Int) (1 : Int) (65537 : Int)).lay [(0 : Nat), (0 : Nat), (0 : Nat), (0 : Nat), (0 : Nat), (0 : Nat), (0 : Nat), (0 : Nat), (0 : Nat), (0 : Nat), (0 : Nat), (0 : Nat), (0 : Nat),
    (0 : Nat)] v_1).write (0 : Int) (2 : Int) (131074 : Int)).lay [(0 : Nat), (0 : Nat), (0 : Nat), (0 : Nat), (0 : Nat), (0 : Nat), (0 : Nat), (0 : Nat), (0 : Nat), (0 : Nat), (0 :
    Nat), (0 : Nat), (0 : Nat), (0 : Nat), (0 : Nat), (0 : Nat), (0 : Nat), (0 : Nat), (0 : Nat), (0 : Nat), (0 : Nat), (0 : Nat), (0 : Nat), (0 : Nat), (0 : Nat), (0 : Nat), (0 : Nat),
    (0 : Nat)] v_2).write (0 : Int) (3 : Int) (196611 : Int)).lay [(0 : Nat), (0 : Nat), (0 : Nat), (0 : Nat), (0 : Nat), (0 : Nat), (0 : Nat), (0 : Nat), (0 : Nat), (0 : Nat), (0 :
    Nat), (0 : Nat), (0 : Nat), (0 : Nat), (0 : Nat), (0 : Nat), (0 : Nat), (0 : Nat), (0 : Nat), (0 : Nat), (0 : Nat), (0 : Nat), (0 : Nat), (0 : Nat), (0 : Nat), (0 : Nat), (0 : Nat),
    (0 : Nat), (0 : Nat), (0 : Nat), (0 : Nat), (0 : Nat), (0 : Nat), (0 : Nat), (0 : Nat), (0 : Nat), (0 : Nat), (0 : Nat), (0 : Nat), (0 : Nat), (0 : Nat), (0 : Nat), (0 : Nat), (0 :
    Nat), (0 : Nat), (0 : Nat), (0 : Nat), (0 : Nat), (0 : Nat), (0 : Nat), (0 : Nat), (0 : Nat), (0 : Nat), (0 : Nat), (0 : Nat), (0 : Nat)] v_3).write (0 : Int) (4 : Int) (262148 :
    Int)) ∧ (4 : Nat) = [SC.int true IntKind.u64 (Int.ofNat ((65536 : Nat) + (1 : Nat))) Bd.any, SC.int true IntKind.u64 (131074 : Int) Bd.any, SC.int true IntKind.u64 (196611 : Int)
    Bd.any, SC.int true IntKind.u64 (262148 : Int) Bd.any].length ∧ cap = cap ∧ (65537 : Int) = (65537 : Int) ∧ (131074 : Int) = (131074 : Int) ∧ (196611 : Int) = (196611 : Int) ∧
    (262148 : Int) = (262148 : Int) ∧ True) ∧ True) ∧ True) ∧ True) ∧ True) ∧ True) ∧ True) ∧ True) ∧ True) ∧ True) := by
  kernel_rfl
theorem seg_run4 : callN Try.prog tblS (fun _ _ => false) 100 20 13 [.c (.int true .i64 4)] ⟨[], 0⟩ .nil (fun v m _ => segPost 4 v m) := by
  rw [seg_vc4]
  repeat' first
    | with_reducible apply And.intro
    | with_reducible exact trivial
    | intro _
    | with_reducible exact Eq.refl _
  all_goals first
    | omega
    | (unfold Ar.Has; exact ⟨by omega, by omega, by omega, rfl⟩)
    | exact Nat.le_of_ble_eq_true rfl
    | exact (SegOk.more (SegOk.more (SegOk.more (SegOk.more SegOk.new _ rfl rfl rfl) _ rfl rfl rfl) _ rfl rfl rfl) _ rfl rfl rfl)
    | rfl
    | (simp_all; done)
end Go.Proofs.Ytnfpkadepomjjaa

/- What the executor knows of Segments(1) to Segments(4). -/
namespace Go.Proofs.Ytnfpkadepomjjaa
open Go Go.RowKit
set_option maxRecDepth 100000

theorem seg_ok {n : Nat} {z : Int} (hrun : callN Try.prog tblS (fun _ _ => false) 100 20 13 [.c (.int true .i64 z)] ⟨[], 0⟩ .nil (fun v m _ => segPost n v m)) (w : World) {R : Assn} (H : Sat w R) :
    Calls Try.prog 13 #[.int .i64 z] w fun e w' => ∃ (A : Ar) (b s cap : Nat) (z : Nat → Int) (ad : Option Addr) (ln cp : Nat), SegOk n A ∧ e = .returned (.tuple #[.pointer (some ⟨b, 0, none⟩), .agg (SC.denL (fun _ => 0) (rawM z ad ln cp)).toArray, .slice (some ⟨s, 0, none⟩) n cap]) ∧
      Sat w' (arAt b A * (rowHead s 25 1 n cap (intsOf .u64 n hsF) * R)) ∧ Kept w w' := by
  have H0 : Sat w (SH.den (fun _ => 0) (⟨[], 0⟩ : MX).hp * R) := by
    simp only [SH.den]
    rw [Assn.one_mul]
    exact H
  refine (callN_ok namesOk mixed _ _ _ _ _ _ _ _ _ hrun (fun _ => 0) w R w H0 (Kept.refl w)).mono ?_
  rintro e w' ⟨v, m', s', μ, hv, _, _, he, hs, hk⟩
  unfold segPost at hv
  split at hv <;> try exact hv.elim
  rename_i p l s lo ll k cap
  split at hv <;> try exact hv.elim
  rename_i A hp
  split at hv <;> try exact hv.elim
  rename_i o ho
  obtain ⟨h1, rfl, h3, h4⟩ := hv
  rw [SH.den_get μ hp, SH.den_get μ ho, Assn.mul_assoc, Assn.mul_assoc] at hs
  have hs1 : Sat w' (o.den μ (μ s) * (arAt (μ p) A * (SH.den μ ((m'.hp.del p).del s) * R))) := hs.cast (by simp only [SO.den, XE, XO.den]; ac_rfl)
  have hs2 := eqO_den μ (μ s) h4 hs1
  simp only [SO.den] at hs2
  obtain ⟨z, ad, ln, cp, hz⟩ := isM_den h1 μ
  refine ⟨A, μ p, μ s, cap, z, ad, ln, cp, h3, by rw [he, ← hz]; simp [SV.den, SC.den, partDen], ?_, hk⟩
  have hs3 : Sat w' ((SH.den μ ((m'.hp.del p).del s)) * (arAt (μ p) A * (rowHead (μ s) 25 1 k cap (intsOf .u64 k hsF) * R))) := hs2.cast (by ac_rfl)
  exact hs3.right
theorem rawM_den (ν : Nat → Nat) (z : Nat → Int) (a : Option Addr) (ln cp : Nat) : SC.denL ν (rawM z a ln cp) = SC.denL (fun _ => 0) (rawM z a ln cp) := rfl
def segM (m : MX) (n cap : Nat) (A : Ar) : MX := ⟨(m.hp.put m.nx (arO A)).put (m.nx + 1) (.ints 25 .u64 n cap hsF), m.nx + 2⟩
def segK (m : MX) (n : Nat) (K : SV → MX → Prop) : Prop := bif m.hp.names.all (fun k => Nat.blt k m.nx) then
    ∀ (A : Ar) (cap : Nat) (z : Nat → Int) (ad : Option Addr) (ln cp : Nat), SegOk n A → n ≤ cap → K (.tup [(false, [.ptr m.nx 0]), (true, rawM z ad ln cp), (false, [.sli (m.nx + 1) 1 true 0 true n cap])]) (segM m n cap A) else Stuck 780
theorem gives_seg {n : Nat} {z : Int} (hrun : callN Try.prog tblS (fun _ _ => false) 100 20 13 [.c (.int true .i64 z)] ⟨[], 0⟩ .nil (fun v m _ => segPost n v m)) {m : MX} {K : SV → MX → Prop} {l : Bool} {bd : Bd z} (hk : segK m n K) :
    Gives Try.prog 13 [.c (.int l .i64 z bd)] m K := fun ν w R w0 H HK => by
  refine (seg_ok hrun w H).mono ?_
  rintro e w' ⟨A, b, s, cap, z, ad, ln, cp, h1, he, hs, hk'⟩
  unfold segK at hk
  cases hall : m.hp.names.all (fun k => Nat.blt k m.nx) <;> rw [hall] at hk
  · exact hk.elim
  simp only [cond_true] at hk
  have hnm : ∀ k ∈ m.hp.names, k < m.nx := fun k hk => by simpa [Nat.blt_eq] using List.all_eq_true.1 hall k hk
  have hcap : n ≤ cap := by
    have h5 : Sat w' (rowHead s 25 1 n cap (intsOf .u64 n hsF) * (arAt b A * (SH.den ν m.hp * R))) := hs.cast (by ac_rfl)
    obtain ⟨cur, h6⟩ := h5.ex_mul
    rw [Assn.mul_assoc] at h6
    exact h6.pure_mul.1.2.1
  refine ⟨_, _, upd (upd ν m.nx b) (m.nx + 1) s, hk A cap z ad ln cp h1 hcap, ?_, ?_, ?_, ?_, HK.trans hk'⟩
  · exact (Agree.upd (Nat.le_refl _) _).trans (Agree.upd (Nat.le_succ _) _) (Nat.le_refl _)
  · simp only [segM]; omega
  · rw [he]
    simp only [SV.den, List.map_cons, List.map_nil, partDen, rawM_den (upd (upd ν m.nx b) (m.nx + 1) s), SC.den]
    simp [upd]
  · simp only [segM]
    rw [SH.den_put, SH.den_put]
    have e1 : SH.den (upd (upd ν m.nx b) (m.nx + 1) s) m.hp = SH.den ν m.hp := SH.den_eq m.hp fun k hk => by
      have := hnm k hk
      simp only [upd]
      rw [if_neg (by omega), if_neg (by omega)]
    rw [e1]
    have e2 : upd (upd ν m.nx b) (m.nx + 1) s (m.nx + 1) = s := by simp [upd]
    have e3 : upd (upd ν m.nx b) (m.nx + 1) s m.nx = b := by simp [upd]
    rw [e2, e3]
    exact hs.cast (by simp only [SO.den, XE, XO.den]; ac_rfl)
def segsX : Smry Try.prog XE where
  g := 13
  run := fun args m K => match args with
    | [.c (.int _ .i64 (.ofNat 1) _)] => segK m 1 K
    | [.c (.int _ .i64 (.ofNat 2) _)] => segK m 2 K
    | [.c (.int _ .i64 (.ofNat 3) _)] => segK m 3 K
    | [.c (.int _ .i64 (.ofNat 4) _)] => segK m 4 K
    | _ => Stuck 781
  ok := fun args m K hr => by
    split at hr <;> try exact hr.elim
    · exact gives_seg (n := 1) seg_run1 hr
    · exact gives_seg (n := 2) seg_run2 hr
    · exact gives_seg (n := 3) seg_run3 hr
    · exact gives_seg (n := 4) seg_run4 hr


/-- The same, with the arena itself. -/
def allV : Nat → (List Value → Prop) → Prop
  | 0, p => p []
  | n + 1, p => ∀ v, allV n fun l => p (v :: l)
theorem allV_of : ∀ {n : Nat} {p : List Value → Prop}, allV n p → ∀ l : List Value, l.length = n → p l
  | 0, p, h, l, e => by
    cases l with
    | nil => exact h
    | cons v l => cases e
  | n + 1, p, h, l, e => by
    cases l with
    | nil => cases e
    | cons v l => exact allV_of (h v) l (by simpa using e)
def segK2 (m : MX) (n : Nat) (K : SV → MX → Prop) : Prop := bif m.hp.names.all (fun k => Nat.blt k m.nx) then
    allV n fun l => ∀ (cap : Nat) (z : Nat → Int) (ad : Option Addr) (ln cp : Nat), SegOk n (segA l) → n ≤ cap → K (.tup [(false, [.ptr m.nx 0]), (true, rawM z ad ln cp), (false, [.sli (m.nx + 1) 1 true 0 true n cap])]) (segM m n cap (segA l)) else Stuck 782
theorem segK_of {m : MX} {n : Nat} {K : SV → MX → Prop} (h : segK2 m n K) : segK m n K := by
  unfold segK2 at h
  unfold segK
  cases hall : m.hp.names.all (fun k => Nat.blt k m.nx) <;> rw [hall] at h
  · exact h.elim
  · simp only [cond_true] at h ⊢
    intro A cap z ad ln cp hA hcap
    obtain ⟨l, hl, rfl⟩ := hA.eq
    exact allV_of h l hl cap z ad ln cp hA hcap
def segsY : Smry Try.prog XE where
  g := 13
  run := fun args m K => match args with
    | [.c (.int _ .i64 (.ofNat 1) _)] => segK2 m 1 K
    | [.c (.int _ .i64 (.ofNat 2) _)] => segK2 m 2 K
    | [.c (.int _ .i64 (.ofNat 3) _)] => segK2 m 3 K
    | [.c (.int _ .i64 (.ofNat 4) _)] => segK2 m 4 K
    | _ => Stuck 783
  ok := fun args m K hr => by
    split at hr <;> try exact hr.elim
    · exact gives_seg (n := 1) seg_run1 (segK_of hr)
    · exact gives_seg (n := 2) seg_run2 (segK_of hr)
    · exact gives_seg (n := 3) seg_run3 (segK_of hr)
    · exact gives_seg (n := 4) seg_run4 (segK_of hr)
end Go.Proofs.Ytnfpkadepomjjaa
