/- Arenas with segments, as the laws from layer 12 on begin with. -/
import Derived.Test.YtgiakcepgbpchaaSumCnt
import Derived.Test.YtgiakcepgbpchaaSumDir
namespace Go.Proofs.Ytgiakcepgbpchaa
open Go Go.RowKit

/-- The handle of the segment g. -/
def hsF (g : Nat) : Int := ((g + 1) * 65537 : Nat)
/-- The arena itself: the slices' values of its blocks, the last one first. -/
def segA : List Value → Ar
  | [] => Ar.new 60000
  | v :: l => ((segA l).lay (List.replicate (7 * 2 ^ l.length) 0) v).write 0 ((l.length + 1 : Nat) : Int) (((l.length + 1) * 65537 : Nat) : Int)
/-- An arena with n segments, of zeros, told in the fixed words. -/
structure SegOk (n : Nat) (A : Ar) : Prop where
  cap : A.cap = 60000
  used : A.used = 7 * (2 ^ n - 1)
  faults : A.faults = 0
  births : A.births = n
  high : A.s.high = n
  back : A.s.back = []
  len : A.bs.length = n
  blk : ∀ g, g < n → ∃ v, A.find ((g + 1) * 65537) = some ⟨g + 1, (g + 1) * 65537, List.replicate (7 * 2 ^ g) 0, v⟩
  miss : ∀ h, (∀ g, g < n → h ≠ (g + 1) * 65537) → A.find h = none
  fixed0 : A.fixed 0 = 0
  fixed : ∀ g, g < 8 → A.fixed (g + 1) = if g < n then (g + 1) * 65537 else 0
  tally : A.t = ⟨n, 0, 0, n, 0, 0⟩
  eq : ∃ l : List Value, l.length = n ∧ A = segA l
theorem SegOk.new : SegOk 0 (Ar.new 60000) where
  cap := rfl
  used := rfl
  faults := rfl
  births := rfl
  high := rfl
  back := rfl
  len := rfl
  blk := fun g h => absurd h (Nat.not_lt_zero g)
  miss := fun h _ => rfl
  fixed0 := rfl
  fixed := fun g _ => rfl
  tally := rfl
  eq := ⟨[], rfl, rfl⟩
theorem SegOk.more {n : Nat} {A : Ar} (h : SegOk n A) (v : Value) {ws : List Nat} {i y : Int} (hw : ws = List.replicate (7 * 2 ^ n) 0) (hi : i = ((n + 1 : Nat) : Int)) (hy : y = (((n + 1) * 65537 : Nat) : Int)) : SegOk (n + 1) ((A.lay ws v).write 0 i y) := by
  subst hw hi hy
  have hl : layH A = (n + 1) * 65537 := by unfold layH; rw [h.births, h.high]; omega
  have hp : 1 ≤ 2 ^ n := Nat.one_le_two_pow
  have hfind : ∀ x, Ar.find ((A.lay (List.replicate (7 * 2 ^ n) 0) v).write 0 ((n + 1 : Nat) : Int) (((n + 1) * 65537 : Nat) : Int)) x = (A.find x).or (if (n + 1) * 65537 = x then some ⟨n + 1, (n + 1) * 65537, List.replicate (7 * 2 ^ n) 0, v⟩ else none) := fun x => by
    unfold Ar.find
    have e : ((A.lay (List.replicate (7 * 2 ^ n) 0) v).write 0 ((n + 1 : Nat) : Int) (((n + 1) * 65537 : Nat) : Int)).bs = A.bs ++ [⟨n + 1, (n + 1) * 65537, List.replicate (7 * 2 ^ n) 0, v⟩] := by
      simp only [Ar.write, Ar.set, Ar.tick, Ar.lay, Int.toNat_zero, if_true, hl, h.high]
    rw [e, List.find?_append]
    congr 1
    simp only [List.find?_cons, List.find?_nil]
    by_cases hx : (n + 1) * 65537 = x
    · simp [hx]
    · rw [if_neg hx, (beq_eq_false_iff_ne.2 hx : ((n + 1) * 65537 == x) = false)]
  refine { cap := h.cap, used := ?_, faults := h.faults, births := ?_, high := ?_, back := h.back, len := ?_, blk := ?_, miss := ?_, fixed0 := ?_, fixed := ?_, tally := ?_, eq := ?_ }
  · show A.used + (List.replicate (7 * 2 ^ n) 0).length = _
    rw [h.used, List.length_replicate, Nat.pow_succ]
    omega
  · show A.births + 1 = _
    rw [h.births]
  · show A.s.high + 1 = _
    rw [h.high]
  · show (A.bs ++ [_]).length = _
    rw [List.length_append, h.len]; rfl
  · intro g hg
    rw [hfind]
    by_cases e : g = n
    · subst e
      rw [h.miss _ (fun k hk => by omega)]
      exact ⟨v, by simp⟩
    · obtain ⟨u, hu⟩ := h.blk g (by omega)
      exact ⟨u, by rw [hu]; rfl⟩
  · intro x hx
    rw [hfind, h.miss x (fun g hg => hx g (by omega)), if_neg (fun e => hx n (by omega) e.symm)]
    rfl
  · show (if 0 = (((n + 1 : Nat) : Int)).toNat then ((((n + 1) * 65537 : Nat) : Int)).toNat else A.fixed 0) = 0
    rw [if_neg (by omega), h.fixed0]
  · intro g hg
    show (if g + 1 = (((n + 1 : Nat) : Int)).toNat then ((((n + 1) * 65537 : Nat) : Int)).toNat else A.fixed (g + 1)) = _
    rw [Int.toNat_natCast, Int.toNat_natCast, h.fixed g hg]
    by_cases e : g = n
    · subst e; simp
    · rw [if_neg (by omega)]
      by_cases e2 : g < n
      · rw [if_pos e2, if_pos (by omega)]
      · rw [if_neg e2, if_neg (by omega)]
  · show ({ lays := A.t.lays + 1, frees := A.t.frees, reads := A.t.reads, writes := A.t.writes + 1, swaps := A.t.swaps, adds := A.t.adds } : Tly) = _
    rw [h.tally]
  · obtain ⟨l, rfl, e⟩ := h.eq
    exact ⟨v :: l, rfl, by rw [segA, ← e]⟩
def isI (k : IntKind) : SC → Bool
  | .int _ k' _ _ => decide (k = k')
  | _ => false
theorem isI_den {k : IntKind} {x : SC} (h : isI k x = true) : ∃ n : Int, ∀ ν, x.den ν = .int k n := by
  unfold isI at h
  split at h
  · rename_i l k' n bd
    have := of_decide_eq_true h
    subst this
    exact ⟨n, fun _ => rfl⟩
  · cases h
/-- Cells as the document's arena has them. -/
def isM (l : List SC) : Bool := match l with
  | [x0, x1, x2, x3, x4, x5, x6, x7, x8, x9, x10, x11, x12, x13, x14, x15, x16, x17, x18, x19] =>
    (isI .i64 x0 && isI .i64 x1 && isI .i64 x2 && isI .i64 x3) && (isI .u64 x4 && isI .u64 x5 && isI .u64 x6 && isI .u64 x7 && isI .u64 x8 && isI .u64 x9 && isI .u64 x10 && isI .u64 x11 && isI .u64 x12) &&
      (match x13 with | .sli _ _ _ _ _ _ _ => true | _ => false) && (isI .i64 x14 && isI .i64 x15 && isI .i64 x16 && isI .i64 x17 && isI .i64 x18 && isI .i64 x19)
  | _ => false
def rawM (z : Nat → Int) (a : Option Addr) (ln cp : Nat) : List SC := [.int false .i64 (z 0), .int false .i64 (z 1), .int false .i64 (z 2), .int false .i64 (z 3),
  .int false .u64 (z 4), .int false .u64 (z 5), .int false .u64 (z 6), .int false .u64 (z 7), .int false .u64 (z 8), .int false .u64 (z 9), .int false .u64 (z 10), .int false .u64 (z 11), .int false .u64 (z 12),
  .sliv a false ln cp, .int false .i64 (z 14), .int false .i64 (z 15), .int false .i64 (z 16), .int false .i64 (z 17), .int false .i64 (z 18), .int false .i64 (z 19)]
theorem isM_den {l : List SC} (h : isM l = true) (ν : Nat → Nat) : ∃ z a ln cp, ∀ μ, SC.denL ν l = SC.denL μ (rawM z a ln cp) := by
  unfold isM at h
  split at h
  · rename_i x0 x1 x2 x3 x4 x5 x6 x7 x8 x9 x10 x11 x12 x13 x14 x15 x16 x17 x18 x19
    simp only [Bool.and_eq_true] at h
    obtain ⟨⟨⟨⟨⟨⟨h0, h1⟩, h2⟩, h3⟩, ⟨⟨⟨⟨⟨⟨⟨⟨h4, h5⟩, h6⟩, h7⟩, h8⟩, h9⟩, h10⟩, h11⟩, h12⟩⟩, h13⟩, ⟨⟨⟨⟨⟨h14, h15⟩, h16⟩, h17⟩, h18⟩, h19⟩⟩ := h
    obtain ⟨n0, e0⟩ := isI_den h0
    obtain ⟨n1, e1⟩ := isI_den h1
    obtain ⟨n2, e2⟩ := isI_den h2
    obtain ⟨n3, e3⟩ := isI_den h3
    obtain ⟨n4, e4⟩ := isI_den h4
    obtain ⟨n5, e5⟩ := isI_den h5
    obtain ⟨n6, e6⟩ := isI_den h6
    obtain ⟨n7, e7⟩ := isI_den h7
    obtain ⟨n8, e8⟩ := isI_den h8
    obtain ⟨n9, e9⟩ := isI_den h9
    obtain ⟨n10, e10⟩ := isI_den h10
    obtain ⟨n11, e11⟩ := isI_den h11
    obtain ⟨n12, e12⟩ := isI_den h12
    obtain ⟨n14, e14⟩ := isI_den h14
    obtain ⟨n15, e15⟩ := isI_den h15
    obtain ⟨n16, e16⟩ := isI_den h16
    obtain ⟨n17, e17⟩ := isI_den h17
    obtain ⟨n18, e18⟩ := isI_den h18
    obtain ⟨n19, e19⟩ := isI_den h19
    split at h13
    · rename_i s k lo o ll len cap
      refine ⟨fun i => [n0, n1, n2, n3, n4, n5, n6, n7, n8, n9, n10, n11, n12, 0, n14, n15, n16, n17, n18, n19].getD i 0, some ⟨ν s, o * k, none⟩, len, cap, fun μ => ?_⟩
      simp only [SC.denL, e0, e1, e2, e3, e4, e5, e6, e7, e8, e9, e10, e11, e12, e14, e15, e16, e17, e18, e19, rawM, SC.den]
      rfl
    · cases h13
  · cases h
def segPost (n : Nat) (v : SV) (m : MX) : Prop := match v with
  | .tup [(false, [.ptr p 0]), (true, l), (false, [.sli s 1 _ 0 _ k cap])] => match m.hp.get p with
    | some (.ext (.ar A)) => match (m.hp.del p).get s with
      | some o => isM l = true ∧ k = n ∧ SegOk n A ∧ eqO (.ints 25 .u64 n cap hsF) o
      | none => Stuck 770
    | _ => Stuck 771
  | _ => Stuck 772
def tblS : List (Smry Try.prog XE) := [newX, layX true, writeX, powS]
end Go.Proofs.Ytgiakcepgbpchaa
