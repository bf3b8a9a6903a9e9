/- The arena as plain data, and how it lies in memory. No program in sight but for the numbers of types. -/
import Derived.IntWalk
import Derived.Test.YtnkikhhiaecebaaBaseMap
import Derived.Test.YtnkikhhiaecebaaBasePl
import Derived.Maps.AppendAt
set_option linter.all false
namespace Go.Proofs.Ytnkikhhiaecebaa
open Go Go.RowKit

/-- A count that wraps round. -/
def wr64 (n : Nat) : Int := IntKind.i64.wrap n
theorem wr64_succ (n : Nat) : wrap64 (wr64 n + 1) = wr64 (n + 1) := by
  unfold wr64
  rw [← IntWalk.i64_left]
  simp only [IntKind.wrap_i64]; omega
theorem wr64_small {n : Nat} (h : n ≤ 9223372036854775807) : wr64 n = n := by unfold wr64; exact IntWalk.i64_in _ (by omega)

def u64s (l : List Nat) : List Value := l.map fun n : Nat => .int .u64 (n : Int)
def intv (l : List Nat) : List Value := l.map fun n : Nat => .int .i64 (n : Int)

/-- The slice v (elements of one cell) has the elements xs, in a row of its own. -/
def rowAt (T : TypeId) (v : Value) (xs : List Value) : Assn := fun h =>
  (v = .slice none 0 0 ∧ xs = [] ∧ h = Part.none) ∨
  ∃ g cap cur, v = .slice (some ⟨g, 0, none⟩) xs.length cap ∧ xs.length ≤ cap ∧ cap ≤ maxLen ∧ cur.size = cap ∧ cur.toList.take xs.length = xs ∧ h = Part.one g (.cells cur T (0, 0))
theorem rowAt_open {w : World} {T : TypeId} {v : Value} {xs : List Value} {R : Assn} (h : Sat w (rowAt T v xs * R)) :
    (v = .slice none 0 0 ∧ xs = [] ∧ Sat w R) ∨
    ∃ g cap cur, v = .slice (some ⟨g, 0, none⟩) xs.length cap ∧ xs.length ≤ cap ∧ cap ≤ maxLen ∧ cur.size = cap ∧ cur.toList.take xs.length = xs ∧ Sat w (own g (.cells cur T (0, 0)) * R) := by
  obtain ⟨x, ⟨a, b, d, rfl, p, q⟩, k⟩ := h
  rcases p with ⟨h1, h2, rfl⟩ | ⟨g, cap, cur, h1, h2, h3, h4, h5, rfl⟩
  · exact .inl ⟨h1, h2, b, q, k⟩
  · exact .inr ⟨g, cap, cur, h1, h2, h3, h4, h5, _, ⟨_, b, d, rfl, rfl, q⟩, k⟩
theorem rowAt_shut {w : World} {T : TypeId} {xs : List Value} {R : Assn} {g cap : Nat} {cur : Array Value} (h2 : xs.length ≤ cap) (h3 : cap ≤ maxLen) (h4 : cur.size = cap) (h5 : cur.toList.take xs.length = xs)
    (h : Sat w (own g (.cells cur T (0, 0)) * R)) : Sat w (rowAt T (.slice (some ⟨g, 0, none⟩) xs.length cap) xs * R) :=
  h.mono fun _ e => .inr ⟨g, cap, cur, rfl, h2, h3, h4, h5, e⟩
theorem rowAt_nil {w : World} {T : TypeId} {R : Assn} (h : Sat w R) : Sat w (rowAt T (.slice none 0 0) [] * R) := by
  obtain ⟨x, q, k⟩ := h
  exact ⟨x, ⟨Part.none, x, Part.apart_none _, rfl, .inl ⟨rfl, rfl, rfl⟩, q⟩, k⟩
/-- The elements of a row as cells. -/
theorem row_cell {w : World} {g : Nat} {cur : Array Value} {T : TypeId} {xs : List Value} {R : Assn} (h : Sat w (own g (.cells cur T (0, 0)) * R)) (h5 : cur.toList.take xs.length = xs) :
    ∀ j u, xs[j]? = some u → w.cell? ⟨g, j, none⟩ = some u := by
  intro j u hj
  have hjl : j < xs.length := by
    rcases Nat.lt_or_ge j xs.length with h' | h'
    · exact h'
    · rw [List.getElem?_eq_none h'] at hj; cases hj
  have e : (cur.toList.take xs.length)[j]? = some u := by rw [h5]; exact hj
  rw [List.getElem?_take, if_pos hjl] at e
  rw [h.cell]
  simpa using e
/-- What the kit's laws leave of a slice that a call has made. -/
theorem rowAt_made {w w' : World} {P : Assn} {T : TypeId} {v : Value} {n : Nat} {xs : List Value} (h : Sat w P) (hb : Below w.heap.size w w') (ho : w'.ownsRow w.heap.size T 1 v n xs) : Sat w' (rowAt T v xs * P) := by
  have hs := h.below hb
  rcases ho.2 with ⟨rfl, rfl⟩ | ⟨g, cap, cur, rfl, hg, hh, hn, hm, hc, ht⟩
  · have : xs = [] := by have := ho.1; simpa using this
    subst this
    exact rowAt_nil hs
  · have hl : xs.length = n := by have := ho.1; omega
    subst hl
    refine rowAt_shut (cur := cur) hn hm (by omega) (by simpa using ht) ?_
    obtain ⟨x, p, k⟩ := h
    have hd : Part.apart (Part.one g (.cells cur T (0, 0))) x := fun i => by
      by_cases e : i = g
      · right
        cases hx : x i with
        | none => rfl
        | some y =>
          have := k i y hx
          rw [Array.getElem?_eq_none (by omega)] at this; cases this
      · left; simp [Part.one, e]
    refine ⟨Part.join (Part.one g (.cells cur T (0, 0))) x, ⟨_, x, hd, rfl, rfl, p⟩, fun i y e => ?_⟩
    simp only [Part.join, Part.one] at e
    by_cases hi : i = g
    · subst hi; simp at e; subst e; exact hh
    · simp [hi] at e
      have h1 := k i y e
      have hlt : i < w.heap.size := by
        rcases Nat.lt_or_ge i w.heap.size with h' | h'
        · exact h'
        · simp [Array.getElem?_eq_none h'] at h1
      rw [hb.block i hlt]; exact h1

/-- A block that lives: its number, its handle, its words; the slice that has them. -/
structure Blk where
  n : Nat
  h : Nat
  ws : List Nat
  v : Value
/-- The stock of numbers. -/
structure Stk where
  high : Nat
  used : List Nat
  back : List Nat
/-- Counts of accesses. -/
structure Tly where
  lays : Nat
  frees : Nat
  reads : Nat
  writes : Nat
  swaps : Nat
  adds : Nat
/-- The arena. -/
structure Ar where
  cap : Nat
  used : Nat
  peak : Nat
  faults : Nat
  births : Nat
  fixed : Nat → Nat
  s : Stk
  bs : List Blk
  t : Tly

def tlyCells (t : Tly) : List Value := [.int .i64 (wr64 t.lays), .int .i64 (wr64 t.frees), .int .i64 (wr64 t.reads), .int .i64 (wr64 t.writes), .int .i64 (wr64 t.swaps), .int .i64 (wr64 t.adds)]
def arCells (A : Ar) (ps pb : Nat) : Array Value :=
  #[.int .i64 A.cap, .int .i64 A.used, .int .i64 A.peak, .int .i64 (wr64 A.faults), .int .u64 A.births,
    .int .u64 (A.fixed 0), .int .u64 (A.fixed 1), .int .u64 (A.fixed 2), .int .u64 (A.fixed 3), .int .u64 (A.fixed 4), .int .u64 (A.fixed 5), .int .u64 (A.fixed 6), .int .u64 (A.fixed 7), .int .u64 (A.fixed 8),
    .pointer (some ⟨ps, 0, none⟩), .map (some pb),
    .int .i64 (wr64 A.t.lays), .int .i64 (wr64 A.t.frees), .int .i64 (wr64 A.t.reads), .int .i64 (wr64 A.t.writes), .int .i64 (wr64 A.t.swaps), .int .i64 (wr64 A.t.adds)]
def ent (b : Blk) : Int × Value := (b.n, .agg #[.int .u64 b.h, b.v])
def rowsAt : List Blk → Assn
  | [] => 1
  | b :: l => rowAt 29 b.v (u64s b.ws) * rowsAt l
def stkAt (ps : Nat) (S : Stk) : Assn := Assn.ex fun d : Nat × Value =>
  own ps (.cells #[.int .i64 65535, .int .i64 S.high, d.2, .map (some d.1)] 272 (0, 0)) * (mapAt d.1 (S.used.map fun n : Nat => ((n : Int), Value.int .i64 1)) * rowAt 3 d.2 (intv S.back))

/-- What holds of every arena. -/
structure ArInv (A : Ar) : Prop where
  cap : A.cap ≤ 60000
  used : A.used ≤ A.cap
  peak : A.used ≤ A.peak ∧ A.peak ≤ A.cap
  births : A.births ≤ 268435455
  fixed : ∀ i, A.fixed i < TW
  nums : A.s.used.Perm (A.bs.map (·.n))
  range : ∀ b ∈ A.bs, 1 ≤ b.n ∧ b.n ≤ A.s.high ∧ b.h % 65536 = b.n ∧ 1 ≤ b.h / 65536 ∧ b.h / 65536 ≤ A.births ∧ 1 ≤ b.ws.length ∧ b.ws.length ≤ 2048
  words : ∀ b ∈ A.bs, ∀ x ∈ b.ws, x < TW
  apart : (A.bs.map (·.n)).Nodup
  births' : (A.bs.map fun b => b.h / 65536).Nodup
  sum : A.used = (A.bs.map fun b => b.ws.length).sum
  backs : ∀ n ∈ A.s.back, 1 ≤ n ∧ n ≤ A.s.high ∧ n ∉ A.s.used
  high : A.s.high = A.bs.length + A.s.back.length
  bnd : A.s.back.Nodup
  hmax : A.s.high ≤ 60000
/-- The arena at the address p: its struct, the stock of numbers, the map of blocks, the blocks' rows. -/
def arAt (p : Nat) (A : Ar) : Assn := Assn.ex fun d : Nat × Nat => Assn.pure (ArInv A) *
  (own p (.cells (arCells A d.1 d.2) 172 (0, 0)) * (stkAt d.1 A.s * (mapAt d.2 (A.bs.map ent) * rowsAt A.bs)))
theorem arAt_open {w : World} {p : Nat} {A : Ar} {R : Assn} (h : Sat w (arAt p A * R)) : ∃ ps pb, ArInv A ∧
    Sat w (own p (.cells (arCells A ps pb) 172 (0, 0)) * (stkAt ps A.s * (mapAt pb (A.bs.map ent) * (rowsAt A.bs * R)))) := by
  obtain ⟨⟨ps, pb⟩, h⟩ := h.ex_mul
  rw [Assn.mul_assoc] at h
  obtain ⟨hi, h⟩ := h.pure_mul
  exact ⟨ps, pb, hi, h.cast (by simp only [Assn.mul_assoc])⟩
theorem arAt_shut {w : World} {p : Nat} {A : Ar} {R : Assn} {ps pb : Nat} (hi : ArInv A)
    (h : Sat w (own p (.cells (arCells A ps pb) 172 (0, 0)) * (stkAt ps A.s * (mapAt pb (A.bs.map ent) * (rowsAt A.bs * R))))) : Sat w (arAt p A * R) := by
  refine Sat.mk_ex_mul (ps, pb) ?_
  rw [Assn.mul_assoc]
  exact Sat.mk_pure_mul hi (h.cast (by simp only [Assn.mul_assoc]))

def Ar.new (cap : Nat) : Ar := { cap, used := 0, peak := 0, faults := 0, births := 0, fixed := fun _ => 0, s := { high := 0, used := [], back := [] }, bs := [], t := { lays := 0, frees := 0, reads := 0, writes := 0, swaps := 0, adds := 0 } }
theorem ArInv.new {cap : Nat} (h : cap ≤ 60000) : ArInv (Ar.new cap) := by
  constructor <;> simp [Ar.new, h, TW]

/-- The block of a handle. -/
def Ar.find (A : Ar) (h : Nat) : Option Blk := A.bs.find? fun b => b.h == h
def Ar.word (A : Ar) (h i : Nat) : Option Nat := if h = 0 then (if i < 9 then some (A.fixed i) else none) else (A.find h).bind fun b => b.ws[i]?
def setBlk (h i x : Nat) (b : Blk) : Blk := if b.h = h then { b with ws := b.ws.set i x } else b
def Ar.set (A : Ar) (h i x : Nat) : Ar := if h = 0 then { A with fixed := fun j => if j = i then x else A.fixed j } else { A with bs := A.bs.map (setBlk h i x) }
end Go.Proofs.Ytnkikhhiaecebaa

/- Rows whose elements take k cells; append, told of assertions. No program in sight. -/
namespace Go.Proofs.Ytnkikhhiaecebaa
open Go Go.RowKit

def rowK (T : TypeId) (k : Nat) (v : Value) (n : Nat) (xs : List Value) : Assn := fun h => xs.length = n * k ∧
  ((v = .slice none 0 0 ∧ n = 0 ∧ h = Part.none) ∨
  ∃ g cap cur, v = .slice (some ⟨g, 0, none⟩) n cap ∧ n ≤ cap ∧ cap ≤ maxLen ∧ cur.size = cap * k ∧ cur.toList.take (n * k) = xs ∧ h = Part.one g (.cells cur T (0, 0)))
theorem rowK_open {w : World} {T : TypeId} {k n : Nat} {v : Value} {xs : List Value} {R : Assn} (h : Sat w (rowK T k v n xs * R)) :
    xs.length = n * k ∧ ((v = .slice none 0 0 ∧ n = 0 ∧ Sat w R) ∨
    ∃ g cap cur, v = .slice (some ⟨g, 0, none⟩) n cap ∧ n ≤ cap ∧ cap ≤ maxLen ∧ cur.size = cap * k ∧ cur.toList.take (n * k) = xs ∧ Sat w (own g (.cells cur T (0, 0)) * R)) := by
  obtain ⟨x, ⟨a, b, d, rfl, ⟨p0, p⟩, q⟩, kk⟩ := h
  refine ⟨p0, ?_⟩
  rcases p with ⟨h1, h2, rfl⟩ | ⟨g, cap, cur, h1, h2, h3, h4, h5, rfl⟩
  · exact .inl ⟨h1, h2, b, q, kk⟩
  · exact .inr ⟨g, cap, cur, h1, h2, h3, h4, h5, _, ⟨_, b, d, rfl, rfl, q⟩, kk⟩
theorem rowK_shut {w : World} {T : TypeId} {k n : Nat} {xs : List Value} {R : Assn} {g cap : Nat} {cur : Array Value} (h1 : xs.length = n * k) (h2 : n ≤ cap) (h3 : cap ≤ maxLen) (h4 : cur.size = cap * k) (h5 : cur.toList.take (n * k) = xs)
    (h : Sat w (own g (.cells cur T (0, 0)) * R)) : Sat w (rowK T k (.slice (some ⟨g, 0, none⟩) n cap) n xs * R) :=
  h.mono fun _ e => ⟨h1, .inr ⟨g, cap, cur, rfl, h2, h3, h4, h5, e⟩⟩
theorem rowK_nil {w : World} {T : TypeId} {k : Nat} {R : Assn} (h : Sat w R) : Sat w (rowK T k (.slice none 0 0) 0 [] * R) := by
  obtain ⟨x, q, kk⟩ := h
  exact ⟨x, ⟨Part.none, x, Part.apart_none _, rfl, ⟨by simp, .inl ⟨rfl, rfl, rfl⟩⟩, q⟩, kk⟩
theorem rowK_cell {w : World} {g k n : Nat} {cur : Array Value} {T : TypeId} {xs : List Value} {R : Assn} (h : Sat w (own g (.cells cur T (0, 0)) * R)) (h0 : xs.length = n * k) (h5 : cur.toList.take (n * k) = xs) :
    ∀ j u, xs[j]? = some u → w.cell? ⟨g, j, none⟩ = some u := row_cell h (by rw [h0]; exact h5)
theorem rowAt_rowK (T : TypeId) (v : Value) (xs : List Value) : rowAt T v xs = rowK T 1 v xs.length xs := Assn.ext fun h => by
  constructor
  · rintro (⟨h1, rfl, h3⟩ | ⟨g, cap, cur, h1, h2, h3, h4, h5, h6⟩)
    · exact ⟨by simp, .inl ⟨h1, rfl, h3⟩⟩
    · exact ⟨by simp, .inr ⟨g, cap, cur, h1, h2, h3, by simpa using h4, by simpa using h5, h6⟩⟩
  · rintro ⟨h0, (⟨h1, h2, h3⟩ | ⟨g, cap, cur, h1, h2, h3, h4, h5, h6⟩)⟩
    · exact .inl ⟨h1, List.length_eq_zero_iff.1 h2, h3⟩
    · exact .inr ⟨g, cap, cur, h1, h2, h3, by simpa using h4, by simpa using h5, h6⟩
theorem rowK_owns {w : World} {T : TypeId} {k n : Nat} {v : Value} {xs : List Value} {R : Assn} (h : Sat w (rowK T k v n xs * R)) : w.ownsRow 0 T k v n xs := by
  obtain ⟨h0, (⟨h1, h2, _⟩ | ⟨g, cap, cur, h1, h2, h3, h4, h5, h6⟩)⟩ := rowK_open h
  · exact ⟨h0, .inl ⟨h1, h2⟩⟩
  · exact ⟨h0, .inr ⟨g, cap, cur, h1, Nat.zero_le _, h6.block, h2, h3, h4, h5⟩⟩

/-- Blocks told of lie below the heap's end. -/
theorem Sat.rest {w w' : World} {P : Assn} {r : Option Nat} (h : Sat w P) (hr : ∀ x, P x → ∀ i, (x i).isSome → some i ≠ r) (hb : ∀ i, i < w.heap.size → some i ≠ r → w'.heap[i]? = w.heap[i]?) : Sat w' P := by
  obtain ⟨x, p, k⟩ := h
  refine ⟨x, p, fun i o e => ?_⟩
  have h1 := k i o e
  have hlt : i < w.heap.size := by
    rcases Nat.lt_or_ge i w.heap.size with h' | h'
    · exact h'
    · simp [Array.getElem?_eq_none h'] at h1
  rw [hb i hlt (hr x p i (by simp [e]))]; exact h1
/-- What append leaves of a row of one's own. -/
theorem rowK_appended {w w' : World} {P : Assn} {T : TypeId} {k n n' : Nat} {v v' : Value} {xs xs' : List Value} (h : Sat w (rowK T k v n xs * P)) (ho : w'.ownsRow 0 T k v' n' xs') (hg : w.grownBy w' v.ownBlock)
    (hw : v'.ownBlock = v.ownBlock ∨ v'.ownBlock = some w.heap.size) : Sat w' (rowK T k v' n' xs' * P) := by
  obtain ⟨x, ⟨a, b, d, rfl, ⟨p0, p⟩, q⟩, kk⟩ := h
  have hlt : ∀ i y, (Part.join a b) i = some y → i < w.heap.size := fun i y e => by
    have h1 := kk i y e
    rcases Nat.lt_or_ge i w.heap.size with h' | h'
    · exact h'
    · simp [Array.getElem?_eq_none h'] at h1
  -- the rest is apart from the row's block, old and new
  have hbl : ∀ i y, b i = some y → i < w.heap.size ∧ some i ≠ v.ownBlock ∧ w.heap[i]? = some y := by
    intro i y e
    have hj : (Part.join a b) i = some y := by
      rcases d i with h1 | h1
      · simp [Part.join, h1, e]
      · rw [h1] at e; cases e
    refine ⟨hlt i y hj, ?_, kk i y hj⟩
    rcases p with ⟨rfl, _, rfl⟩ | ⟨g, cap, cur, rfl, _, _, _, _, rfl⟩
    · simp [Value.ownBlock]
    · intro e2
      simp only [Value.ownBlock, Option.some.injEq] at e2
      subst e2
      rcases d i with h1 | h1
      · simp [Part.one] at h1
      · rw [h1] at e; cases e
  have hb' : ∀ i y, b i = some y → w'.heap[i]? = some y := fun i y e => by
    obtain ⟨h1, h2, h3⟩ := hbl i y e
    rw [hg.block i h1 h2]; exact h3
  rcases ho.2 with ⟨rfl, rfl⟩ | ⟨g, cap, cur, rfl, _, hh, hn, hm, hc, ht⟩
  · exact ⟨b, ⟨Part.none, b, Part.apart_none _, rfl, ⟨ho.1, .inl ⟨rfl, rfl, rfl⟩⟩, q⟩, hb'⟩
  · have hgb : b g = none := by
      cases hx : b g with
      | none => rfl
      | some y =>
        obtain ⟨h1, h2, _⟩ := hbl g y hx
        rcases hw with e | e
        · simp only [Value.ownBlock] at e; exact absurd e h2
        · simp only [Value.ownBlock, Option.some.injEq] at e; omega
    have hd : Part.apart (Part.one g (.cells cur T (0, 0))) b := fun i => by
      by_cases e : i = g
      · right; rw [e]; exact hgb
      · left; simp [Part.one, e]
    refine ⟨Part.join (Part.one g (.cells cur T (0, 0))) b, ⟨_, b, hd, rfl, ⟨ho.1, .inr ⟨g, cap, cur, rfl, hn, hm, hc, ht, rfl⟩⟩, q⟩, fun i y e => ?_⟩
    simp only [Part.join, Part.one] at e
    by_cases hi : i = g
    · subst hi; simp at e; subst e; exact hh
    · simp [hi] at e
      exact hb' i y e
theorem Kept.grown {a w w' : World} {r : Option Nat} (h : Kept a w) (hg : w.grownBy w' r) : Kept a w' := ⟨hg.os.trans h.os, hg.tape.trans h.tape, hg.output.trans h.output⟩
end Go.Proofs.Ytnkikhhiaecebaa
