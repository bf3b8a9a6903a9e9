/- Rows whose elements take k cells; append, told of assertions. No program in sight. -/
import Derived.Maps.AppendAt
import Derived.Test.YtnhmeepifockgaaArenaM
set_option linter.all false
namespace Go.Proofs.Ytnhmeepifockgaa
open Go Go.RowKit

def rowK (T : TypeId) (k : Nat) (v : Value) (n : Nat) (xs : List Value) : Assn := fun h => xs.length = n * k ∧
  ((v = .slice none 0 0 ∧ n = 0 ∧ h = Part.none) ∨
  ∃ g cap cur, v = .slice (some ⟨g, 0, none⟩) n cap ∧ n ≤ cap ∧ cap ≤ maxLen ∧ cur.size = cap * k ∧ cur.toList.take (n * k) = xs ∧ h = Part.one g (.cells cur T (0, 0)))
theorem rowK_open {w : World} {T : TypeId} {k n : Nat} {v : Value} {xs : List Value} {R : Assn} (h : Sat w (rowK T k v n xs * R)) :
    xs.length = n * k ∧ ((v = .slice none 0 0 ∧ n = 0 ∧ Sat w R) ∨
    ∃ g cap cur, v = .slice (some ⟨g, 0, none⟩) n cap ∧ n ≤ cap ∧ cap ≤ maxLen ∧ cur.size = cap * k ∧ cur.toList.take (n * k) = xs ∧ Sat w (own g (.cells cur T (0, 0)) * R)) := by
  obtain ⟨x, ⟨a, b, d, rfl, ⟨p0, p⟩, q⟩, kk⟩ := h
  refine ⟨p0, ?_⟩
  rcases p with ⟨h1, h2, rfl⟩ | ⟨g, cap, cur, h1, h2, h3, h4, h5, rfl⟩
  · exact .inl ⟨h1, h2, b, q, kk⟩
  · exact .inr ⟨g, cap, cur, h1, h2, h3, h4, h5, _, ⟨_, b, d, rfl, rfl, q⟩, kk⟩
theorem rowK_shut {w : World} {T : TypeId} {k n : Nat} {xs : List Value} {R : Assn} {g cap : Nat} {cur : Array Value} (h1 : xs.length = n * k) (h2 : n ≤ cap) (h3 : cap ≤ maxLen) (h4 : cur.size = cap * k) (h5 : cur.toList.take (n * k) = xs)
    (h : Sat w (own g (.cells cur T (0, 0)) * R)) : Sat w (rowK T k (.slice (some ⟨g, 0, none⟩) n cap) n xs * R) :=
  h.mono fun _ e => ⟨h1, .inr ⟨g, cap, cur, rfl, h2, h3, h4, h5, e⟩⟩
theorem rowK_nil {w : World} {T : TypeId} {k : Nat} {R : Assn} (h : Sat w R) : Sat w (rowK T k (.slice none 0 0) 0 [] * R) := by
  obtain ⟨x, q, kk⟩ := h
  exact ⟨x, ⟨Part.none, x, Part.apart_none _, rfl, ⟨by simp, .inl ⟨rfl, rfl, rfl⟩⟩, q⟩, kk⟩
theorem rowK_cell {w : World} {g k n : Nat} {cur : Array Value} {T : TypeId} {xs : List Value} {R : Assn} (h : Sat w (own g (.cells cur T (0, 0)) * R)) (h0 : xs.length = n * k) (h5 : cur.toList.take (n * k) = xs) :
    ∀ j u, xs[j]? = some u → w.cell? ⟨g, j, none⟩ = some u := row_cell h (by rw [h0]; exact h5)
theorem rowAt_rowK (T : TypeId) (v : Value) (xs : List Value) : rowAt T v xs = rowK T 1 v xs.length xs := Assn.ext fun h => by
  constructor
  · rintro (⟨h1, rfl, h3⟩ | ⟨g, cap, cur, h1, h2, h3, h4, h5, h6⟩)
    · exact ⟨by simp, .inl ⟨h1, rfl, h3⟩⟩
    · exact ⟨by simp, .inr ⟨g, cap, cur, h1, h2, h3, by simpa using h4, by simpa using h5, h6⟩⟩
  · rintro ⟨h0, (⟨h1, h2, h3⟩ | ⟨g, cap, cur, h1, h2, h3, h4, h5, h6⟩)⟩
    · exact .inl ⟨h1, List.length_eq_zero_iff.1 h2, h3⟩
    · exact .inr ⟨g, cap, cur, h1, h2, h3, by simpa using h4, by simpa using h5, h6⟩
theorem rowK_owns {w : World} {T : TypeId} {k n : Nat} {v : Value} {xs : List Value} {R : Assn} (h : Sat w (rowK T k v n xs * R)) : w.ownsRow 0 T k v n xs := by
  obtain ⟨h0, (⟨h1, h2, _⟩ | ⟨g, cap, cur, h1, h2, h3, h4, h5, h6⟩)⟩ := rowK_open h
  · exact ⟨h0, .inl ⟨h1, h2⟩⟩
  · exact ⟨h0, .inr ⟨g, cap, cur, h1, Nat.zero_le _, h6.block, h2, h3, h4, h5⟩⟩

/-- Blocks told of lie below the heap's end. -/
theorem Sat.rest {w w' : World} {P : Assn} {r : Option Nat} (h : Sat w P) (hr : ∀ x, P x → ∀ i, (x i).isSome → some i ≠ r) (hb : ∀ i, i < w.heap.size → some i ≠ r → w'.heap[i]? = w.heap[i]?) : Sat w' P := by
  obtain ⟨x, p, k⟩ := h
  refine ⟨x, p, fun i o e => ?_⟩
  have h1 := k i o e
  have hlt : i < w.heap.size := by
    rcases Nat.lt_or_ge i w.heap.size with h' | h'
    · exact h'
    · simp [Array.getElem?_eq_none h'] at h1
  rw [hb i hlt (hr x p i (by simp [e]))]; exact h1
/-- What append leaves of a row of one's own. -/
theorem rowK_appended {w w' : World} {P : Assn} {T : TypeId} {k n n' : Nat} {v v' : Value} {xs xs' : List Value} (h : Sat w (rowK T k v n xs * P)) (ho : w'.ownsRow 0 T k v' n' xs') (hg : w.grownBy w' v.ownBlock)
    (hw : v'.ownBlock = v.ownBlock ∨ v'.ownBlock = some w.heap.size) : Sat w' (rowK T k v' n' xs' * P) := by
  obtain ⟨x, ⟨a, b, d, rfl, ⟨p0, p⟩, q⟩, kk⟩ := h
  have hlt : ∀ i y, (Part.join a b) i = some y → i < w.heap.size := fun i y e => by
    have h1 := kk i y e
    rcases Nat.lt_or_ge i w.heap.size with h' | h'
    · exact h'
    · simp [Array.getElem?_eq_none h'] at h1
  -- the rest is apart from the row's block, old and new
  have hbl : ∀ i y, b i = some y → i < w.heap.size ∧ some i ≠ v.ownBlock ∧ w.heap[i]? = some y := by
    intro i y e
    have hj : (Part.join a b) i = some y := by
      rcases d i with h1 | h1
      · simp [Part.join, h1, e]
      · rw [h1] at e; cases e
    refine ⟨hlt i y hj, ?_, kk i y hj⟩
    rcases p with ⟨rfl, _, rfl⟩ | ⟨g, cap, cur, rfl, _, _, _, _, rfl⟩
    · simp [Value.ownBlock]
    · intro e2
      simp only [Value.ownBlock, Option.some.injEq] at e2
      subst e2
      rcases d i with h1 | h1
      · simp [Part.one] at h1
      · rw [h1] at e; cases e
  have hb' : ∀ i y, b i = some y → w'.heap[i]? = some y := fun i y e => by
    obtain ⟨h1, h2, h3⟩ := hbl i y e
    rw [hg.block i h1 h2]; exact h3
  rcases ho.2 with ⟨rfl, rfl⟩ | ⟨g, cap, cur, rfl, _, hh, hn, hm, hc, ht⟩
  · exact ⟨b, ⟨Part.none, b, Part.apart_none _, rfl, ⟨ho.1, .inl ⟨rfl, rfl, rfl⟩⟩, q⟩, hb'⟩
  · have hgb : b g = none := by
      cases hx : b g with
      | none => rfl
      | some y =>
        obtain ⟨h1, h2, _⟩ := hbl g y hx
        rcases hw with e | e
        · simp only [Value.ownBlock] at e; exact absurd e h2
        · simp only [Value.ownBlock, Option.some.injEq] at e; omega
    have hd : Part.apart (Part.one g (.cells cur T (0, 0))) b := fun i => by
      by_cases e : i = g
      · right; rw [e]; exact hgb
      · left; simp [Part.one, e]
    refine ⟨Part.join (Part.one g (.cells cur T (0, 0))) b, ⟨_, b, hd, rfl, ⟨ho.1, .inr ⟨g, cap, cur, rfl, hn, hm, hc, ht, rfl⟩⟩, q⟩, fun i y e => ?_⟩
    simp only [Part.join, Part.one] at e
    by_cases hi : i = g
    · subst hi; simp at e; subst e; exact hh
    · simp [hi] at e
      exact hb' i y e
theorem Kept.grown {a w w' : World} {r : Option Nat} (h : Kept a w) (hg : w.grownBy w' r) : Kept a w' := ⟨hg.os.trans h.os, hg.tape.trans h.tape, hg.output.trans h.output⟩
end Go.Proofs.Ytnhmeepifockgaa
