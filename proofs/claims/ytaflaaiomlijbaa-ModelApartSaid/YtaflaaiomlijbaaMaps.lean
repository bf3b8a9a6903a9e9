/- Maps from int to whatever, as lists of their entries: look-up, store, deletion. No program in sight. -/
import Derived.Maps.OwnOps
import Derived.Test.YtaflaaiomlijbaaSep
set_option linter.all false
namespace Go.Proofs.Ytaflaaiomlijbaa
open Go Go.RowKit

/-- The entries, in their order, as numbers and values. -/
def MapL (es : Array MapEntry) (clock : Nat) (l : List (Int × Value)) : Prop :=
  es.toList.map (fun e => (e.key, e.val)) = l.map (fun x => (Value.int .i64 x.1, x.2)) ∧ MapKept.Stamped es clock
def look (l : List (Int × Value)) (x : Int) : Option Value := (l.find? fun y => y.1 == x).map (·.2)

theorem findNow_int {x : Int} : ∀ (es : List MapEntry) (l : List (Int × Value)) (i : Nat), es.map (fun e => (e.key, e.val)) = l.map (fun x => (Value.int .i64 x.1, x.2)) →
    ∃ r, Instr.findNow (.int .i64) (.int .i64 x) es i = some r ∧ r.map (·.2) = look l x
  | [], [], i, _ => ⟨none, rfl, rfl⟩
  | e :: es, y :: l, i, h => by
    simp only [List.map_cons, List.cons.injEq, Prod.mk.injEq] at h
    obtain ⟨⟨h1, h2⟩, h3⟩ := h
    obtain ⟨r, hr, hl⟩ := findNow_int (x := x) es l (i + 1) h3
    unfold Instr.findNow
    rw [h1]
    by_cases hx : x = y.1
    · subst hx
      exact ⟨some (i, e.val), by simp [Instr.sameNow], by simp [look, h2]⟩
    · have e1 : (x == y.1) = false := by simpa using hx
      have e2 : (y.1 == x) = false := by simpa using fun h => hx h.symm
      exact ⟨r, by simp [Instr.sameNow, e1, hr], by rw [hl]; simp [look, List.find?_cons, e2]⟩
  | [], _ :: _, _, h => by simp at h
  | _ :: _, [], _, h => by simp at h

theorem lookup_ok {P : Program} {w : World} {b : Nat} {es : Array MapEntry} {clock : Nat} {l : List (Int × Value)} {t k e : TypeId} {z : Value}
    (hb : w.heap[b]? = some (.map es clock)) (hl : MapL es clock l) (ht : P.underlying t = some (.map k e)) (hk : P.underlying k = some (.int .i64)) (hz : (zeroValue e).run P w = .ok z w) (x : Int) :
    (Instr.lookup t (.map (some b)) (.int .i64 x) true).run P w = .ok (.tuple #[(look l x).getD z, .bool (look l x).isSome]) w := by
  obtain ⟨r, hr, hlk⟩ := findNow_int (x := x) es.toList l 0 hl.1
  rw [← hlk]
  cases r with
  | none => simp [Instr.lookup, run_underlying ht, MapKept.run_getObj_map hb, MapKept.run_checkKey hk (show MapKept.IsKey (.int .i64) (.int .i64 x) from rfl), MapKept.run_findKey hk hr, hz, Result.andThen]
  | some y => simp [Instr.lookup, run_underlying ht, MapKept.run_getObj_map hb, MapKept.run_checkKey hk (show MapKept.IsKey (.int .i64) (.int .i64 x) from rfl), MapKept.run_findKey hk hr, Result.andThen]
theorem lookup_bare {P : Program} {w : World} {b : Nat} {es : Array MapEntry} {clock : Nat} {l : List (Int × Value)} {t k e : TypeId} {z : Value}
    (hb : w.heap[b]? = some (.map es clock)) (hl : MapL es clock l) (ht : P.underlying t = some (.map k e)) (hk : P.underlying k = some (.int .i64)) (hz : (zeroValue e).run P w = .ok z w) (x : Int) :
    (Instr.lookup t (.map (some b)) (.int .i64 x) false).run P w = .ok ((look l x).getD z) w := by
  obtain ⟨r, hr, hlk⟩ := findNow_int (x := x) es.toList l 0 hl.1
  rw [← hlk]
  cases r with
  | none => simp [Instr.lookup, run_underlying ht, MapKept.run_getObj_map hb, MapKept.run_checkKey hk (show MapKept.IsKey (.int .i64) (.int .i64 x) from rfl), MapKept.run_findKey hk hr, hz, Result.andThen]
  | some y => simp [Instr.lookup, run_underlying ht, MapKept.run_getObj_map hb, MapKept.run_checkKey hk (show MapKept.IsKey (.int .i64) (.int .i64 x) from rfl), MapKept.run_findKey hk hr, Result.andThen]

theorem look_none {l : List (Int × Value)} {x : Int} (h : look l x = none) : ∀ y ∈ l, y.1 ≠ x := by
  intro y hy e
  simp only [look, Option.map_eq_none_iff, List.find?_eq_none] at h
  exact h y hy (by simpa using e)
theorem mapL_keys {es : Array MapEntry} {clock : Nat} {l : List (Int × Value)} (h : MapL es clock l) {x : MapEntry} (hx : x ∈ es.toList) : ∃ y ∈ l, x.key = .int .i64 y.1 ∧ x.val = y.2 := by
  have : (x.key, x.val) ∈ l.map (fun x => (Value.int .i64 x.1, x.2)) := by rw [← h.1]; exact List.mem_map.2 ⟨x, hx, rfl⟩
  obtain ⟨y, hy, e⟩ := List.mem_map.1 this
  simp only [Prod.mk.injEq] at e
  exact ⟨y, hy, e.1.symm, e.2.symm⟩

/-- A store of a key that was not there: one entry more, behind the others. -/
theorem update_new {P : Program} {w : World} {b : Nat} {es : Array MapEntry} {clock : Nat} {l : List (Int × Value)} {t k e : TypeId}
    (hb : w.heap[b]? = some (.map es clock)) (hl : MapL es clock l) (ht : P.underlying t = some (.map k e)) (hk : P.underlying k = some (.int .i64)) (x : Int) (v : Value) (hn : look l x = none) :
    ∃ w' es' clock', (Instr.mapUpdate t (.map (some b)) (.int .i64 x) v).run P w = .ok () w' ∧ MapL es' clock' (l ++ [(x, v)]) ∧ w'.heap[b]? = some (.map es' clock') ∧ (∀ i, i ≠ b → w'.heap[i]? = w.heap[i]?) ∧ Kept w w' ∧ w.heap.size = w'.heap.size := by
  obtain ⟨r, hr, hlk⟩ := findNow_int (x := x) es.toList l 0 hl.1
  rw [hn] at hlk
  cases r with
  | some y => simp at hlk
  | none =>
    refine ⟨{ w with heap := w.heap.setIfInBounds b (.map (es.push { key := .int .i64 x, val := v, born := clock }) (clock + 1)) }, es.push { key := .int .i64 x, val := v, born := clock }, clock + 1, ?_, ⟨?_, ?_⟩, (MapKept.heap_set hb).1, fun i hi => (MapKept.heap_set hb).2 i hi, ⟨rfl, rfl, rfl⟩, by simp⟩
    · simp [Instr.mapUpdate, run_underlying ht, MapKept.run_getObj_map hb, MapKept.run_checkKey hk (show MapKept.IsKey (.int .i64) (.int .i64 x) from rfl), MapKept.run_findKey hk hr, MapKept.run_setObj_map _ hb, Result.andThen]
    · simp [hl.1]
    · refine MapKept.stamped_push hl.2 fun y hy => ?_
      obtain ⟨z, hz, e1, _⟩ := mapL_keys hl hy
      rw [e1]
      intro e2
      simp at e2
      exact look_none hn z hz e2

/-- The block b is a map of these entries. -/
def mapAt (b : Nat) (l : List (Int × Value)) : Assn := Assn.ex fun p : Array MapEntry × Nat => Assn.pure (MapL p.1 p.2 l) * own b (.map p.1 p.2)
theorem mapAt_open {w : World} {b : Nat} {l : List (Int × Value)} {R : Assn} (h : Sat w (mapAt b l * R)) : ∃ es clock, MapL es clock l ∧ Sat w (own b (.map es clock) * R) := by
  obtain ⟨⟨es, clock⟩, h⟩ := h.ex_mul
  rw [Assn.mul_assoc] at h
  obtain ⟨hl, h⟩ := h.pure_mul
  exact ⟨es, clock, hl, h⟩
theorem mapAt_shut {w : World} {b : Nat} {l : List (Int × Value)} {R : Assn} {es : Array MapEntry} {clock : Nat} (hl : MapL es clock l) (h : Sat w (own b (.map es clock) * R)) : Sat w (mapAt b l * R) := by
  refine Sat.mk_ex_mul (es, clock) ?_
  rw [Assn.mul_assoc]
  exact Sat.mk_pure_mul hl h
theorem mapL_nil : MapL #[] 0 [] := ⟨rfl, MapKept.stamped_empty 0⟩
end Go.Proofs.Ytaflaaiomlijbaa
