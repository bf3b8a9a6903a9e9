/- Maps from numbers as lists of their entries: any store, any deletion, how many there are. No program in sight. -/
import Derived.Test.YtaflaaiomlijbaaMapU
set_option linter.all false
namespace Go.Proofs.Ytaflaaiomlijbaa
open Go Go.RowKit

def updL : List (Int × Value) → Int → Value → List (Int × Value)
  | [], x, v => [(x, v)]
  | y :: l, x, v => if y.1 = x then (x, v) :: l else y :: updL l x v
def delL : List (Int × Value) → Int → List (Int × Value)
  | [], _ => []
  | y :: l, x => if y.1 = x then l else y :: delL l x
theorem look_cons {y : Int × Value} {l : List (Int × Value)} {x : Int} : look (y :: l) x = if y.1 = x then some y.2 else look l x := by
  unfold look
  rw [List.find?_cons]
  by_cases h : y.1 = x
  · rw [if_pos h]; simp [h]
  · rw [if_neg h]
    have : (y.1 == x) = false := by simpa using h
    rw [this]
theorem look_updL {l : List (Int × Value)} {x y : Int} {v : Value} : look (updL l x v) y = if x = y then some v else look l y := by
  induction l with
  | nil => simp only [updL]; rw [look_cons]
  | cons z l ih =>
    simp only [updL]
    split
    · rename_i h
      rw [look_cons, look_cons]
      by_cases e : x = y
      · rw [if_pos e, if_pos e]
      · rw [if_neg e, if_neg e, if_neg (by omega)]
    · rename_i h
      rw [look_cons, look_cons, ih]
      by_cases e : x = y
      · rw [if_pos e, if_neg (by omega), if_pos e]
      · rw [if_neg e, if_neg e]
theorem updL_len {l : List (Int × Value)} {x : Int} {v : Value} : (updL l x v).length = l.length + if (look l x).isSome then 0 else 1 := by
  induction l with
  | nil => rfl
  | cons z l ih =>
    simp only [updL]
    rw [look_cons]
    split
    · simp
    · rw [List.length_cons, ih, List.length_cons]; omega
/-- Every key once. -/
def Keys1 (l : List (Int × Value)) : Prop := (l.map (·.1)).Nodup
theorem look_in {l : List (Int × Value)} {x : Int} {v : Value} (h : look l x = some v) : (x, v) ∈ l := by
  induction l with
  | nil => cases h
  | cons z l ih =>
    rw [look_cons] at h
    split at h
    · rename_i e; cases h; subst e; exact List.mem_cons_self
    · exact List.mem_cons_of_mem _ (ih h)
theorem look_of_mem {l : List (Int × Value)} (hk : Keys1 l) {x : Int} {v : Value} (h : (x, v) ∈ l) : look l x = some v := by
  induction l with
  | nil => cases h
  | cons z l ih =>
    rw [look_cons]
    simp only [Keys1, List.map_cons, List.nodup_cons] at hk
    cases h with
    | head => rw [if_pos rfl]
    | tail _ h =>
      rw [if_neg, ih hk.2 h]
      intro e
      exact hk.1 (List.mem_map.2 ⟨(x, v), h, e.symm⟩)
theorem look_none_iff {l : List (Int × Value)} {x : Int} : look l x = none ↔ x ∉ l.map (·.1) := by
  induction l with
  | nil => simp [look]
  | cons z l ih =>
    rw [look_cons, List.map_cons, List.mem_cons]
    by_cases e : z.1 = x
    · rw [if_pos e]; simp [e]
    · rw [if_neg e, ih]
      simp only [not_or]
      exact ⟨fun h => ⟨fun e' => e e'.symm, h⟩, fun h => h.2⟩
theorem look_delL {l : List (Int × Value)} (hk : Keys1 l) {x y : Int} : look (delL l x) y = if x = y then none else look l y := by
  induction l with
  | nil => simp [delL, look]
  | cons z l ih =>
    simp only [Keys1, List.map_cons, List.nodup_cons] at hk
    simp only [delL]
    split
    · rename_i h
      rw [look_cons]
      by_cases e : x = y
      · rw [if_pos e, look_none_iff]
        rw [← e, ← h]
        exact hk.1
      · rw [if_neg e, if_neg (by omega)]
    · rename_i h
      rw [look_cons, look_cons, ih hk.2]
      by_cases e : x = y
      · rw [if_pos e, if_neg (by omega), if_pos e]
      · rw [if_neg e, if_neg e]
theorem delL_len {l : List (Int × Value)} {x : Int} : (delL l x).length = l.length - if (look l x).isSome then 1 else 0 := by
  induction l with
  | nil => rfl
  | cons z l ih =>
    simp only [delL]
    rw [look_cons]
    split
    · simp
    · rename_i h
      rw [List.length_cons, ih, List.length_cons]
      split
      · rename_i hs
        have : 0 < l.length := by
          cases l with
          | nil => cases hs
          | cons _ _ => simp
        omega
      · omega
theorem updL_keys {l : List (Int × Value)} {x : Int} {v : Value} : ∀ y, y ∈ (updL l x v).map (·.1) → y = x ∨ y ∈ l.map (·.1) := by
  induction l with
  | nil => intro y hy; simp [updL] at hy; exact .inl hy
  | cons z l ih =>
    intro y hy
    simp only [updL] at hy
    split at hy
    · rw [List.map_cons, List.mem_cons] at hy
      rcases hy with h | h
      · exact .inl h
      · exact .inr (by rw [List.map_cons]; exact List.mem_cons_of_mem _ h)
    · rw [List.map_cons, List.mem_cons] at hy
      rcases hy with h | h
      · exact .inr (by rw [List.map_cons, h]; exact List.mem_cons_self)
      · rcases ih y h with h | h
        · exact .inl h
        · exact .inr (by rw [List.map_cons]; exact List.mem_cons_of_mem _ h)
theorem updL_keys1 {l : List (Int × Value)} {x : Int} {v : Value} (hk : Keys1 l) : Keys1 (updL l x v) := by
  induction l with
  | nil => simp [updL, Keys1]
  | cons z l ih =>
    have hk' := hk
    simp only [Keys1, List.map_cons, List.nodup_cons] at hk
    simp only [updL]
    split
    · rename_i h
      simp only [Keys1, List.map_cons, List.nodup_cons]
      exact ⟨by rw [← h]; exact hk.1, hk.2⟩
    · rename_i h
      simp only [Keys1, List.map_cons, List.nodup_cons]
      refine ⟨fun hm => ?_, ih hk.2⟩
      rcases updL_keys _ hm with e | e
      · exact h e
      · exact hk.1 e
theorem delL_sub {l : List (Int × Value)} {x : Int} : (delL l x).Sublist l := by
  induction l with
  | nil => exact List.Sublist.refl _
  | cons z l ih =>
    simp only [delL]
    split
    · exact List.sublist_cons_self ..
    · exact ih.cons_cons _
theorem delL_keys1 {l : List (Int × Value)} {x : Int} (hk : Keys1 l) : Keys1 (delL l x) := List.Nodup.sublist (delL_sub.map _) hk

/-- The entries, in their order; of what kind the keys are is told. -/
def MapK (kd : IntKind) (es : Array MapEntry) (clock : Nat) (l : List (Int × Value)) : Prop :=
  es.toList.map (fun e => (e.key, e.val)) = l.map (fun x => (Value.int kd x.1, x.2)) ∧ MapKept.Stamped es clock
theorem mapK_keys1 {kd : IntKind} {es : Array MapEntry} {clock : Nat} {l : List (Int × Value)} (h : MapK kd es clock l) : Keys1 l := by
  have h1 : es.toList.map (·.key) = l.map (fun x => Value.int kd x.1) := by
    have := congrArg (List.map (·.1)) h.1
    rw [List.map_map, List.map_map] at this
    exact this
  have h2 : (es.toList.map (·.key)).Nodup := by
    have := ((MapKept.stamped_iff es clock).1 h.2).2.2
    rw [List.Nodup, List.pairwise_map]
    exact this
  rw [h1] at h2
  unfold Keys1
  have h3 : l.map (fun x => Value.int kd x.1) = (l.map (·.1)).map (Value.int kd) := by rw [List.map_map]; rfl
  rw [h3] at h2
  exact (List.pairwise_map.1 h2).imp fun hne e => hne (by rw [e])
theorem findK {kd : IntKind} {x : Int} : ∀ (es : List MapEntry) (l : List (Int × Value)) (i : Nat), es.map (fun e => (e.key, e.val)) = l.map (fun x => (Value.int kd x.1, x.2)) →
    (Instr.findNow (.int kd) (.int kd x) es i = some none ∧ look l x = none ∧ (∀ v, updL l x v = l ++ [(x, v)]) ∧ delL l x = l) ∨
    ∃ j e, Instr.findNow (.int kd) (.int kd x) es i = some (some (i + j, e.val)) ∧ es[j]? = some e ∧ e.key = .int kd x ∧ look l x = some e.val ∧ (∀ v, updL l x v = l.set j (x, v)) ∧ delL l x = l.eraseIdx j
  | [], [], i, _ => .inl ⟨rfl, rfl, fun _ => rfl, rfl⟩
  | e :: es, y :: l, i, h => by
    simp only [List.map_cons, List.cons.injEq, Prod.mk.injEq] at h
    obtain ⟨⟨h1, h2⟩, h3⟩ := h
    by_cases hx : y.1 = x
    · refine .inr ⟨0, e, ?_, rfl, by rw [h1, hx], by rw [look_cons, if_pos hx, h2], fun v => by simp only [updL]; rw [if_pos hx]; rfl, by simp only [delL]; rw [if_pos hx]; rfl⟩
      unfold Instr.findNow
      rw [h1, hx]
      simp [Instr.sameNow]
    · have e1 : (x == y.1) = false := by simpa using fun h => hx h.symm
      have hs : Instr.findNow (.int kd) (.int kd x) (e :: es) i = Instr.findNow (.int kd) (.int kd x) es (i + 1) := by
        conv => lhs; unfold Instr.findNow
        rw [h1]
        simp [Instr.sameNow, e1]
      rcases findK es l (i + 1) h3 with ⟨a1, a2, a3, a4⟩ | ⟨j, e', a1, a2, a3, a4, a5, a6⟩
      · refine .inl ⟨by rw [hs, a1], by rw [look_cons, if_neg hx, a2], fun v => by simp only [updL]; rw [if_neg hx, a3 v]; rfl, by simp only [delL]; rw [if_neg hx, a4]⟩
      · refine .inr ⟨j + 1, e', by rw [hs, a1, show i + 1 + j = i + (j + 1) by omega], by simpa using a2, a3, by rw [look_cons, if_neg hx, a4], fun v => by simp only [updL]; rw [if_neg hx, a5 v]; rfl, by simp only [delL]; rw [if_neg hx, a6]; rfl⟩
  | [], _ :: _, _, h => by simp at h
  | _ :: _, [], _, h => by simp at h
def kdOf (u : Bool) : IntKind := match u with
  | true => .u64
  | false => .i64
/-- A map as memory has it. -/
def mapG (u : Bool) (b : Nat) (l : List (Int × Value)) : Assn := bif u then mapUAt b l else mapAt b l
theorem mapG_open {u : Bool} {w : World} {b : Nat} {l : List (Int × Value)} {R : Assn} (h : Sat w (mapG u b l * R)) : ∃ es clock, MapK (kdOf u) es clock l ∧ Sat w (own b (.map es clock) * R) := by
  cases u
  · exact mapAt_open h
  · exact mapUAt_open h
theorem mapG_shut {u : Bool} {w : World} {b : Nat} {l : List (Int × Value)} {R : Assn} {es : Array MapEntry} {clock : Nat} (hl : MapK (kdOf u) es clock l) (h : Sat w (own b (.map es clock) * R)) : Sat w (mapG u b l * R) := by
  cases u
  · exact mapAt_shut hl h
  · exact mapUAt_shut hl h
theorem map_setI {α : Type} (l : List α) {β : Type} (f : α → β) (j : Nat) (a : α) : (l.set j a).map f = (l.map f).set j (f a) := by
  apply List.ext_getElem?
  intro i
  simp only [List.getElem?_map, List.getElem?_set, List.length_map]
  by_cases h : j = i
  · rw [if_pos h, if_pos h]; split <;> rfl
  · rw [if_neg h, if_neg h]
theorem map_modify {α β : Type} (f : α → β) (g : α → α) : ∀ (l : List α) (j : Nat) (a : α), l[j]? = some a → (l.modify j g).map f = (l.map f).set j (f (g a))
  | [], j, a, h => by simp at h
  | x :: l, 0, a, h => by
    simp only [List.getElem?_cons_zero, Option.some.injEq] at h
    subst h
    simp [List.modify]
  | x :: l, j + 1, a, h => by
    simp only [List.getElem?_cons_succ] at h
    have := map_modify f g l j a h
    simp only [List.modify_succ_cons, List.map_cons, List.set_cons_succ]
    rw [this]
theorem map_eraseIdx {α β : Type} (f : α → β) : ∀ (l : List α) (j : Nat), (l.eraseIdx j).map f = (l.map f).eraseIdx j
  | [], _ => rfl
  | x :: l, 0 => rfl
  | x :: l, j + 1 => by simp only [List.eraseIdx_cons_succ, List.map_cons]; rw [map_eraseIdx f l j]
theorem isKeyI (kd : IntKind) (x : Int) : MapKept.IsKey (.int kd) (.int kd x) := rfl
/-- A store into a map. -/
theorem mapG_update {P : Program} {u : Bool} {w w0 : World} {b : Nat} {l : List (Int × Value)} {R : Assn} {t k e : TypeId} (H : Sat w (mapG u b l * R)) (HK : Kept w0 w) (ht : P.underlying t = some (.map k e)) (hk : P.underlying k = some (.int (kdOf u))) (x : Int) (v : Value) :
    ∃ w', (Instr.mapUpdate t (.map (some b)) (.int (kdOf u) x) v).run P w = .ok () w' ∧ Sat w' (mapG u b (updL l x v) * R) ∧ Kept w0 w' := by
  obtain ⟨es, clock, hl, h5⟩ := mapG_open H
  have hb := h5.block
  rcases findK (x := x) es.toList l 0 hl.1 with ⟨a1, a2, a3, a4⟩ | ⟨j, e', a1, a2, a3, a4, a5, a6⟩
  · refine ⟨{ w with heap := w.heap.setIfInBounds b (.map (es.push { key := .int (kdOf u) x, val := v, born := clock }) (clock + 1)) }, ?_, ?_, ⟨HK.os, HK.tape, HK.output⟩⟩
    · simp [Instr.mapUpdate, run_underlying ht, MapKept.run_getObj_map hb, MapKept.run_checkKey hk (isKeyI _ x), MapKept.run_findKey hk a1, MapKept.run_setObj_map _ hb, Result.andThen]
    · rw [a3 v]
      refine mapG_shut ⟨?_, ?_⟩ (h5.upd (MapKept.heap_set hb).1 fun i hi _ => (MapKept.heap_set hb).2 i hi)
      · simp [hl.1]
      · refine MapKept.stamped_push hl.2 fun y hy e2 => ?_
        have h6 : (y.key, y.val) ∈ l.map (fun x => (Value.int (kdOf u) x.1, x.2)) := by rw [← hl.1]; exact List.mem_map.2 ⟨y, hy, rfl⟩
        obtain ⟨z, hz, e1⟩ := List.mem_map.1 h6
        simp only [Prod.mk.injEq] at e1
        rw [e2] at e1
        have e3 : z.1 = x := by have := e1.1; simpa using this
        exact look_none_iff.1 a2 (List.mem_map.2 ⟨z, hz, e3⟩)
  · rw [Nat.zero_add] at a1
    have hj : es[j]? = some e' := by rw [← Array.getElem?_toList]; exact a2
    refine ⟨{ w with heap := w.heap.setIfInBounds b (.map (es.modify j fun e => { e with key := .int (kdOf u) x, val := v }) clock) }, ?_, ?_, ⟨HK.os, HK.tape, HK.output⟩⟩
    · simp [Instr.mapUpdate, run_underlying ht, MapKept.run_getObj_map hb, MapKept.run_checkKey hk (isKeyI _ x), MapKept.run_findKey hk a1, hj, a3, MapKept.run_keyThatStays (isKeyI (kdOf u) x), MapKept.run_setObj_map _ hb, Result.andThen]
    · rw [a5 v]
      refine mapG_shut ⟨?_, ?_⟩ (h5.upd (MapKept.heap_set hb).1 fun i hi _ => (MapKept.heap_set hb).2 i hi)
      · rw [Array.toList_modify, map_modify _ _ _ _ _ a2, hl.1, map_setI]
      · exact MapKept.stamped_modify hl.2 _ _ (fun _ _ => rfl) fun e _ he => by rw [hj] at he; cases he; exact a3.symm
/-- A deletion. -/
theorem mapG_delete {P : Program} {u : Bool} {w w0 : World} {b : Nat} {l : List (Int × Value)} {R : Assn} {t k k' e ty : TypeId} (H : Sat w (mapG u b l * R)) (HK : Kept w0 w) (ht : P.underlying t = some (.map k e)) (hk : P.underlying k = some (.int (kdOf u))) (x : Int) :
    ∃ w', (Builtin.delete_ #[t, k'] ty #[.map (some b), .int (kdOf u) x]).run P w = .ok (.tuple #[]) w' ∧ Sat w' (mapG u b (delL l x) * R) ∧ Kept w0 w' := by
  obtain ⟨es, clock, hl, h5⟩ := mapG_open H
  have hb := h5.block
  rcases findK (x := x) es.toList l 0 hl.1 with ⟨a1, a2, a3, a4⟩ | ⟨j, e', a1, a2, a3, a4, a5, a6⟩
  · refine ⟨{ w with heap := w.heap.setIfInBounds b (.map es clock) }, ?_, ?_, ⟨HK.os, HK.tape, HK.output⟩⟩
    · simp [Builtin.delete_, run_underlying ht, MapKept.run_getObj_map hb, MapKept.run_checkKey hk (isKeyI _ x), MapKept.run_findKey hk a1, MapKept.run_setObj_map _ hb, Result.andThen]
    · rw [a4]
      exact mapG_shut hl (h5.upd (MapKept.heap_set hb).1 fun i hi _ => (MapKept.heap_set hb).2 i hi)
  · rw [Nat.zero_add] at a1
    have hj : es[j]? = some e' := by rw [← Array.getElem?_toList]; exact a2
    have hlt : j < es.size := by
      rcases Nat.lt_or_ge j es.size with h | h
      · exact h
      · rw [Array.getElem?_eq_none h] at hj; cases hj
    refine ⟨{ w with heap := w.heap.setIfInBounds b (.map (es.eraseIdxIfInBounds j) clock) }, ?_, ?_, ⟨HK.os, HK.tape, HK.output⟩⟩
    · simp [Builtin.delete_, run_underlying ht, MapKept.run_getObj_map hb, MapKept.run_checkKey hk (isKeyI _ x), MapKept.run_findKey hk a1, MapKept.run_setObj_map _ hb, Result.andThen]
    · rw [a6]
      refine mapG_shut ⟨?_, MapKept.stamped_erase hl.2 _⟩ (h5.upd (MapKept.heap_set hb).1 fun i hi _ => (MapKept.heap_set hb).2 i hi)
      rw [Array.eraseIdxIfInBounds, dif_pos hlt, Array.toList_eraseIdx, map_eraseIdx, hl.1, map_eraseIdx]
theorem mapG_nil {u : Bool} {w : World} {R : Assn} (H : Sat w R) : Sat (w.alloc (.map #[] 0)) (mapG u w.heap.size [] * R) :=
  mapG_shut ⟨rfl, MapKept.stamped_empty 0⟩ (H.alloc _)
end Go.Proofs.Ytaflaaiomlijbaa
