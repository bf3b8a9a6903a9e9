/- A range over a map of int keys: what has come, what is left; told in assertions. No program in sight. -/
import Derived.Maps.RangeWalk
import Derived.Test.YtaflaaiomlijbaaMaps
set_option linter.all false
namespace Go.Proofs.Ytaflaaiomlijbaa
open Go Go.RowKit

/-- An entry as a number and a value. -/
def entOf (e : MapEntry) : Int × Value := (match e.key with | .int _ x => x | _ => 0, e.val)
theorem mapL_ents {es : Array MapEntry} {clock : Nat} {l : List (Int × Value)} (h : MapL es clock l) : l = es.toList.map entOf := by
  have h1 := congrArg (List.map fun p : Value × Value => ((match p.1 with | .int _ x => x | _ => 0 : Int), p.2)) h.1
  simp only [List.map_map] at h1
  have e1 : (List.map ((fun p : Value × Value => ((match p.1 with | .int _ x => x | _ => 0 : Int), p.2)) ∘ fun x : Int × Value => (Value.int .i64 x.1, x.2)) l) = l := by
    rw [show ((fun p : Value × Value => ((match p.1 with | .int _ x => x | _ => 0 : Int), p.2)) ∘ fun x : Int × Value => (Value.int .i64 x.1, x.2)) = id from rfl, List.map_id]
  rw [e1] at h1
  exact h1.symm
/-- What a range under way looks like in memory. -/
structure Ranging (es : Array MapEntry) (clock since c0 : Nat) (dn : List MapEntry) (l done : List (Int × Value)) : Prop where
  map : MapL es clock l
  elder : ∀ x ∈ es.toList, x.born < since
  s0 : since ≤ c0
  sc : since ≤ clock
  nodup : dn.Nodup
  sub : ∀ x ∈ dn, x ∈ es.toList
  done : done = dn.map entOf
def rangingAt (r b : Nat) (l done : List (Int × Value)) : Assn := Assn.ex fun p : Array MapEntry × Nat × Nat × Nat × List MapEntry =>
  Assn.pure (Ranging p.1 p.2.1 p.2.2.1 p.2.2.2.1 p.2.2.2.2 l done) * (own b (.map p.1 p.2.1) * own r (.mapIter (some b) p.2.2.1 (p.2.2.2.2.map (·.born)).toArray p.2.2.2.1))
theorem rangingAt_open {w : World} {r b : Nat} {l done : List (Int × Value)} {R : Assn} (h : Sat w (rangingAt r b l done * R)) : ∃ es clock since c0 dn, Ranging es clock since c0 dn l done ∧
    Sat w (own b (.map es clock) * (own r (.mapIter (some b) since (dn.map (·.born)).toArray c0) * R)) := by
  obtain ⟨⟨es, clock, since, c0, dn⟩, h⟩ := h.ex_mul
  rw [Assn.mul_assoc] at h
  obtain ⟨hi, h⟩ := h.pure_mul
  exact ⟨es, clock, since, c0, dn, hi, h.cast (by simp only [Assn.mul_assoc])⟩
theorem rangingAt_shut {w : World} {r b : Nat} {l done : List (Int × Value)} {R : Assn} {es : Array MapEntry} {clock since c0 : Nat} {dn : List MapEntry} (hi : Ranging es clock since c0 dn l done)
    (h : Sat w (own b (.map es clock) * (own r (.mapIter (some b) since (dn.map (·.born)).toArray c0) * R))) : Sat w (rangingAt r b l done * R) := by
  refine Sat.mk_ex_mul (es, clock, since, c0, dn) ?_
  rw [Assn.mul_assoc]
  exact Sat.mk_pure_mul hi (h.cast (by simp only [Assn.mul_assoc]))
/-- At its end a range leaves the map as it was. -/
theorem rangingAt_map {w : World} {r b : Nat} {l done : List (Int × Value)} {R : Assn} (h : Sat w (rangingAt r b l done * R)) : Sat w (mapAt b l * R) := by
  obtain ⟨es, clock, since, c0, dn, hi, h⟩ := rangingAt_open h
  refine mapAt_shut hi.map ?_
  exact (h.cast (Q := own r (.mapIter (some b) since (dn.map (·.born)).toArray c0) * (own b (.map es clock) * R)) (by ac_rfl)).right
theorem run_range {P : Program} {w : World} {b : Nat} {l : List (Int × Value)} {R : Assn} {t k e : TypeId} (ht : P.underlying t = some (.map k e)) (h : Sat w (mapAt b l * R)) :
    ∃ w', (Instr.range t (.map (some b))).run P w = .ok (.pointer (some ⟨w.heap.size, 0, none⟩)) w' ∧ Sat w' (rangingAt w.heap.size b l [] * R) ∧ Kept w w' ∧ Below w.heap.size w w' := by
  obtain ⟨es, clock, hl, h⟩ := mapAt_open h
  refine ⟨_, run_range_map w t k e b es clock ht h.block, ?_, (Kept.refl w).alloc _, (Below.refl _ w).alloc (Nat.le_refl _) _⟩
  refine rangingAt_shut (since := clock) (c0 := clock) (dn := []) ⟨hl, hl.2.1, Nat.le_refl _, Nat.le_refl _, List.nodup_nil, by simp, rfl⟩ ?_
  exact (h.alloc _).swap
theorem length_le_of_sub {α : Type} : ∀ (l m : List α), l.Nodup → (∀ x ∈ l, x ∈ m) → l.length ≤ m.length
  | [], _, _, _ => Nat.zero_le _
  | a :: l, m, hn, hs => by
    obtain ⟨m1, m2, rfl⟩ := List.append_of_mem (hs a (by simp))
    have := length_le_of_sub l (m1 ++ m2) (List.nodup_cons.1 hn).2 fun x hx => by
      have h1 := hs x (by simp [hx])
      have h2 : x ≠ a := fun e => (List.nodup_cons.1 hn).1 (e ▸ hx)
      simp only [List.mem_append, List.mem_cons] at h1 ⊢
      rcases h1 with h1 | h1 | h1
      · exact .inl h1
      · exact absurd h1 h2
      · exact .inr h1
    simp only [List.length_append, List.length_cons] at this ⊢
    omega
theorem born_inj_of {es : Array MapEntry} {clock : Nat} (h : MapKept.Stamped es clock) {x y : MapEntry} (hx : x ∈ es.toList) (hy : y ∈ es.toList) (e : x.born = y.born) : x = y :=
  born_inj ((MapKept.stamped_iff es clock).1 h).2.1 hx hy e
/-- The step: nothing is left, or one entry comes. -/
theorem run_next {P : Program} {w : World} {r b : Nat} {l done : List (Int × Value)} {R : Assn} (ty : TypeId) (h : Sat w (rangingAt r b l done * R)) :
    ((Instr.next (.pointer (some ⟨r, 0, none⟩)) false ty).run P w = .ok (.tuple #[.bool false]) w ∧ done.Perm l) ∨
    ∃ x v w', (Instr.next (.pointer (some ⟨r, 0, none⟩)) false ty).run P w = .ok (.tuple #[.bool true, .int .i64 x, v]) w' ∧ (x, v) ∈ l ∧ Sat w' (rangingAt r b l (done ++ [(x, v)]) * R) ∧ Kept w w' ∧ w'.heap.size = w.heap.size ∧ done.length < l.length ∧
      (Instr.entry (.pointer (some ⟨r, 0, none⟩))).run P w' = .ok (.tuple #[.int .i64 x, v]) w' := by
  obtain ⟨es, clock, since, c0, dn, hi, h⟩ := rangingAt_open h
  have hst := hi.map.2
  have hndb : (es.toList.map (·.born)).Nodup := ((MapKept.stamped_iff es clock).1 hst).2.1
  have hnd : es.toList.Nodup := List.Pairwise.of_map _ (fun a b (h : a.born ≠ b.born) e => h (congrArg MapEntry.born e)) hndb
  have hseen : ∀ x ∈ es.toList, (((dn.map (·.born)).toArray).contains x.born = true ↔ x ∈ dn) := by
    intro x hx
    simp only [List.contains_toArray, List.contains_iff_mem, List.mem_map]
    constructor
    · rintro ⟨y, hy, e⟩
      rw [← born_inj_of hst (hi.sub y hy) hx e]; exact hy
    · intro hx'; exact ⟨x, hx', rfl⟩
  rcases run_next_at (P := P) w ty r b since c0 (dn.map (·.born)).toArray es clock h.swap.block h.block hi.elder hi.s0 with ⟨h0, hrun⟩ | ⟨e, he, w1, hal, hrun⟩
  · refine .inl ⟨hrun, ?_⟩
    rw [hi.done, mapL_ents hi.map]
    refine List.Perm.map _ ((List.perm_ext_iff_of_nodup hi.nodup hnd).2 fun x => ⟨hi.sub x, fun hx => ?_⟩)
    refine (hseen x hx).1 ?_
    cases hc : ((dn.map (·.born)).toArray).contains x.born with
    | true => rfl
    | false =>
      have : x ∈ (leftOf es (dn.map (·.born)).toArray) := by
        unfold leftOf
        rw [Array.mem_filter]
        exact ⟨by simpa using hx, by simp only [hc, Bool.not_false]⟩
      rw [Array.eq_empty_of_size_eq_zero h0] at this
      simp at this
  · right
    have he' : e ∈ leftOf es (dn.map (·.born)).toArray := by simpa using he
    unfold leftOf at he'
    rw [Array.mem_filter] at he'
    have hem : e ∈ es.toList := by simpa using he'.1
    have hns : ((dn.map (·.born)).toArray).contains e.born = false := by simpa using he'.2
    have hnd' : e ∉ dn := fun hx => by rw [(hseen e hem).2 hx] at hns; cases hns
    obtain ⟨y, hy, ek, ev⟩ := mapL_keys hi.map hem
    have hs1 : Sat w1 (own b (.map es clock) * (own r (.mapIter (some b) since (dn.map (·.born)).toArray c0) * R)) := by rcases hal with rfl | rfl; exact h; exact h.drew
    have hk1 : Kept w w1 := by rcases hal with rfl | rfl; exact Kept.refl _; exact (Kept.refl w).drew
    have hz1 : w1.heap.size = w.heap.size := by rcases hal with rfl | rfl <;> rfl
    have hpush : ((dn.map (·.born)).toArray).push e.born = ((dn ++ [e]).map (·.born)).toArray := by simp
    have hset : (ChangeMaps.setBlock w1 r (.mapIter (some b) since (((dn.map (·.born)).toArray).push e.born) clock)).heap[r]? = some (.mapIter (some b) since (((dn.map (·.born)).toArray).push e.born) clock) ∧ ∀ i, i ≠ r → (ChangeMaps.setBlock w1 r (.mapIter (some b) since (((dn.map (·.born)).toArray).push e.born) clock)).heap[i]? = w1.heap[i]? := MapKept.heap_set hs1.swap.block
    have hs2 := hs1.swap.upd (o' := .mapIter (some b) since (((dn.map (·.born)).toArray).push e.born) clock) (w' := ChangeMaps.setBlock w1 r (.mapIter (some b) since (((dn.map (·.born)).toArray).push e.born) clock)) hset.1 (fun i hi _ => hset.2 i hi)
    refine ⟨y.1, y.2, ChangeMaps.setBlock w1 r (.mapIter (some b) since (((dn.map (·.born)).toArray).push e.born) clock), ?_, ?_, ?_, hk1.trans ⟨rfl, rfl, rfl⟩, by simp [ChangeMaps.setBlock, hz1], ?_, ?_⟩
    · rw [hrun, ek, ev]
    · exact hy
    · refine rangingAt_shut (since := since) (c0 := clock) (dn := dn ++ [e]) ⟨hi.map, hi.elder, hi.sc, hi.sc, ?_, ?_, ?_⟩ ?_
      · rw [List.nodup_append]
        refine ⟨hi.nodup, by simp, ?_⟩
        intro a ha b hb e'
        simp only [List.mem_singleton] at hb
        subst hb; subst e'; exact hnd' ha
      · intro x hx
        rcases List.mem_append.1 hx with hx | hx
        · exact hi.sub x hx
        · simp only [List.mem_singleton] at hx; subst hx; exact hem
      · rw [hi.done, List.map_append]
        congr 1
        simp only [List.map_cons, List.map_nil, entOf, ek, ev]
      · rw [← hpush]; exact hs2.swap
    · rw [hi.done, mapL_ents hi.map, List.length_map, List.length_map]
      have := length_le_of_sub (e :: dn) es.toList (List.nodup_cons.2 ⟨hnd', hi.nodup⟩) (fun x hx => by rcases List.mem_cons.1 hx with rfl | hx; exact hem; exact hi.sub x hx)
      simp only [List.length_cons] at this
      omega
    · have := run_entry_at (P := P) _ r b since (dn.map (·.born)).toArray es clock e hset.1 (hs2.swap.block) hem hndb
      rw [ek, ev] at this
      exact this

/-- A range that has just told an entry. -/
def ranging1At (r b : Nat) (l done : List (Int × Value)) : Assn := Assn.ex fun p : Array MapEntry × Nat × Nat × List MapEntry =>
  Assn.pure (Ranging p.1 p.2.1 p.2.2.1 p.2.1 p.2.2.2 l done) * (own b (.map p.1 p.2.1) * own r (.mapIter (some b) p.2.2.1 (p.2.2.2.map (·.born)).toArray p.2.1))
theorem ranging1At_open {w : World} {r b : Nat} {l done : List (Int × Value)} {R : Assn} (h : Sat w (ranging1At r b l done * R)) : ∃ es clock since dn, Ranging es clock since clock dn l done ∧
    Sat w (own b (.map es clock) * (own r (.mapIter (some b) since (dn.map (·.born)).toArray clock) * R)) := by
  obtain ⟨⟨es, clock, since, dn⟩, h⟩ := h.ex_mul
  rw [Assn.mul_assoc] at h
  obtain ⟨hi, h⟩ := h.pure_mul
  exact ⟨es, clock, since, dn, hi, h.cast (by simp only [Assn.mul_assoc])⟩
theorem ranging1At_shut {w : World} {r b : Nat} {l done : List (Int × Value)} {R : Assn} {es : Array MapEntry} {clock since : Nat} {dn : List MapEntry} (hi : Ranging es clock since clock dn l done)
    (h : Sat w (own b (.map es clock) * (own r (.mapIter (some b) since (dn.map (·.born)).toArray clock) * R))) : Sat w (ranging1At r b l done * R) := by
  refine Sat.mk_ex_mul (es, clock, since, dn) ?_
  rw [Assn.mul_assoc]
  exact Sat.mk_pure_mul hi (h.cast (by simp only [Assn.mul_assoc]))
theorem ranging1At_weak {w : World} {r b : Nat} {l done : List (Int × Value)} {R : Assn} (h : Sat w (ranging1At r b l done * R)) : Sat w (rangingAt r b l done * R) := by
  obtain ⟨es, clock, since, dn, hi, h⟩ := ranging1At_open h
  exact rangingAt_shut hi h
theorem run_next1 {P : Program} {w : World} {r b : Nat} {l done : List (Int × Value)} {R : Assn} (ty : TypeId) (h : Sat w (rangingAt r b l done * R)) :
    ((Instr.next (.pointer (some ⟨r, 0, none⟩)) false ty).run P w = .ok (.tuple #[.bool false]) w ∧ done.Perm l) ∨
    ∃ x v w', (Instr.next (.pointer (some ⟨r, 0, none⟩)) false ty).run P w = .ok (.tuple #[.bool true, .int .i64 x, v]) w' ∧ (x, v) ∈ l ∧ Sat w' (ranging1At r b l (done ++ [(x, v)]) * R) ∧ Kept w w' ∧ w'.heap.size = w.heap.size ∧ done.length < l.length ∧
      (Instr.entry (.pointer (some ⟨r, 0, none⟩))).run P w' = .ok (.tuple #[.int .i64 x, v]) w' := by
  obtain ⟨es, clock, since, c0, dn, hi, h⟩ := rangingAt_open h
  have hst := hi.map.2
  have hndb : (es.toList.map (·.born)).Nodup := ((MapKept.stamped_iff es clock).1 hst).2.1
  have hnd : es.toList.Nodup := List.Pairwise.of_map _ (fun a b (h : a.born ≠ b.born) e => h (congrArg MapEntry.born e)) hndb
  have hseen : ∀ x ∈ es.toList, (((dn.map (·.born)).toArray).contains x.born = true ↔ x ∈ dn) := by
    intro x hx
    simp only [List.contains_toArray, List.contains_iff_mem, List.mem_map]
    constructor
    · rintro ⟨y, hy, e⟩
      rw [← born_inj_of hst (hi.sub y hy) hx e]; exact hy
    · intro hx'; exact ⟨x, hx', rfl⟩
  rcases run_next_at (P := P) w ty r b since c0 (dn.map (·.born)).toArray es clock h.swap.block h.block hi.elder hi.s0 with ⟨h0, hrun⟩ | ⟨e, he, w1, hal, hrun⟩
  · refine .inl ⟨hrun, ?_⟩
    rw [hi.done, mapL_ents hi.map]
    refine List.Perm.map _ ((List.perm_ext_iff_of_nodup hi.nodup hnd).2 fun x => ⟨hi.sub x, fun hx => ?_⟩)
    refine (hseen x hx).1 ?_
    cases hc : ((dn.map (·.born)).toArray).contains x.born with
    | true => rfl
    | false =>
      have : x ∈ (leftOf es (dn.map (·.born)).toArray) := by
        unfold leftOf
        rw [Array.mem_filter]
        exact ⟨by simpa using hx, by simp only [hc, Bool.not_false]⟩
      rw [Array.eq_empty_of_size_eq_zero h0] at this
      simp at this
  · right
    have he' : e ∈ leftOf es (dn.map (·.born)).toArray := by simpa using he
    unfold leftOf at he'
    rw [Array.mem_filter] at he'
    have hem : e ∈ es.toList := by simpa using he'.1
    have hns : ((dn.map (·.born)).toArray).contains e.born = false := by simpa using he'.2
    have hnd' : e ∉ dn := fun hx => by rw [(hseen e hem).2 hx] at hns; cases hns
    obtain ⟨y, hy, ek, ev⟩ := mapL_keys hi.map hem
    have hs1 : Sat w1 (own b (.map es clock) * (own r (.mapIter (some b) since (dn.map (·.born)).toArray c0) * R)) := by rcases hal with rfl | rfl; exact h; exact h.drew
    have hk1 : Kept w w1 := by rcases hal with rfl | rfl; exact Kept.refl _; exact (Kept.refl w).drew
    have hz1 : w1.heap.size = w.heap.size := by rcases hal with rfl | rfl <;> rfl
    have hpush : ((dn.map (·.born)).toArray).push e.born = ((dn ++ [e]).map (·.born)).toArray := by simp
    have hset : (ChangeMaps.setBlock w1 r (.mapIter (some b) since (((dn.map (·.born)).toArray).push e.born) clock)).heap[r]? = some (.mapIter (some b) since (((dn.map (·.born)).toArray).push e.born) clock) ∧ ∀ i, i ≠ r → (ChangeMaps.setBlock w1 r (.mapIter (some b) since (((dn.map (·.born)).toArray).push e.born) clock)).heap[i]? = w1.heap[i]? := MapKept.heap_set hs1.swap.block
    have hs2 := hs1.swap.upd (o' := .mapIter (some b) since (((dn.map (·.born)).toArray).push e.born) clock) (w' := ChangeMaps.setBlock w1 r (.mapIter (some b) since (((dn.map (·.born)).toArray).push e.born) clock)) hset.1 (fun i hi _ => hset.2 i hi)
    refine ⟨y.1, y.2, ChangeMaps.setBlock w1 r (.mapIter (some b) since (((dn.map (·.born)).toArray).push e.born) clock), ?_, ?_, ?_, hk1.trans ⟨rfl, rfl, rfl⟩, by simp [ChangeMaps.setBlock, hz1], ?_, ?_⟩
    · rw [hrun, ek, ev]
    · exact hy
    · refine ranging1At_shut (since := since) (dn := dn ++ [e]) ⟨hi.map, hi.elder, hi.sc, hi.sc, ?_, ?_, ?_⟩ ?_
      · rw [List.nodup_append]
        refine ⟨hi.nodup, by simp, ?_⟩
        intro a ha b hb e'
        simp only [List.mem_singleton] at hb
        subst hb; subst e'; exact hnd' ha
      · intro x hx
        rcases List.mem_append.1 hx with hx | hx
        · exact hi.sub x hx
        · simp only [List.mem_singleton] at hx; subst hx; exact hem
      · rw [hi.done, List.map_append]
        congr 1
        simp only [List.map_cons, List.map_nil, entOf, ek, ev]
      · rw [← hpush]; exact hs2.swap
    · rw [hi.done, mapL_ents hi.map, List.length_map, List.length_map]
      have := length_le_of_sub (e :: dn) es.toList (List.nodup_cons.2 ⟨hnd', hi.nodup⟩) (fun x hx => by rcases List.mem_cons.1 hx with rfl | hx; exact hem; exact hi.sub x hx)
      simp only [List.length_cons] at this
      omega
    · have := run_entry_at (P := P) _ r b since (dn.map (·.born)).toArray es clock e hset.1 (hs2.swap.block) hem hndb
      rw [ek, ev] at this
      exact this

/-- The entry that came last. -/
theorem entry_last {P : Program} {w : World} {r b : Nat} {l done : List (Int × Value)} {x : Int} {v : Value} {R : Assn} (h : Sat w (ranging1At r b l (done ++ [(x, v)]) * R)) :
    (Instr.entry (.pointer (some ⟨r, 0, none⟩))).run P w = .ok (.tuple #[.int .i64 x, v]) w := by
  obtain ⟨es, clock, since, dn, hi, h⟩ := ranging1At_open h
  have hd := hi.done
  have hl : dn ≠ [] := fun e => by rw [e] at hd; simp at hd
  obtain ⟨dn', e, rfl⟩ : ∃ dn' e, dn = dn' ++ [e] := ⟨dn.dropLast, dn.getLast hl, (List.dropLast_concat_getLast hl).symm⟩
  rw [List.map_append, List.map_cons, List.map_nil] at hd
  have hd2 := (List.append_inj' hd rfl).2
  simp only [List.cons.injEq, and_true] at hd2
  have hem : e ∈ es.toList := hi.sub e (by simp)
  obtain ⟨y, hy, ek, ev⟩ := mapL_keys hi.map hem
  have hndb : (es.toList.map (·.born)).Nodup := ((MapKept.stamped_iff es clock).1 hi.map.2).2.1
  have hpush : ((dn'.map (·.born)).toArray).push e.born = ((dn' ++ [e]).map (·.born)).toArray := by simp
  have hr := h.swap.block
  rw [← hpush] at hr
  have := run_entry_at (P := P) w r b since (dn'.map (·.born)).toArray es clock e hr h.block hem hndb
  rw [this]
  have he : entOf e = (y.1, y.2) := by unfold entOf; rw [ek, ev]
  rw [he] at hd2
  simp only [Prod.mk.injEq] at hd2
  rw [ek, ev, hd2.1, hd2.2]
/-- No key comes twice. -/
theorem ranging_once {w : World} {r b : Nat} {l done : List (Int × Value)} {R : Assn} (h : Sat w (rangingAt r b l done * R)) : (done.map (·.1)).Nodup := by
  obtain ⟨es, clock, since, c0, dn, hi, h⟩ := rangingAt_open h
  have h3 := ((MapKept.stamped_iff es clock).1 hi.map.2).2.2
  rw [hi.done, List.map_map]
  have hinj : ∀ x ∈ dn, ∀ y ∈ dn, (entOf x).1 = (entOf y).1 → x = y := by
    intro x hx y hy e
    obtain ⟨x', _, ex, _⟩ := mapL_keys hi.map (hi.sub x hx)
    obtain ⟨y', _, ey, _⟩ := mapL_keys hi.map (hi.sub y hy)
    simp only [entOf, ex, ey] at e
    exact entry_eq_of_key h3 (hi.sub x hx) (hi.sub y hy) (by rw [ex, ey, e])
  have hn := hi.nodup
  generalize dn = l1 at hinj hn
  induction l1 with
  | nil => exact List.nodup_nil
  | cons a t ih =>
    rw [List.map_cons, List.nodup_cons]
    refine ⟨fun hm => ?_, ih (fun x hx y hy => hinj x (by simp [hx]) y (by simp [hy])) (List.nodup_cons.1 hn).2⟩
    obtain ⟨y, hy, e⟩ := List.mem_map.1 hm
    have := hinj y (by simp [hy]) a (by simp) e
    exact (List.nodup_cons.1 hn).1 (this ▸ hy)
/-- How many are left, read off memory. -/
def rLeft (w : World) (b r : Nat) : Nat := match w.heap[b]?, w.heap[r]? with
  | some (.map es _), some (.mapIter _ _ seen _) => es.size - seen.size
  | _, _ => 0
theorem rLeft_eq {w : World} {r b : Nat} {l done : List (Int × Value)} {R : Assn} (h : Sat w (rangingAt r b l done * R)) : rLeft w b r = l.length - done.length := by
  obtain ⟨es, clock, since, c0, dn, hi, h⟩ := rangingAt_open h
  unfold rLeft
  rw [h.block, h.swap.block, hi.done, mapL_ents hi.map]
  simp

section
variable {P : Program} (w : World) {ops : Array Oper} {rest : List Oper} {o : Oper} {a : Act} {Q : Exit → Act → World → Prop}
theorem wpList_range_at (hg : o.guard = none) (m : Operand) (t k e : TypeId) (hop : o.op = Op.range t m) (ht : P.underlying t = some (.map k e)) (b : Nat) (l : List (Int × Value)) {R : Assn} (hm : a.eval m = .map (some b)) (h : Sat w (mapAt b l * R))
    (hK : ∀ w', Sat w' (rangingAt w.heap.size b l [] * R) → Kept w w' → Below w.heap.size w w' → wpList P ops Q rest (a.put o.dst (.pointer (some ⟨w.heap.size, 0, none⟩))) w') : wpList P ops Q (o :: rest) a w := by
  refine wpList_plain hg fun K' hK' => ?_
  obtain ⟨w', hrun, r1, r2, r3⟩ := run_range ht h
  unfold Oper.wp
  simp [execOp, hop, hm, hrun, Result.andThen]
  exact hK' _ _ (hK w' r1 r2 r3)
theorem wpList_next_at (hg : o.guard = none) (it : Operand) (hop : o.op = Op.next it false) (r b : Nat) (l done : List (Int × Value)) {R : Assn} (hit : a.eval it = .pointer (some ⟨r, 0, none⟩)) (h : Sat w (rangingAt r b l done * R))
    (hDone : done.Perm l → wpList P ops Q rest (a.put o.dst (.tuple #[.bool false])) w)
    (hMore : ∀ x v w', (x, v) ∈ l → Sat w' (rangingAt r b l (done ++ [(x, v)]) * R) → Kept w w' → w'.heap.size = w.heap.size → done.length < l.length → (Instr.entry (.pointer (some ⟨r, 0, none⟩))).run P w' = .ok (.tuple #[.int .i64 x, v]) w' →
      wpList P ops Q rest (a.put o.dst (.tuple #[.bool true, .int .i64 x, v])) w') : wpList P ops Q (o :: rest) a w := by
  refine wpList_plain hg fun K' hK' => ?_
  unfold Oper.wp
  rcases run_next (P := P) o.type h with ⟨hrun, hp⟩ | ⟨x, v, w', hrun, hm, hs, hk, hz, hlt, hen⟩
  · simp [execOp, hop, hit, hrun, Result.andThen]
    exact hK' _ _ (hDone hp)
  · simp [execOp, hop, hit, hrun, Result.andThen]
    exact hK' _ _ (hMore x v w' hm hs hk hz hlt hen)
end
end Go.Proofs.Ytaflaaiomlijbaa
