/- Copies of maps and of rows of numbers; the keys of a map, sorted. -/
import Derived.Test.YtnfpkadepomjjaaLays
import Derived.Test.YtnfpkadepomjjaaArenaA
import Derived.Test.YtnfpkadepomjjaaBaseMap
set_option linter.all false
namespace Go.Proofs.Ytnfpkadepomjjaa
open Go Go.RowKit Go.Maps Go.Sort Go.Shelf

theorem maps_clone (b : Nat) (l : List (Int × Value)) (w : World) {R : Assn} (H : Sat w (mapAt b l * R)) : Calls Try.prog 204 #[.map (some b)] w fun e w' => ∃ c, e = .returned (.map (some c)) ∧ Sat w' (mapAt c l * (mapAt b l * R)) ∧ Below w.heap.size w w' := by
  obtain ⟨es, clock, hl, h⟩ := mapAt_open H
  refine (AnyW.maps_Clone mapsClone b es clock w h.block).mono ?_
  rintro e w' ⟨rfl, rfl⟩
  exact ⟨_, rfl, mapAt_shut hl ((H.alloc (.map es clock))), (Below.refl _ w).alloc (Nat.le_refl _) _⟩
theorem info_int : (Try.prog.info? 3).map (fun i => (i.zero, i.size, i.bytes)) = some (some (.int .i64 0), 1, 8) := by kernel_rfl

theorem clone_row (v : Value) (l : List Nat) (w : World) {R : Assn} (h : Sat w (rowAt 3 v (intv l) * R)) (hl2 : l.length ≤ 70000) :
    Calls Try.prog 203 #[v] w fun e w' => ∃ v', e = .returned v' ∧ Sat w' (rowAt 3 v' (intv l) * (rowAt 3 v (intv l) * R)) ∧ Below w.heap.size w w' := by
  obtain ⟨i0, hi, hz0, hz1, hz2⟩ := info_parts info_int
  have hrow := rowAt_open h
  rcases hrow with ⟨rfl, h2, h3⟩ | ⟨g, cap, cur, rfl, h2, h3, h4, h5, h6⟩
  · have hne := fun (w : World) => Lib.run_eql_slice_nil (P := Try.prog) w 294 3 none 0 0 0 0 Try.underlying294
    have HH := Lib.hid h
    rw [h2] at HH ⊢
    clear h h3
    go_enter Try.func203, Try.ntmps203
    go_wp2
    go_ret
    exact ⟨_, rfl, rowAt_nil HH.out, Below.refl _ _⟩
  · have hlen : (intv l).length = l.length := by simp [intv]
    have hcells := row_cell h6 h5
    have hg := h6.lt
    have hne := fun (w : World) => Lib.run_eql_slice_nil (P := Try.prog) w 294 3 (some ⟨g, 0, none⟩) (intv l).length cap 0 0 Try.underlying294
    have Hc := Lib.hid hcells
    have Hlen := Lib.hid hlen
    have H3 := Lib.hid h3
    clear h5 h6 hcells h3 h4 hlen
    generalize (intv l).length = m at *
    go_enter Try.func203, Try.ntmps203
    go_wp2_with (at_builtin; refine wpList_append_own _ rfl _ _ 294 rfl w.heap.size 3 i0 (.int .i64 0) 1 8 Try.underlying294 hi hz0 hz1 hz2 rfl (by decide) _ 0 [] rfl (World.ownsRow_lit w #[] 0 (Nat.le_refl _) (by unfold maxLen; omega) rfl) ⟨g, 0, none⟩ m cap (intv l) rfl (by rw [Hlen.out]; simp [intv]) ?c1 ?c2 ?c3 ?c4 ?c5 ?_)
    case c1 =>
      intro j u hj
      have e : ((⟨g, 0, none⟩ : Addr).add j) = ⟨g, j, none⟩ := by (by_cases h0 : j = 0) <;> simp [Addr.add, h0]
      rw [e, World.cell?_alloc_past _ _ _ hg]; exact Hc.out j u hj
    case c2 => intro u hu; simp [intv] at hu; obtain ⟨_, _, rfl⟩ := hu; rfl
    case c3 => have := Hlen.out; unfold maxLen; omega
    case c4 => have := Hlen.out; omega
    case c5 => simp
    intro v' w1 hown' hgrow _
    have hb1 : Below w.heap.size w w1 := (((Below.refl _ _).alloc (Nat.le_refl _) (.cells #[] 3)).grown hgrow (by simp) (fun k hk => by cases hk; exact Nat.le_refl _))
    go_wp2
    go_ret
    exact ⟨_, rfl, rowAt_made h hb1 hown', hb1⟩

/-- The keys of a map as the kit's datum. -/
theorem keys_own {w : World} {b : Nat} {es : Array MapEntry} {clock : Nat} {l : List (Int × Value)} (hb : w.heap[b]? = some (.map es clock)) (hl : MapL es clock l) (hn : l.length ≤ 70000) (hr : ∀ x ∈ l, 0 ≤ x.1 ∧ x.1 ≤ 1000000) :
    ∃ D : DataW Unit, w.ownsMap Try.prog 3 (fun _ => some (.nil, [])) b l.length D ∧ (intKeys D).Perm (l.map (·.1)) ∧ Maps.size D = l.length := by
  have hsz : es.size = l.length := by
    have := congrArg List.length hl.1
    simpa using this
  have hrd : ∀ x ∈ es.toList, ∃ k : Int, x.key = .int .i64 k ∧ WideElems.rd Try.prog 3 (fun _ => some ((.nil : DataW Unit), [])) x = some (.int .i64 k, .nil) := by
    intro x hx
    obtain ⟨y, hy, ek, ev⟩ := mapL_keys hl hx
    have h1 := hr y hy
    refine ⟨y.1, ek, ?_⟩
    unfold WideElems.rd
    rw [ek, Maps.keyOf_int_mk (q := .i64) Try.underlying3 (by simp only [Lit.wf, Bool.and_eq_true, decide_eq_true_eq, show IntKind.i64.min = -9223372036854775808 from rfl, show IntKind.i64.max = 9223372036854775807 from rfl]; omega)]
    rfl
  refine ⟨_, ⟨es, clock, hb, ⟨by rw [hsz]; unfold maxLen; omega, hl.2, fun x hx => by obtain ⟨k, _, h⟩ := hrd x hx; exact ⟨_, h⟩⟩, Nat.le_of_eq hsz, rfl⟩, ?_, ?_⟩
  · show ((es.toList.map (WideElems.rg Try.prog 3 (fun _ => some ((.nil : DataW Unit), [])))).foldr DataW.insert [] |>.map fun p => Go.intOf p.1).Perm _
    refine ((WideShapes.sorted_perm _).map _).trans ?_
    rw [List.map_map, mapL_ents hl, List.map_map]
    refine List.Perm.of_eq (List.map_congr_left fun x hx => ?_)
    obtain ⟨k, ek, h⟩ := hrd x hx
    simp only [Function.comp, WideElems.rg, h, Option.getD_some, Go.intOf, entOf, ek]
  · show ((es.toList.map _).foldr DataW.insert []).length = _
    rw [length_sorted, List.length_map, Array.length_toList, hsz]
/-- slices.Sorted(maps.Keys(m)), at the box that maps.Keys has laid. -/
theorem sorted_keys (b : Nat) (l : List (Int × Value)) (w : World) {R : Assn} (H : Sat w (mapAt b l * R)) (hn : l.length ≤ 70000) (hr : ∀ x ∈ l, 0 ≤ x.1 ∧ x.1 ≤ 1000000) (n : Nat) (hn5 : 5 ≤ n) (ks : List Int) (hks : ks = (l.map (·.1)).mergeSort leI) :
    CallsIn Fence.wide n Try.prog 193 #[.func (.func 221) #[] #[.pointer (some ⟨w.heap.size, 0, none⟩)]] (w.alloc (.cells #[.map (some b)] 171)) fun e w' =>
      ∃ v, e = .returned v ∧ Sat w' (rowAt 3 v (ks.map fun x => .int .i64 x) * (mapAt b l * R)) ∧ Below w.heap.size w w' := by
  obtain ⟨es, clock, hl, h⟩ := mapAt_open H
  obtain ⟨D, hown, hp, hsz⟩ := keys_own h.block hl hn hr
  refine CallsIn.mono (sorted_of b _ D _ w hown (by rw [hsz]; unfold maxLen; omega) (by rw [hsz]; omega) n hn5) ?_
  rintro e w' ⟨v, ss, rfl, hS, hrow, hb⟩
  have hb' : Below w.heap.size w w' := ((Below.refl _ w).alloc (Nat.le_refl _) _).trans (hb.mono (by simp))
  have e1 : ss.mergeSort leI = ks := by rw [hks]; exact mergeSort_of_perm_i (hS.trans hp)
  refine ⟨v, rfl, ?_, hb'⟩
  have h2 : Sat (w.alloc (.cells #[.map (some b)] 171)) (mapAt b l * R) := H.below ((Below.refl _ w).alloc (Nat.le_refl _) _)
  refine rowAt_made h2 hb (n := ss.length) ?_
  rw [← e1]
  exact hrow
end Go.Proofs.Ytnfpkadepomjjaa
