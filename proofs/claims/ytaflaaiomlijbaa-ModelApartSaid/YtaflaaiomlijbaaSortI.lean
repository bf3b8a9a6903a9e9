/- The keys of a map from int to int, sorted: a row of known numbers. -/
import Derived.Test.YtaflaaiomlijbaaMdlE
set_option linter.all false
namespace Go.Proofs.Ytaflaaiomlijbaa
open Go Go.Shelf Go.RowKit Go.Maps Go.Sort
def keysI_ren : Go.Shelf.Ren := ⟨fun | 7 => 105 | 10 => 115 | n => n, fun | 23 => 143 | 26 => 3 | 3 => 3 | 28 => 196 | 0 => 0 | 27 => 195 | 33 => 206 | 4 => 4 | n => n, fun | n => n⟩
theorem keysI : Go.Proofs.SlLaysZI.n7 Try.prog keysI_ren where
  mixed := by kernel_rfl
  f7 := ⟨Try.f105.name, by decide, Try.func105.trans (congrArg some (by kernel_rfl))⟩
  f10 := ⟨Try.f115.name, by decide, Try.func115.trans (congrArg some (by kernel_rfl))⟩
  t0 := Try.underlying0
  a0 := Try.isAgg0
  z0 := Try.sizeOf0
  v0 := Try.zeroValue0
  t4 := Try.underlying4
  a4 := Try.isAgg4
  z4 := Try.sizeOf4
  v4 := Try.zeroValue4
  t23 := Try.underlying143
  a23 := Try.isAgg143
  z23 := Try.sizeOf143
  v23 := Try.zeroValue143
  t26 := Try.underlying3
  a26 := Try.isAgg3
  z26 := Try.sizeOf3
  v26 := Try.zeroValue3
  t27 := Try.underlying195
  a27 := Try.isAgg195
  z27 := Try.sizeOf195
  v27 := Try.zeroValue195
  t28 := Try.underlying196
  a28 := Try.isAgg196
  z28 := Try.sizeOf196
  v28 := Try.zeroValue196
  t33 := Try.underlying206
  a33 := Try.isAgg206
  z33 := Try.sizeOf206
  v33 := Try.zeroValue206
theorem keys_ownI {w : World} {b : Nat} {es : Array MapEntry} {clock : Nat} {l : List (Int × Value)} (hb : w.heap[b]? = some (.map es clock)) (hl : MapL es clock l) (hn : l.length ≤ 70000) (hr : ∀ x ∈ l, 0 ≤ x.1 ∧ x.1 ≤ 1000000) :
    ∃ D : DataW Unit, w.ownsMap Try.prog 3 (fun _ => some (.nil, [])) b l.length D ∧ (intKeys D).Perm (l.map (·.1)) ∧ Maps.size D = l.length := by
  have hsz : es.size = l.length := by
    have := congrArg List.length hl.1
    simpa using this
  have hrd : ∀ x ∈ es.toList, ∃ k : Int, x.key = .int .i64 k ∧ WideElems.rd Try.prog 3 (fun _ => some ((.nil : DataW Unit), [])) x = some (.int .i64 k, .nil) := by
    intro x hx
    obtain ⟨y, hy, ek, ev⟩ := mapL_keys hl hx
    have h1 := hr y hy
    refine ⟨y.1, ek, ?_⟩
    unfold WideElems.rd
    rw [ek, Maps.keyOf_int_mk (q := .i64) Try.underlying3 (by simp only [Lit.wf, Bool.and_eq_true, decide_eq_true_eq, show IntKind.i64.min = -9223372036854775808 from rfl, show IntKind.i64.max = 9223372036854775807 from rfl]; omega)]
    rfl
  refine ⟨_, ⟨es, clock, hb, ⟨by rw [hsz]; unfold maxLen; omega, hl.2, fun x hx => by obtain ⟨k, _, h⟩ := hrd x hx; exact ⟨_, h⟩⟩, Nat.le_of_eq hsz, rfl⟩, ?_, ?_⟩
  · show ((es.toList.map (WideElems.rg Try.prog 3 (fun _ => some ((.nil : DataW Unit), [])))).foldr DataW.insert [] |>.map fun p => Go.intOf p.1).Perm _
    refine ((WideShapes.sorted_perm _).map _).trans ?_
    rw [List.map_map, mapL_ents hl, List.map_map]
    refine List.Perm.of_eq (List.map_congr_left fun x hx => ?_)
    obtain ⟨k, ek, h⟩ := hrd x hx
    simp only [Function.comp, WideElems.rg, h, Option.getD_some, Go.intOf, entOf, ek]
  · show ((es.toList.map _).foldr DataW.insert []).length = _
    rw [length_sorted, List.length_map, Array.length_toList, hsz]
def insI (x : Int) : List Int → List Int
  | [] => [x]
  | y :: l => if x ≤ y then x :: y :: l else y :: insI x l
def sortI : List Int → List Int
  | [] => []
  | x :: l => insI x (sortI l)
theorem insI_perm (x : Int) : ∀ l, (insI x l).Perm (x :: l)
  | [] => .refl _
  | y :: l => by
    simp only [insI]
    split
    · exact .refl _
    · exact ((insI_perm x l).cons y).trans (.swap x y l)
theorem sortI_perm : ∀ l, (sortI l).Perm l
  | [] => .refl _
  | x :: l => (insI_perm x _).trans ((sortI_perm l).cons x)
theorem insI_sorted (x : Int) : ∀ l, l.Pairwise (fun a b => a ≤ b) → (insI x l).Pairwise (fun a b => a ≤ b)
  | [], _ => List.pairwise_singleton _ _
  | y :: l, h => by
    simp only [insI]
    rw [List.pairwise_cons] at h
    split
    · rename_i hxy
      rw [List.pairwise_cons]
      refine ⟨fun a ha => ?_, List.pairwise_cons.2 h⟩
      rcases List.mem_cons.1 ha with rfl | ha
      · exact hxy
      · exact Int.le_trans hxy (h.1 a ha)
    · rename_i hxy
      rw [List.pairwise_cons]
      refine ⟨fun a ha => ?_, insI_sorted x l h.2⟩
      rcases List.mem_cons.1 ((insI_perm x l).mem_iff.1 ha) with rfl | ha
      · omega
      · exact h.1 a ha
theorem sortI_sorted : ∀ l, (sortI l).Pairwise (fun a b => a ≤ b)
  | [] => .nil
  | x :: l => insI_sorted x _ (sortI_sorted l)
theorem merge_sortI {ss l : List Int} (h : ss.Perm l) : ss.mergeSort (fun x y => decide (x ≤ y)) = sortI l := by
  have h1 : (ss.mergeSort (fun x y => decide (x ≤ y))).Pairwise (fun a b => a ≤ b) := by
    have := List.pairwise_mergeSort (le := fun x y : Int => decide (x ≤ y)) (fun a b c h1 h2 => by simp only [decide_eq_true_eq] at *; omega) (fun a b => by simp only [Bool.or_eq_true, decide_eq_true_eq]; omega) ss
    exact this.imp fun h => of_decide_eq_true h
  exact List.Perm.eq_of_pairwise (fun a b _ _ h1 h2 => Int.le_antisymm h1 h2) h1 (sortI_sorted l) ((List.mergeSort_perm ss _).trans (h.trans (sortI_perm l).symm))
theorem sorted_at {H : Type} (p b nn : Nat) (D0 : DataW H) (R : Value → Option (DataW H × List MemPlace)) (w : World) (hp : p < w.heap.size) (hm : w.cell? ⟨p, 0, none⟩ = some (.map (some b))) (hown : w.ownsMap Try.prog 3 R b nn D0) (hmax : Maps.size D0 ≤ maxLen) (hbytes : Maps.size D0 * 8 ≤ 140737488355328) (n : Nat) (hn : 5 ≤ n) :
    CallsIn Fence.wide n Try.prog 104 #[.func (.func 115) #[] #[.pointer (some ⟨p, 0, none⟩)]] w fun e w' =>
      ∃ (v : Value) (ss : List Int), e = .returned v ∧ ss.Perm (intKeys D0) ∧ w'.ownsRow w.heap.size 3 1 v ss.length ((ss.mergeSort (fun x y => decide (x ≤ y))).map encZ) ∧ Below w.heap.size w w' := by
  have hseq : SeqGives Fence.wide (n - 1 - 1 - 1) Try.prog 115 #[.pointer (some ⟨p, 0, none⟩)] encZ (fun ss => ss.Perm (intKeys D0)) (Maps.size D0) w :=
    AnyZI.keys_gives (ρ := keysI_ren) { keysI with } Fence.wide _ trivial rfl (by omega) p b nn D0 _ hp hm hown
  refine CallsIn.mono (AnyZI.sorted_in sortedL Fence.wide n trivial trivial trivial trivial rfl (by omega) (sortsIn _) (enters_of Try.func114 (by kernel_rfl) rfl) 115 #[.pointer (some ⟨p, 0, none⟩)] trivial (enters_of Try.func115 (by kernel_rfl) rfl) _ _ hmax hbytes _ hseq) ?_
  rintro e w' ⟨v, ss, h1, h2, h3, _, h5⟩
  exact ⟨v, ss, h1, h2, h3, h5⟩
def cellsI : List Int → List SC
  | [] => []
  | x :: l => .int true .i64 x :: cellsI l
theorem cellsI_den (ν : Nat → Nat) : ∀ l, SC.denL ν (cellsI l) = l.map (.int .i64)
  | [] => rfl
  | x :: l => by simp only [cellsI, SC.denL, SC.den, cellsI_den ν l, List.map_cons]
def okKeys (l : List (Int × Value)) : Bool := Nat.blt 0 l.length && (Nat.ble l.length 70000 && l.all fun x => decide (0 ≤ x.1) && decide (x.1 ≤ 1000000))
/-- The keys of a known map, sorted. -/
def sortedK : Smry Try.prog XN where
  g := 104
  run := fun args m K => match args with
    | [.c (.fn (.func g) [] [.ptr p 0])] => match m.hp.get p with
      | some (.cells [.map a] t) => match (m.hp.del p).get a with
        | some (.mp false l) => bif Nat.beq g 115 && (okKeys l && newOk m (.row 3 1 l.length l.length [])) then
            ∀ cap, l.length ≤ cap → forceL (fun r => forceN l.length fun n => K (.c (.sli m.nx 1 true 0 true n cap)) (withNew m (.row 3 1 n cap r))) (cellsI (sortI (l.map fun x => x.1))) else Stuck 825
        | _ => Stuck 826
      | _ => Stuck 827
    | _ => Stuck 828
  ok := fun args m K hr => by
    split at hr <;> try exact hr.elim
    rename_i g p
    split at hr <;> try exact hr.elim
    rename_i a t hp
    split at hr <;> try exact hr.elim
    rename_i l hl
    cases hb : (Nat.beq g 115 && (okKeys l && newOk m (SO.row 3 1 l.length l.length [] : SO XN))) <;> rw [hb] at hr
    · exact hr.elim
    simp only [cond_true, forceL_eq, forceN_eq] at hr
    simp only [Bool.and_eq_true, okKeys, Nat.blt_eq, Nat.ble_eq, List.all_eq_true, decide_eq_true_eq] at hb
    obtain ⟨hg, ⟨h0, h1, h2⟩, hn⟩ := hb
    have hg := Nat.eq_of_beq_eq_true hg
    subst hg
    intro ν w R w0 Hs HK
    have H1 := Hs
    rw [SH.den_get ν hp, Assn.mul_assoc, SH.den_get ν hl, Assn.mul_assoc] at H1
    have hcell : w.cell? ⟨ν p, 0, none⟩ = some (.map (some (ν a))) := H1.cell 0
    have hlt : ν p < w.heap.size := H1.lt
    obtain ⟨es, clock, hml, H2⟩ := mapAt_open (l := l) (b := ν a) H1.swap
    obtain ⟨D, hown, hpm, hsz⟩ := keys_ownI H2.block hml h1 h2
    refine Calls.mono (callsIn_wide.1 (sorted_at (ν p) (ν a) _ D _ w hlt hcell hown (by rw [hsz]; unfold maxLen; omega) (by rw [hsz]; omega) 5 (Nat.le_refl 5))) ?_
    rintro e w' ⟨v, ss, he, hss, hrow, hbw⟩
    rw [merge_sortI (hss.trans hpm)] at hrow
    have hlen : ss.length = l.length := by rw [(hss.trans hpm).length_eq, List.length_map]
    rw [hlen] at hrow
    have h3 := rowAt_made Hs hbw hrow
    rw [rowAt_rowK] at h3
    have hlen2 : ((sortI (l.map fun x => x.1)).map encZ).length = l.length := by rw [List.length_map, (sortI_perm _).length_eq, List.length_map]
    rw [hlen2] at h3
    have hne : v ≠ .slice none 0 0 := by
      rintro rfl
      obtain ⟨_, ⟨_, h, _⟩ | ⟨_, _, _, h, _⟩⟩ := rowK_open h3
      · omega
      · cases h
    obtain ⟨b, cap, rfl, hcap, h4⟩ := rowK_head h3 hne
    have hk := hr cap hcap
    have hn2 : newOk m (SO.row 3 1 l.length cap (cellsI (sortI (l.map fun x => x.1))) : SO XN) = true := by
      have e : SC.namesL (cellsI (sortI (l.map fun x => x.1))) = [] := by
        generalize sortI (l.map fun x => x.1) = r
        induction r with
        | nil => rfl
        | cons x r ih => simp only [cellsI, SC.namesL, SC.names, ih, List.nil_append]
      have hn' := hn
      unfold newOk at hn' ⊢
      simp only [SO.names] at hn' ⊢
      rw [e]
      exact hn'
    refine ⟨_, _, upd ν m.nx b, hk, Agree.upd (Nat.le_refl _) _, Nat.le_succ _, ?_, withNew_sat hn2 ?_, HK.below hbw⟩
    · rw [he]
      simp [SV.den, SC.den, upd_same]
    · have e2 : (SO.row 3 1 l.length cap (cellsI (sortI (l.map fun x => x.1))) : SO XN).den ν b = rowHead b 3 1 l.length cap ((sortI (l.map fun x => x.1)).map encZ) := by
        simp only [SO.den]
        rw [cellsI_den]
      rw [e2]
      exact h4
end Go.Proofs.Ytaflaaiomlijbaa
