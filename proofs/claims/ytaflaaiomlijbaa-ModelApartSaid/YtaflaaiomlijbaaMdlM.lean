/- A model: new ones, copies, sizes, operations, comparisons as summaries. -/
import Derived.Test.YtaflaaiomlijbaaMdlT
import Derived.Test.YtaflaaiomlijbaaMdlU
import Derived.Test.YtaflaaiomlijbaaMdlV
set_option linter.all false
namespace Go.Proofs.Ytaflaaiomlijbaa
open Go Go.RowKit
set_option maxRecDepth 100000

theorem mdQ_wf {c a : Int} {m : Md} (h : MdWf m) : MdWf (mdQ c a m).2 := by
  obtain ⟨nq, q, ps, ss⟩ := m
  unfold mdQ
  split
  · exact h
  split
  · split
    · exact h
    · intro e; cases e
  · cases q with
    | nil => exact h
    | cons x r =>
      intro e
      have := h e
      cases this
theorem mdF_wf {c k a b : Int} {m : Md} (h : MdWf m) : MdWf (mdF c k a b m).2 := by
  unfold mdF
  split
  · split
    · exact mdQ_wf h
    split
    · rename_i hr h3 h9
      obtain ⟨nq, q, ps, ss⟩ := m
      unfold mdM
      repeat' split
      all_goals exact h
    · obtain ⟨nq, q, ps, ss⟩ := m
      unfold mdS stepS
      repeat' split
      all_goals exact h
  · exact h
theorem mdPost_of {res : SV} {y : Md} {v : SV} {m : Mem XN} (h : mdPost res y v m) : ∃ z', outM res (mdHeap y z') v m := by
  unfold mdPost at h
  rw [forceN_eq] at h
  obtain ⟨nq, q, ps, ss⟩ := y
  split at h
  · obtain ⟨⟨h1, h2⟩, h⟩ := h
    dsimp only at h1 h2
    subst h1 h2
    exact ⟨0, h⟩
  · obtain ⟨h1, z', h⟩ := h
    dsimp only at h1
    subst h1
    exact ⟨z', h⟩
abbrev OpA : Type := Int × Int × Int × Int
def opV (a : OpA) : List SV := [.agg [.int false .i64 a.1, .int false .i64 a.2.1, .int false .i64 a.2.2.1, .int false .i64 a.2.2.2]]
def opDec : List SV → Option OpA
  | [.agg [.int _ .i64 c _, .int _ .i64 k _, .int _ .i64 a _, .int _ .i64 b _]] => some (c, k, a, b)
  | _ => none
theorem opDec_den : ∀ l a, opDec l = some a → ∀ ν, l.map (SV.den ν) = (opV a).map (SV.den ν) := by
  intro l a h ν
  unfold opDec at h
  split at h
  · cases h; rfl
  · cases h
def nilDec : List SV → Option Un
  | [] => some .mk
  | _ => none
theorem nilDec_den : ∀ l a, nilDec l = some a → ∀ ν, l.map (SV.den ν) = ((fun _ : Un => ([] : List SV)) a).map (SV.den ν) := by
  intro l a h ν
  unfold nilDec at h
  split at h
  · rfl
  · cases h
def MdIs (x : Md) : Prop := MdOk x ∧ MdWf x
theorem md_apply : SelfOk (E := XN) mdH 34 OpA opV (fun x _ => MdIs x) (fun x a => respV (mdF a.1 a.2.1 a.2.2.1 a.2.2.2 x).1) (fun x a => (mdF a.1 a.2.1 a.2.2.1 a.2.2.2 x).2) where
  names := fun x a _ => ⟨fun v hv => by simp only [opV, List.mem_singleton] at hv; subst hv; rfl, rfl⟩
  calls := by
    rintro ⟨nq, q, ps, ss⟩ ⟨c, k, a, b⟩ ⟨h1, h2⟩ z
    cases nq with
    | true =>
      have hq : q = [] := h2 rfl
      subst hq
      exact ⟨_, _, _, _, _, _, mdapply1_run c k a b ps ss z h1, fun v m h => mdPost_of h⟩
    | false => exact ⟨_, _, _, _, _, _, mdapply2_run c k a b q ps ss z h1, fun v m h => mdPost_of h⟩
def mdApplyS : Smry Try.prog XM6 := selfS _ opV _ _ _ opDec opDec_den md_apply
theorem md_size : SelfOk (E := XN) mdH 38 Un (fun _ => []) (fun x _ => MdIs x) (fun x _ => .c (.int false .i64 (mdSize x))) (fun x _ => x) where
  names := fun x a _ => ⟨fun v hv => (by cases hv), rfl⟩
  calls := by
    rintro ⟨nq, q, ps, ss⟩ _ ⟨h1, h2⟩ z
    cases nq with
    | true =>
      have hq : q = [] := h2 rfl
      subst hq
      exact ⟨_, _, _, _, _, _, mdsize1_run ps ss z ⟨h1.ps.len, h1.ss.len⟩, fun v m h => ⟨z, h⟩⟩
    | false => exact ⟨_, _, _, _, _, _, mdsize2_run q ps ss z ⟨h1.ql, h1.ps.len, h1.ss.len⟩, fun v m h => ⟨z, h⟩⟩
def mdSizeS : Smry Try.prog XM6 := selfS _ (fun _ : Un => []) _ _ _ nilDec nilDec_den md_size
theorem md_new : NewOk (E := XN) mdH 31 Un (fun _ => []) (fun _ => True) (fun _ => ⟨true, [], [], []⟩) where
  names := fun a _ v hv => (by cases hv)
  calls := fun _ _ => ⟨_, _, _, _, _, _, mdnew_run trivial, fun v m h => ⟨(0 : Nat), h⟩⟩
def mdNewS : Smry Try.prog XM6 := newS _ (fun _ : Un => []) _ _ nilDec nilDec_den md_new
theorem md_clone : FromOk (E := XN) mdH 32 MdIs (fun x => x) (fun x => x) where
  calls := by
    rintro ⟨nq, q, ps, ss⟩ ⟨h1, h2⟩ z
    cases nq with
    | true =>
      have hq : q = [] := h2 rfl
      subst hq
      exact ⟨_, _, _, _, _, _, mdclone1_run ps ss z trivial, fun v m h => ⟨z, h⟩⟩
    | false => exact ⟨_, _, _, _, _, _, mdclone2_run q ps ss z h1.ql, fun v m h => ⟨z, h⟩⟩
def mdCloneS : Smry Try.prog XM6 := fromS _ _ _ _ md_clone
theorem md_same : TwoOk (E := XN) mdH 36 (fun x y => MdIs x ∧ MdIs y) (fun x y => .c (.boo false (sameB x y))) where
  low := by
    rintro ⟨nq, q, ps, ss⟩ ⟨nq2, q2, ps2, ss2⟩ _ z z2
    cases nq <;> cases nq2 <;> exact ⟨rfl, rfl⟩
  names := fun _ _ _ => rfl
  calls := by
    rintro ⟨nq, q, ps, ss⟩ ⟨nq2, q2, ps2, ss2⟩ ⟨⟨h1, h2⟩, h3, h4⟩ z z2
    cases nq with
    | true =>
      have hq : q = [] := h2 rfl
      subst hq
      cases nq2 with
      | true =>
        have hq : q2 = [] := h4 rfl
        subst hq
        exact ⟨_, _, _, _, _, _, mdsame11_run ps ss z ps2 ss2 z2 ⟨h1, h3⟩, fun v m h => ⟨z, z2, h⟩⟩
      | false => exact ⟨_, _, _, _, _, _, mdsame12_run ps ss z q2 ps2 ss2 z2 ⟨h1, h3⟩, fun v m h => ⟨z, z2, h⟩⟩
    | false =>
      cases nq2 with
      | true =>
        have hq : q2 = [] := h4 rfl
        subst hq
        exact ⟨_, _, _, _, _, _, mdsame21_run q ps ss z ps2 ss2 z2 ⟨h1, h3⟩, fun v m h => ⟨z, z2, h⟩⟩
      | false => exact ⟨_, _, _, _, _, _, mdsame22_run q ps ss z q2 ps2 ss2 z2 ⟨h1, h3⟩, fun v m h => ⟨z, z2, h⟩⟩
def mdSameS : Smry Try.prog XM6 := twoS _ _ _ md_same
theorem qF_eq {q r : List Int} (hl : q.length = r.length) (h : ∀ i, i < q.length → qF q i = qF r i) : q = r := by
  apply List.ext_getElem? 
  intro i
  rcases Nat.lt_or_ge i q.length with hi | hi
  · have := h i hi
    unfold qF at this
    rw [List.getD_eq_getElem?_getD, List.getD_eq_getElem?_getD, List.getElem?_eq_getElem hi, List.getElem?_eq_getElem (hl ▸ hi)] at this
    rw [List.getElem?_eq_getElem hi, List.getElem?_eq_getElem (hl ▸ hi)]
    exact congrArg some this
  · rw [List.getElem?_eq_none hi, List.getElem?_eq_none (hl ▸ hi)]
theorem mapsB_of {l k : List (Int × Value)} (hl : MapOk l) (h : mapsEq l k) : mapsB l k = true := by
  unfold mapsB
  rw [h.1, beqN_eq, decide_eq_true rfl, Bool.true_and, List.all_eq_true]
  intro x hx
  have h1 := h.2 x hx
  obtain ⟨n, hn, _, _⟩ := hl.vals x hx
  unfold goodE
  rw [h1]
  have : lookI k x.1 = numV x.2 := by unfold lookI; rw [h1, hn]; rfl
  rw [decide_eq_true this]
  rfl
theorem rowsB_self (n : Nat) (f : Nat → Int) : rowsB n f n f = true := by
  unfold rowsB
  rw [beqN_eq, decide_eq_true rfl, Bool.true_and, List.all_eq_true]
  intro i _
  exact decide_eq_true rfl
theorem sameB_of {m n : Md} (hm : MdOk m) (h : SameP m n) : sameB m n = true := by
  unfold sameB
  rw [mapsB_of hm.ps h.2.1, mapsB_of hm.ss h.2.2, ← h.1, rowsB_self]
  rfl
end Go.Proofs.Ytaflaaiomlijbaa
