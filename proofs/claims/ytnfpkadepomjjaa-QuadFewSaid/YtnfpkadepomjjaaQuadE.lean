/- The keys and the nodes of a tree. -/
import Derived.Test.YtnfpkadepomjjaaQuadD
set_option linter.all false
namespace Go.Proofs.Ytnfpkadepomjjaa
open Go Go.RowKit

/-- The blocks, in whatever order. -/
def blksQ (A : Ar) : List (Nat × List Nat) := A.bs.map fun b => (b.h, b.ws)
theorem allOf_perm {A : Ar} (hi : ArInv A) : (allOf A).Perm (blksQ A) := by
  have h1 : (allOf A).Perm ((A.bs.map fun b => (b.n : Int)).map (blkOf A.bs)) := (List.mergeSort_perm _ _).map _
  refine h1.trans (List.Perm.of_eq ?_)
  unfold blksQ
  rw [List.map_map]
  refine List.map_congr_left fun b hb => ?_
  simp only [Function.comp, blkOf, find_n hi.apart hb]
theorem find_perm {l m : List (Nat × List Nat)} (hp : l.Perm m) (hn : (l.map (·.1)).Nodup) (h : Nat) : l.find? (fun b => b.1 == h) = m.find? (fun b => b.1 == h) := by
  have key : ∀ (l : List (Nat × List Nat)), (l.map (·.1)).Nodup → ∀ b, l.find? (fun b => b.1 == h) = some b ↔ b ∈ l ∧ b.1 = h := by
    intro l hn b
    constructor
    · intro e; exact ⟨List.mem_of_find?_eq_some e, by simpa using List.find?_some e⟩
    · rintro ⟨hb, rfl⟩
      induction l with
      | nil => cases hb
      | cons a l ih =>
        simp only [List.map_cons, List.nodup_cons, List.mem_map] at hn
        rw [List.find?_cons]
        rcases List.mem_cons.1 hb with rfl | hb'
        · simp
        · have : (a.1 == b.1) = false := by simpa using fun e => hn.1 ⟨b, hb', e.symm⟩
          rw [this]
          exact ih hn.2 hb'
  have hn2 : (m.map (·.1)).Nodup := (hp.map _).nodup_iff.1 hn
  cases hl : l.find? (fun b => b.1 == h) with
  | some b =>
    have := (key l hn b).1 hl
    exact ((key m hn2 b).2 ⟨hp.mem_iff.1 this.1, this.2⟩).symm
  | none =>
    symm
    rw [List.find?_eq_none] at hl ⊢
    exact fun x hx => hl x (hp.mem_iff.2 hx)
theorem nodeF_perm {l m : List (Nat × List Nat)} (hp : l.Perm m) (hn : (l.map (·.1)).Nodup) : nodeF l = nodeF m := by
  funext h
  unfold nodeF
  rw [find_perm hp hn h]
theorem belowF_perm {l m : List (Nat × List Nat)} (hp : l.Perm m) (hn : (l.map (·.1)).Nodup) : ∀ n, belowF l n = belowF m n
  | 0 => rfl
  | n + 1 => by
    funext h key st
    unfold belowF
    rw [nodeF_perm hp hn, belowF_perm hp hn n]
/-- A tree: is it one, its keys, its nodes. -/
def tree (A : Ar) (root : Nat) : Bool × WSt := if root = 0 then (true, ⟨[], []⟩) else belowF (blksQ A) 4 root 0 ⟨[], []⟩
theorem thr_tree {A : Ar} (hi : ArInv A) (root : Nat) : thr A root = tree A root := by
  unfold thr tree
  rw [belowF_perm (allOf_perm hi) (allOf_nodup hi)]

set_option maxHeartbeats 800000 in
set_option maxRecDepth 100000 in
theorem list_calls (p : Nat) (A : Ar) (root : Nat) (w : World) {R : Assn} (H : Sat w (arAt p A * R)) (hr : root < TW) (hl : A.s.back.length ≤ 70000) :
    Calls Try.prog 53 #[.pointer (some ⟨p, 0, none⟩), .int .u64 root] w fun e w' => Kept w w' ∧
      (((tree A root).1 = false ∧ e = .returned (.tuple #[.slice none 0 0, .bool false]) ∧ Sat w' (arAt p A * R)) ∨
      ((tree A root).1 = true ∧ ∃ v, e = .returned (.tuple #[v, .bool true]) ∧ Sat w' (rowK 110 2 v (tree A root).2.pairs.length (pcells (tree A root).2.pairs) * (arAt p A * R)))) := by
  have HT := through_calls p A root w H hr hl
  obtain ⟨_, _, hi, _⟩ := arAt_open H
  rw [thr_tree hi] at HT
  have HT := Lib.hid HT
  generalize tree A root = T at *
  obtain ⟨bo, st⟩ := T
  clear H
  go_enter Try.func53, Try.ntmps53
  go_wp2_with fail
  refine (HT.out).mono ?_; rintro e w1 ⟨pw, m, xs, rfl, hs, hk⟩
  obtain ⟨vp, vh, hs2⟩ := walkAt_open hs
  have c1 := hs2.cell 1
  simp at c1
  have Hs := Lib.hid hs2
  have HS := Lib.hid hs
  clear hs hs2
  cases bo with
  | false =>
    go_wp2
    go_ret2
    refine ⟨hk, rfl, ?_⟩
    exact (HS.out.cast (Q := (walkAt pw m st * wordsAt m xs) * (arAt p A * R)) (by ac_rfl)).right
  | true =>
    go_wp2
    go_ret2
    refine ⟨hk, vp, rfl, ?_⟩
    exact (Hs.out.cast (Q := (own pw (.cells #[.map (some m), vp, vh] 220 (0, 0)) * (rowK 25 1 vh st.hs.length (u64s st.hs) * wordsAt m xs)) * (rowK 110 2 vp st.pairs.length (pcells st.pairs) * (arAt p A * R))) (by ac_rfl)).right

set_option maxHeartbeats 800000 in
set_option maxRecDepth 100000 in
theorem handles_calls (p : Nat) (A : Ar) (root : Nat) (w : World) {R : Assn} (H : Sat w (arAt p A * R)) (hr : root < TW) (hl : A.s.back.length ≤ 70000) :
    Calls Try.prog 54 #[.pointer (some ⟨p, 0, none⟩), .int .u64 root] w fun e w' => Kept w w' ∧
      (((tree A root).1 = false ∧ e = .returned (.tuple #[.slice none 0 0, .bool false]) ∧ Sat w' (arAt p A * R)) ∨
      ((tree A root).1 = true ∧ ∃ v, e = .returned (.tuple #[v, .bool true]) ∧ Sat w' (rowK 25 1 v (tree A root).2.hs.length (u64s (tree A root).2.hs) * (arAt p A * R)))) := by
  have HT := through_calls p A root w H hr hl
  obtain ⟨_, _, hi, _⟩ := arAt_open H
  rw [thr_tree hi] at HT
  have HT := Lib.hid HT
  generalize tree A root = T at *
  obtain ⟨bo, st⟩ := T
  clear H
  go_enter Try.func54, Try.ntmps54
  go_wp2_with fail
  refine (HT.out).mono ?_; rintro e w1 ⟨pw, m, xs, rfl, hs, hk⟩
  obtain ⟨vp, vh, hs2⟩ := walkAt_open hs
  have c2 := hs2.cell 2
  simp at c2
  have Hs := Lib.hid hs2
  have HS := Lib.hid hs
  clear hs hs2
  cases bo with
  | false =>
    go_wp2
    go_ret2
    refine ⟨hk, rfl, ?_⟩
    exact (HS.out.cast (Q := (walkAt pw m st * wordsAt m xs) * (arAt p A * R)) (by ac_rfl)).right
  | true =>
    go_wp2
    go_ret2
    refine ⟨hk, vh, rfl, ?_⟩
    exact (Hs.out.cast (Q := (own pw (.cells #[.map (some m), vp, vh] 220 (0, 0)) * (rowK 110 2 vp st.pairs.length (pcells st.pairs) * wordsAt m xs)) * (rowK 25 1 vh st.hs.length (u64s st.hs) * (arAt p A * R))) (by ac_rfl)).right
end Go.Proofs.Ytnfpkadepomjjaa
