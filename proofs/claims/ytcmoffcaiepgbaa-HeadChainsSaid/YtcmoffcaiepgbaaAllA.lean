/- What an iterator over an arena's blocks hands over: plain laws. -/
import Derived.Test.YtcmoffcaiepgbaaCloC
import Derived.Test.YtcmoffcaiepgbaaRangeF
set_option linter.all false
namespace Go.Proofs.Ytcmoffcaiepgbaa
open Go.RowKit

theorem rowAt_len {w : World} {T : TypeId} {v : Value} {xs : List Value} {R : Assn} {m : Nat} (h : Sat w (rowAt T v xs * R)) (hm : xs.length = m) : ∃ a c, v = .slice a m c := by
  subst hm
  rcases rowAt_open h with ⟨rfl, rfl, _⟩ | ⟨g, cap, cur, rfl, _⟩
  · exact ⟨_, _, rfl⟩
  · exact ⟨_, _, rfl⟩
theorem rowAt_at {w : World} {T : TypeId} {a : Option Addr} {m c : Nat} {xs : List Value} {R : Assn} {i : Nat} {u : Value} (h : Sat w (rowAt T (.slice a m c) xs * R)) (hi : xs[i]? = some u) : ∃ g, a = some ⟨g, 0, none⟩ ∧ w.cell? ⟨g, i, none⟩ = some u := by
  rcases rowAt_open h with ⟨_, rfl, _⟩ | ⟨g, cap, cur, e, h2, h3, h4, h5, h6⟩
  · simp at hi
  · cases e
    exact ⟨g, rfl, row_cell h6 h5 i u hi⟩
def blkOf (bs : List Blk) (x : Int) : Nat × List Nat := match bs.find? (fun b => (b.n : Int) == x) with
  | some b => (b.h, b.ws)
  | none => (0, [])
def numsOf (A : Ar) : List Int := (A.bs.map fun b => (b.n : Int)).mergeSort Go.leI
/-- The blocks by their numbers. -/
def allOf (A : Ar) : List (Nat × List Nat) := (numsOf A).map (blkOf A.bs)
theorem blocks_le {A : Ar} (hi : ArInv A) : A.bs.length ≤ 60000 := by
  have h1 := hi.sum
  have h2 := hi.used
  have h3 := hi.cap
  have : ∀ l : List Blk, (∀ b ∈ l, 1 ≤ b.ws.length) → l.length ≤ (l.map fun b => b.ws.length).sum := by
    intro l
    induction l with
    | nil => simp
    | cons a l ih =>
      intro h
      have := ih fun b hb => h b (by simp [hb])
      have := h a (by simp)
      simp only [List.length_cons, List.map_cons, List.sum_cons]
      omega
  have := this A.bs fun b hb => (hi.range b hb).2.2.2.2.2.1
  omega
theorem find_n {bs : List Blk} (hap : (bs.map (·.n)).Nodup) {b : Blk} (hb : b ∈ bs) : bs.find? (fun c => (c.n : Int) == (b.n : Int)) = some b := by
  induction bs with
  | nil => cases hb
  | cons a l ih =>
    simp only [List.map_cons, List.nodup_cons, List.mem_map] at hap
    rw [List.find?_cons]
    by_cases e : a.n = b.n
    · rcases List.mem_cons.1 hb with rfl | hb'
      · simp
      · exact absurd ⟨b, hb', e.symm⟩ hap.1
    · have : ((a.n : Int) == (b.n : Int)) = false := by simpa using fun h => e (by omega)
      rw [this]
      rcases List.mem_cons.1 hb with rfl | hb'
      · exact absurd rfl e
      · exact ih hap.2 hb'
theorem key3_n {bs cs : List Blk} (hp : (bs.map key3).Perm (cs.map key3)) : (bs.map fun b => (b.n : Int)).Perm (cs.map fun b => (b.n : Int)) := by
  have := hp.map fun x : Nat × Nat × List Nat => (x.1 : Int)
  simpa [List.map_map, Function.comp_def, key3] using this
theorem nums_perm {A : Ar} {bs : List Blk} (hp : (bs.map key3).Perm (A.bs.map key3)) : numsOf A = (bs.map fun b => (b.n : Int)).mergeSort Go.leI :=
  mergeSort_of_perm_i (key3_n hp).symm
theorem nums_len {A : Ar} : (numsOf A).length = A.bs.length := by unfold numsOf; rw [List.length_mergeSort, List.length_map]
/-- Each number is that of one block of the copy. -/
theorem nums_blk {A : Ar} (hi : ArInv A) {bs : List Blk} (hp : (bs.map key3).Perm (A.bs.map key3)) {x : Int} (hx : x ∈ numsOf A) :
    ∃ b ∈ bs, (b.n : Int) = x ∧ look (bs.map ent) x = some (.agg #[.int .u64 b.h, b.v]) ∧ blkOf A.bs x = (b.h, b.ws) ∧ 1 ≤ b.ws.length ∧ b.ws.length ≤ 2048 ∧ b.h < TW := by
  have hx1 : x ∈ bs.map fun b => (b.n : Int) := by
    rw [nums_perm hp] at hx
    exact (List.mergeSort_perm _ _).mem_iff.1 hx
  obtain ⟨b, hb, rfl⟩ := List.mem_map.1 hx1
  have hnd : (bs.map (·.n)).Nodup := by
    have h1 : (bs.map (·.n)).Perm (A.bs.map (·.n)) := by
      have := hp.map fun x : Nat × Nat × List Nat => x.1
      simpa [List.map_map, Function.comp_def, key3] using this
    exact h1.nodup_iff.2 hi.apart
  obtain ⟨c, hc, e⟩ := List.mem_map.1 (hp.mem_iff.1 (List.mem_map.2 ⟨b, hb, rfl⟩))
  simp only [key3, Prod.mk.injEq] at e
  have hr := hi.range c hc
  refine ⟨b, hb, rfl, ?_, ?_, ?_, ?_, ?_⟩
  · rw [look_ent]
    have h2 := find_n hnd hb
    have : (bs.find? fun c => c.n == b.n) = some b := by
      rw [← h2]
      congr 1
      funext c
      by_cases e : c.n = b.n
      · simp [e]
      · have e1 : (c.n == b.n) = false := by simpa using e
        have e2 : ((c.n : Int) == (b.n : Int)) = false := by simpa using fun h => e (by omega)
        rw [e1, e2]
    rw [this]
    rfl
  · unfold blkOf
    have h3 : A.bs.find? (fun d => (d.n : Int) == (b.n : Int)) = some c := by rw [← e.1]; exact find_n hi.apart hc
    rw [h3]
    simp only [e.2.1, e.2.2]
  · rw [← e.2.2]; exact hr.2.2.2.2.2.1
  · rw [← e.2.2]; exact hr.2.2.2.2.2.2
  · rw [← e.2.1]
    have := hi.births
    have := hr.2.2.2.2.1
    unfold TW
    omega
end Go.Proofs.Ytcmoffcaiepgbaa
