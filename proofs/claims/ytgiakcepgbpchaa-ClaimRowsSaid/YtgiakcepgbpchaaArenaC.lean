/- The rows of an arena's blocks; read, write, swap, add at a word that there is. -/
import Derived.Test.YtgiakcepgbpchaaArenaB
set_option linter.all false
namespace Go.Proofs.Ytgiakcepgbpchaa
open Go.RowKit

theorem rows_mid (l1 l2 : List Blk) (b : Blk) : rowsAt (l1 ++ b :: l2) = rowAt 25 b.v (u64s b.ws) * rowsAt (l1 ++ l2) := by
  induction l1 with
  | nil => rfl
  | cons a l1 ih => show rowAt _ _ _ * rowsAt (l1 ++ b :: l2) = _ * (rowAt _ _ _ * rowsAt (l1 ++ l2)); rw [ih, Assn.mul_left_comm]

theorem Ar.find_mem {A : Ar} {h : Nat} {b : Blk} (hf : A.find h = some b) : b ∈ A.bs ∧ b.h = h := by
  unfold Ar.find at hf
  exact ⟨List.mem_of_find?_eq_some hf, by simpa using List.find?_some hf⟩

theorem handle_inj {A : Ar} (hi : ArInv A) {b b' : Blk} (h1 : b ∈ A.bs) (h2 : b' ∈ A.bs) (e : b.h = b'.h) : b = b' := by
  have r1 := hi.range b h1
  have r2 := hi.range b' h2
  have hn : b.n = b'.n := by omega
  have ha := hi.apart
  generalize A.bs = bs at h1 h2 ha
  induction bs with
  | nil => cases h1
  | cons a l ih =>
    simp only [List.map_cons, List.nodup_cons, List.mem_map] at ha
    rcases List.mem_cons.1 h1 with rfl | h1'
    · rcases List.mem_cons.1 h2 with rfl | h2'
      · rfl
      · exact absurd ⟨b', h2', hn.symm⟩ ha.1
    · rcases List.mem_cons.1 h2 with rfl | h2'
      · exact absurd ⟨b, h1', hn⟩ ha.1
      · exact ih h1' h2' ha.2

theorem set_mid {A : Ar} (hi : ArInv A) {l1 l2 : List Blk} {b : Blk} (hb : A.bs = l1 ++ b :: l2) (i x : Nat) :
    A.bs.map (setBlk b.h i x) = l1 ++ { b with ws := b.ws.set i x } :: l2 := by
  have hne : ∀ a ∈ l1 ++ l2, a.h ≠ b.h := by
    intro a ha e
    have ha' : a ∈ A.bs := by rw [hb]; simp at ha ⊢; rcases ha with h | h <;> simp [h]
    have hb' : b ∈ A.bs := by rw [hb]; simp
    have := handle_inj hi ha' hb' e
    subst this
    have hn := hi.apart
    rw [hb] at hn
    simp only [List.map_append, List.map_cons, List.nodup_append, List.nodup_cons, List.mem_map, List.mem_cons] at hn
    rcases List.mem_append.1 ha with h | h
    · exact hn.2.2 a.n ⟨a, h, rfl⟩ a.n (.inl rfl) rfl
    · exact hn.2.1.1 ⟨a, h, rfl⟩
  have hid : ∀ l : List Blk, (∀ a ∈ l, a.h ≠ b.h) → l.map (setBlk b.h i x) = l := by
    intro l hl
    induction l with
    | nil => rfl
    | cons a l ih => rw [List.map_cons, ih (fun c hc => hl c (by simp [hc]))]; simp [setBlk, hl a (by simp)]
  rw [hb, List.map_append, List.map_cons, hid l1 (fun a ha => hne a (by simp [ha])), hid l2 (fun a ha => hne a (by simp [ha]))]
  simp [setBlk]

theorem set_ent (bs : List Blk) (h i x : Nat) : (bs.map (setBlk h i x)).map ent = bs.map ent := by
  rw [List.map_map]
  refine List.map_congr_left fun b _ => ?_
  simp only [Function.comp, setBlk]
  split <;> rfl

theorem set_map (bs : List Blk) (h i x : Nat) (f : Blk → Nat) (hf : ∀ b : Blk, f (setBlk h i x b) = f b) : (bs.map (setBlk h i x)).map f = bs.map f := by
  rw [List.map_map]
  exact List.map_congr_left fun b _ => hf b

theorem ArInv.set {A : Ar} (hi : ArInv A) (h i x : Nat) (hx : x < TW) : ArInv (A.set h i x) := by
  unfold Ar.set
  by_cases h0 : h = 0
  · rw [if_pos h0]
    refine { hi with fixed := fun j => ?_ }
    show (if j = i then x else A.fixed j) < TW
    split
    · exact hx
    · exact hi.fixed j
  · rw [if_neg h0]
    have e1 := set_map A.bs h i x (·.n) (fun b => by simp only [setBlk]; split <;> rfl)
    have e2 := set_map A.bs h i x (fun b => b.h / 65536) (fun b => by simp only [setBlk]; split <;> rfl)
    have e3 := set_map A.bs h i x (fun b => b.ws.length) (fun b => by simp only [setBlk]; split <;> simp)
    refine { hi with nums := ?_, range := ?_, words := ?_, apart := ?_, births' := ?_, sum := ?_, high := ?_ }
    · show A.s.used.Perm _; rw [e1]; exact hi.nums
    · intro b hb
      obtain ⟨a, ha, rfl⟩ := List.mem_map.1 hb
      have := hi.range a ha
      simp only [setBlk]; split
      · simpa using this
      · exact this
    · intro b hb y hy
      obtain ⟨a, ha, rfl⟩ := List.mem_map.1 hb
      simp only [setBlk] at hy
      split at hy
      · rcases List.mem_or_eq_of_mem_set hy with h1 | h1
        · exact hi.words a ha y h1
        · rw [h1]; exact hx
      · exact hi.words a ha y hy
    · show ((A.bs.map (setBlk h i x)).map (·.n)).Nodup; rw [e1]; exact hi.apart
    · show ((A.bs.map (setBlk h i x)).map fun b => b.h / 65536).Nodup; rw [e2]; exact hi.births'
    · show A.used = ((A.bs.map (setBlk h i x)).map fun b => b.ws.length).sum; rw [e3]; exact hi.sum
    · show A.s.high = (A.bs.map (setBlk h i x)).length + _; rw [List.length_map]; exact hi.high
end Go.Proofs.Ytgiakcepgbpchaa
