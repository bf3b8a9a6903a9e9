/- The rows of an arena's blocks; read, write, swap, add at a word that there is. -/
import Derived.Test.YtnkikhhiaecebaaBaseAP1
set_option linter.all false
namespace Go.Proofs.Ytnkikhhiaecebaa
open Go.RowKit

theorem rows_mid (l1 l2 : List Blk) (b : Blk) : rowsAt (l1 ++ b :: l2) = rowAt 29 b.v (u64s b.ws) * rowsAt (l1 ++ l2) := by
  induction l1 with
  | nil => rfl
  | cons a l1 ih => show rowAt _ _ _ * rowsAt (l1 ++ b :: l2) = _ * (rowAt _ _ _ * rowsAt (l1 ++ l2)); rw [ih, Assn.mul_left_comm]

theorem Ar.find_mem {A : Ar} {h : Nat} {b : Blk} (hf : A.find h = some b) : b ∈ A.bs ∧ b.h = h := by
  unfold Ar.find at hf
  exact ⟨List.mem_of_find?_eq_some hf, by simpa using List.find?_some hf⟩

theorem handle_inj {A : Ar} (hi : ArInv A) {b b' : Blk} (h1 : b ∈ A.bs) (h2 : b' ∈ A.bs) (e : b.h = b'.h) : b = b' := by
  have r1 := hi.range b h1
  have r2 := hi.range b' h2
  have hn : b.n = b'.n := by omega
  have ha := hi.apart
  generalize A.bs = bs at h1 h2 ha
  induction bs with
  | nil => cases h1
  | cons a l ih =>
    simp only [List.map_cons, List.nodup_cons, List.mem_map] at ha
    rcases List.mem_cons.1 h1 with rfl | h1'
    · rcases List.mem_cons.1 h2 with rfl | h2'
      · rfl
      · exact absurd ⟨b', h2', hn.symm⟩ ha.1
    · rcases List.mem_cons.1 h2 with rfl | h2'
      · exact absurd ⟨b, h1', hn⟩ ha.1
      · exact ih h1' h2' ha.2

theorem set_mid {A : Ar} (hi : ArInv A) {l1 l2 : List Blk} {b : Blk} (hb : A.bs = l1 ++ b :: l2) (i x : Nat) :
    A.bs.map (setBlk b.h i x) = l1 ++ { b with ws := b.ws.set i x } :: l2 := by
  have hne : ∀ a ∈ l1 ++ l2, a.h ≠ b.h := by
    intro a ha e
    have ha' : a ∈ A.bs := by rw [hb]; simp at ha ⊢; rcases ha with h | h <;> simp [h]
    have hb' : b ∈ A.bs := by rw [hb]; simp
    have := handle_inj hi ha' hb' e
    subst this
    have hn := hi.apart
    rw [hb] at hn
    simp only [List.map_append, List.map_cons, List.nodup_append, List.nodup_cons, List.mem_map, List.mem_cons] at hn
    rcases List.mem_append.1 ha with h | h
    · exact hn.2.2 a.n ⟨a, h, rfl⟩ a.n (.inl rfl) rfl
    · exact hn.2.1.1 ⟨a, h, rfl⟩
  have hid : ∀ l : List Blk, (∀ a ∈ l, a.h ≠ b.h) → l.map (setBlk b.h i x) = l := by
    intro l hl
    induction l with
    | nil => rfl
    | cons a l ih => rw [List.map_cons, ih (fun c hc => hl c (by simp [hc]))]; simp [setBlk, hl a (by simp)]
  rw [hb, List.map_append, List.map_cons, hid l1 (fun a ha => hne a (by simp [ha])), hid l2 (fun a ha => hne a (by simp [ha]))]
  simp [setBlk]

theorem set_ent (bs : List Blk) (h i x : Nat) : (bs.map (setBlk h i x)).map ent = bs.map ent := by
  rw [List.map_map]
  refine List.map_congr_left fun b _ => ?_
  simp only [Function.comp, setBlk]
  split <;> rfl

theorem set_map (bs : List Blk) (h i x : Nat) (f : Blk → Nat) (hf : ∀ b : Blk, f (setBlk h i x b) = f b) : (bs.map (setBlk h i x)).map f = bs.map f := by
  rw [List.map_map]
  exact List.map_congr_left fun b _ => hf b

theorem ArInv.set {A : Ar} (hi : ArInv A) (h i x : Nat) (hx : x < TW) : ArInv (A.set h i x) := by
  unfold Ar.set
  by_cases h0 : h = 0
  · rw [if_pos h0]
    refine { hi with fixed := fun j => ?_ }
    show (if j = i then x else A.fixed j) < TW
    split
    · exact hx
    · exact hi.fixed j
  · rw [if_neg h0]
    have e1 := set_map A.bs h i x (·.n) (fun b => by simp only [setBlk]; split <;> rfl)
    have e2 := set_map A.bs h i x (fun b => b.h / 65536) (fun b => by simp only [setBlk]; split <;> rfl)
    have e3 := set_map A.bs h i x (fun b => b.ws.length) (fun b => by simp only [setBlk]; split <;> simp)
    refine { hi with nums := ?_, range := ?_, words := ?_, apart := ?_, births' := ?_, sum := ?_, high := ?_ }
    · show A.s.used.Perm _; rw [e1]; exact hi.nums
    · intro b hb
      obtain ⟨a, ha, rfl⟩ := List.mem_map.1 hb
      have := hi.range a ha
      simp only [setBlk]; split
      · simpa using this
      · exact this
    · intro b hb y hy
      obtain ⟨a, ha, rfl⟩ := List.mem_map.1 hb
      simp only [setBlk] at hy
      split at hy
      · rcases List.mem_or_eq_of_mem_set hy with h1 | h1
        · exact hi.words a ha y h1
        · rw [h1]; exact hx
      · exact hi.words a ha y hy
    · show ((A.bs.map (setBlk h i x)).map (·.n)).Nodup; rw [e1]; exact hi.apart
    · show ((A.bs.map (setBlk h i x)).map fun b => b.h / 65536).Nodup; rw [e2]; exact hi.births'
    · show A.used = ((A.bs.map (setBlk h i x)).map fun b => b.ws.length).sum; rw [e3]; exact hi.sum
    · show A.s.high = (A.bs.map (setBlk h i x)).length + _; rw [List.length_map]; exact hi.high
end Go.Proofs.Ytnkikhhiaecebaa

/- Read, write, swap, add at a word that there is (layer 3). -/
namespace Go.Proofs.Ytnkikhhiaecebaa
open Go.RowKit

def Ar.tick (A : Ar) (f : Tly → Tly) : Ar := { A with t := f A.t }
theorem ArInv.tick {A : Ar} (hi : ArInv A) (f : Tly → Tly) : ArInv (A.tick f) :=
  ⟨hi.cap, hi.used, hi.peak, hi.births, hi.fixed, hi.nums, hi.range, hi.words, hi.apart, hi.births', hi.sum, hi.backs, hi.high, hi.bnd, hi.hmax⟩

theorem sees_of {w : World} {p : Nat} {A : Ar} {ps pb : Nat} {R : Assn} (hi : ArInv A)
    (H : Sat w (own p (.cells (arCells A ps pb) 172 (0, 0)) * (stkAt ps A.s * (mapAt pb (A.bs.map ent) * R)))) : Sees w p A := by
  have h1 : Sat w (mapAt pb (A.bs.map ent) * (own p (.cells (arCells A ps pb) 172 (0, 0)) * (stkAt ps A.s * R))) := H.cast (by ac_rfl)
  obtain ⟨es, clock, hl, h2⟩ := mapAt_open h1
  exact ⟨hi, H.lt, pb, es, clock, H.cell 15, h2.block, hl⟩

theorem ar_block {w : World} {p : Nat} {A : Ar} {R : Assn} (H : Sat w (arAt p A * R)) {b : Blk} (hb : b ∈ A.bs) :
    ∃ ps pb l1 l2 g c cur, ArInv A ∧ A.bs = l1 ++ b :: l2 ∧ b.v = .slice (some ⟨g, 0, none⟩) b.ws.length c ∧ b.ws.length ≤ c ∧ c ≤ maxLen ∧ cur.size = c ∧ cur.toList.take b.ws.length = u64s b.ws ∧ Sees w p A ∧
      Sat w (own p (.cells (arCells A ps pb) 172 (0, 0)) * (own g (.cells cur 29 (0, 0)) * (stkAt ps A.s * (mapAt pb (A.bs.map ent) * (rowsAt (l1 ++ l2) * R))))) := by
  obtain ⟨ps, pb, hi, h⟩ := arAt_open H
  have hsee := sees_of hi h
  obtain ⟨l1, l2, hl⟩ := List.append_of_mem hb
  have h2 : Sat w (rowAt 29 b.v (u64s b.ws) * (own p (.cells (arCells A ps pb) 172 (0, 0)) * (stkAt ps A.s * (mapAt pb (A.bs.map ent) * (rowsAt (l1 ++ l2) * R))))) := by
    refine h.cast ?_
    rw [show rowsAt A.bs = rowAt 29 b.v (u64s b.ws) * rowsAt (l1 ++ l2) from by rw [hl]; exact rows_mid l1 l2 b]
    ac_rfl
  have hlen : (u64s b.ws).length = b.ws.length := by simp [u64s]
  have hpos := (hi.range b hb).2.2.2.2.2.1
  rcases rowAt_open h2 with ⟨_, h3, _⟩ | ⟨g, c, cur, h3, h4, h5, h6, h7, h8⟩
  · have : (u64s b.ws).length = 0 := by rw [h3]; rfl
    omega
  · rw [hlen] at h3 h4 h7
    exact ⟨ps, pb, l1, l2, g, c, cur, hi, hl, h3, h4, h5, h6, h7, hsee, h8.swap⟩

theorem ar_block_shut {w : World} {p : Nat} {A : Ar} {R : Assn} {ps pb g c : Nat} {l1 l2 : List Blk} {b : Blk} {cur : Array Value} (hi : ArInv A) (hl : A.bs = l1 ++ b :: l2) (hv : b.v = .slice (some ⟨g, 0, none⟩) b.ws.length c)
    (h4 : b.ws.length ≤ c) (h5 : c ≤ maxLen) (h6 : cur.size = c) (h7 : cur.toList.take b.ws.length = u64s b.ws)
    (H : Sat w (own p (.cells (arCells A ps pb) 172 (0, 0)) * (own g (.cells cur 29 (0, 0)) * (stkAt ps A.s * (mapAt pb (A.bs.map ent) * (rowsAt (l1 ++ l2) * R)))))) : Sat w (arAt p A * R) := by
  have hlen : (u64s b.ws).length = b.ws.length := by simp [u64s]
  have h1 := rowAt_shut (xs := u64s b.ws) (cap := c) (by omega) h5 h6 (by rw [hlen]; exact h7) H.swap
  rw [hlen, ← hv] at h1
  refine arAt_shut (ps := ps) (pb := pb) hi (h1.cast ?_)
  rw [show rowsAt A.bs = rowAt 29 b.v (u64s b.ws) * rowsAt (l1 ++ l2) from by rw [hl]; exact rows_mid l1 l2 b]
  ac_rfl

theorem row_at {w : World} {g : Nat} {cur : Array Value} {R : Assn} {ws : List Nat} (H : Sat w (own g (.cells cur 29 (0, 0)) * R)) (h7 : cur.toList.take ws.length = u64s ws) {i x : Nat} (hx : ws[i]? = some x) :
    w.cell? ⟨g, i, none⟩ = some (.int .u64 x) :=
  row_cell H (xs := u64s ws) (by rw [show (u64s ws).length = ws.length by simp [u64s]]; exact h7) i _ (by simp [u64s, hx])
theorem row_set {cur : Array Value} {ws : List Nat} (h7 : cur.toList.take ws.length = u64s ws) (i x : Nat) :
    (cur.setIfInBounds i (.int .u64 x)).toList.take (ws.set i x).length = u64s (ws.set i x) := by
  have e : (cur.setIfInBounds i (.int .u64 x)).toList = cur.toList.set i (.int .u64 x) := by simp
  rw [e, List.length_set, List.take_set, h7]
  simp [u64s, List.map_set]

theorem fixed_cell (A : Ar) (ps pb : Nat) {i : Nat} (h : i < 9) : (arCells A ps pb)[5 + i]? = some (.int .u64 (A.fixed i)) := by
  match i, h with
  | 0, _ | 1, _ | 2, _ | 3, _ | 4, _ | 5, _ | 6, _ | 7, _ | 8, _ => rfl
theorem fixed_set (A : Ar) (ps pb : Nat) {i : Nat} (h : i < 9) (x : Nat) : (arCells A ps pb).setIfInBounds (5 + i) (.int .u64 x) = arCells (A.set 0 i x) ps pb := by
  match i, h with
  | 0, _ | 1, _ | 2, _ | 3, _ | 4, _ | 5, _ | 6, _ | 7, _ | 8, _ => rfl
theorem fixed_shut {w : World} {p : Nat} {A : Ar} {R : Assn} {ps pb i x : Nat} (f : Tly → Tly) (hi : ArInv ((A.set 0 i x).tick f))
    (h : Sat w (own p (.cells (arCells ((A.tick f).set 0 i x) ps pb) 172 (0, 0)) * (stkAt ps A.s * (mapAt pb (A.bs.map ent) * (rowsAt A.bs * R))))) : Sat w (arAt p ((A.set 0 i x).tick f) * R) := by
  have e1 : (A.set 0 i x).tick f = (A.tick f).set 0 i x := by unfold Ar.set; rw [if_pos rfl, if_pos rfl]; rfl
  have e2 : ((A.tick f).set 0 i x).s = A.s := by unfold Ar.set; rw [if_pos rfl]; rfl
  have e3 : ((A.tick f).set 0 i x).bs = A.bs := by unfold Ar.set; rw [if_pos rfl]; rfl
  rw [e1] at hi ⊢
  refine arAt_shut (ps := ps) (pb := pb) hi ?_
  rw [e2, e3]
  exact h
def addW (x n : Nat) : Nat := (x + n) % TW
theorem addW_lt (x n : Nat) : addW x n < TW := Nat.mod_lt _ (by unfold TW; omega)
theorem addW_eq (x n : Nat) : IntKind.u64.wrap ((x : Int) + (n : Int)) = (addW x n : Int) := by
  rw [IntKind.wrap_u64]; unfold addW TW; omega
end Go.Proofs.Ytnkikhhiaecebaa
