/- Models as plain data: what an operation is answered, and leaves; right responses, small changes, parts that don't touch one another. No program in sight. -/
import Derived.Test.YtnkikhhiaecebaaBaseMap
set_option linter.all false
namespace Go.Proofs.Ytnkikhhiaecebaa
open Go Go.RowKit

structure Md where
  nilq : Bool
  q : List Int
  ps : List (Int × Value)
  ss : List (Int × Value)
def usesK (c : Int) : Bool := decide (4 ≤ c) && decide (c ≠ 8)
def usesA (c : Int) : Bool := decide (c = 1) || decide (c = 5) || decide (c = 7) || decide (c = 10)
def usesB (c : Int) : Bool := decide (c = 7)
structure RightO (c k a b : Int) : Prop where
  c0 : 0 ≤ c
  c1 : c ≤ 14
  k0 : 0 ≤ k
  k1 : k ≤ 255
  ku : 0 < k → usesK c = true
  a0 : 0 ≤ a
  a1 : a ≤ 1023
  au : 0 < a → usesA c = true
  b0 : 0 ≤ b
  b1 : b ≤ 1023
  bu : 0 < b → usesB c = true
instance (c k a b : Int) : Decidable (RightO c k a b) :=
  if h : 0 ≤ c ∧ c ≤ 14 ∧ 0 ≤ k ∧ k ≤ 255 ∧ (0 < k → usesK c = true) ∧ 0 ≤ a ∧ a ≤ 1023 ∧ (0 < a → usesA c = true) ∧ 0 ≤ b ∧ b ≤ 1023 ∧ (0 < b → usesB c = true) then
    isTrue ⟨h.1, h.2.1, h.2.2.1, h.2.2.2.1, h.2.2.2.2.1, h.2.2.2.2.2.1, h.2.2.2.2.2.2.1, h.2.2.2.2.2.2.2.1, h.2.2.2.2.2.2.2.2.1, h.2.2.2.2.2.2.2.2.2.1, h.2.2.2.2.2.2.2.2.2.2⟩
  else isFalse fun r => h ⟨r.c0, r.c1, r.k0, r.k1, r.ku, r.a0, r.a1, r.au, r.b0, r.b1, r.bu⟩
def intV (n : Int) : Value := .int .i64 n
def numV (v : Value) : Int := match v with
  | .int _ n => n
  | _ => 0
/-- The number at a key, or 0. -/
def atK (l : List (Int × Value)) (x : Int) : Int := match look l x with
  | some (.int _ n) => n
  | _ => 0
def hadF (l : List (Int × Value)) (k : Int) : Int × Int := if (look l k).isSome = true then (0, atK l k) else (1, 0)
def floorF (l : List (Int × Value)) : Nat → Int × Int
  | 0 => if (look l 0).isSome = true then (0, 0 * 1024 + atK l 0) else (1, 0)
  | n + 1 => if (look l ((n + 1 : Nat) : Int)).isSome = true then (0, ((n + 1 : Nat) : Int) * 1024 + atK l ((n + 1 : Nat) : Int)) else floorF l n
def mdQ (c a : Int) (m : Md) : (Int × Int) × Md :=
  if c = 3 then ((0, (m.q.length : Int)), m)
  else if c = 1 then (if 256 ≤ m.q.length then ((2, 0), m) else ((0, (m.q.length : Int) + 1), { m with nilq := false, q := m.q ++ [a] }))
  else match m.q with
    | [] => ((1, 0), m)
    | n :: r => ((0, n), { m with q := r })
def mdM (c k a b : Int) (m : Md) : (Int × Int) × Md :=
  if c = 4 then (hadF m.ps k, m)
  else if c = 5 then (hadF m.ps k, { m with ps := updL m.ps k (intV a) })
  else if c = 6 then (hadF m.ps k, { m with ps := delL m.ps k })
  else if c = 7 then (if (look m.ps k).isSome = true then (if atK m.ps k = a then ((0, atK m.ps k), { m with ps := updL m.ps k (intV b) }) else ((4, atK m.ps k), m)) else ((1, 0), m))
  else if c = 8 then ((0, (m.ps.length : Int)), m)
  else (floorF m.ps k.toNat, m)
def stepS (l : List (Int × Value)) (k by_ end_ at_ : Int) (m : Md) : (Int × Int) × Md :=
  if atK l k = end_ then ((at_, 0), m) else ((0, atK l k + by_), { m with ss := updL l k (intV (atK l k + by_)) })
def mdS (c k a : Int) (m : Md) : (Int × Int) × Md :=
  if c = 10 then (hadF m.ss k, { m with ss := updL m.ss k (intV a) })
  else if c = 14 then (hadF m.ss k, { m with ss := delL m.ss k })
  else if (look m.ss k).isSome = true then
    (if c = 11 then stepS m.ss k (-1) 0 3 m else if c = 12 then stepS m.ss k 1 1023 2 m else ((0, atK m.ss k), m))
  else ((1, 0), m)
/-- An operation: its response's kind and value, and the model behind it. -/
def mdF (c k a b : Int) (m : Md) : (Int × Int) × Md :=
  if RightO c k a b ∧ c ≠ 0 then (if c ≤ 3 then mdQ c a m else if c ≤ 9 then mdM c k a b m else mdS c k a m) else ((1, 0), m)

structure MapOk (l : List (Int × Value)) : Prop where
  once : Keys1 l
  keys : ∀ x ∈ l, 0 ≤ x.1 ∧ x.1 ≤ 255
  vals : ∀ x ∈ l, ∃ n, x.2 = intV n ∧ 0 ≤ n ∧ n ≤ 1023
theorem MapOk.nil : MapOk [] := ⟨by simp [Keys1], fun x h => (by cases h), fun x h => (by cases h)⟩
theorem updL_mem {l : List (Int × Value)} {k : Int} {v : Value} : ∀ {y}, y ∈ updL l k v → y = (k, v) ∨ y ∈ l := by
  induction l with
  | nil => intro y h; simp only [updL, List.mem_singleton] at h; exact .inl h
  | cons z l ih =>
    intro y h
    simp only [updL] at h
    split at h
    · rcases List.mem_cons.1 h with h | h
      · exact .inl h
      · exact .inr (List.mem_cons_of_mem _ h)
    · rcases List.mem_cons.1 h with h | h
      · exact .inr (h ▸ List.mem_cons_self)
      · rcases ih h with h | h
        · exact .inl h
        · exact .inr (List.mem_cons_of_mem _ h)
theorem MapOk.upd {l : List (Int × Value)} (h : MapOk l) {k n : Int} (k0 : 0 ≤ k) (k1 : k ≤ 255) (n0 : 0 ≤ n) (n1 : n ≤ 1023) : MapOk (updL l k (intV n)) := by
  refine ⟨updL_keys1 h.once, fun x hx => ?_, fun x hx => ?_⟩
  · rcases updL_mem hx with rfl | hx
    · exact ⟨k0, k1⟩
    · exact h.keys x hx
  · rcases updL_mem hx with rfl | hx
    · exact ⟨n, rfl, n0, n1⟩
    · exact h.vals x hx
theorem MapOk.del {l : List (Int × Value)} (h : MapOk l) (k : Int) : MapOk (delL l k) := ⟨delL_keys1 h.once, fun x hx => h.keys x (delL_sub.subset hx), fun x hx => h.vals x (delL_sub.subset hx)⟩
theorem MapOk.at {l : List (Int × Value)} (h : MapOk l) (k : Int) : 0 ≤ atK l k ∧ atK l k ≤ 1023 := by
  unfold atK
  cases hl : look l k with
  | none => exact ⟨Int.le_refl 0, by decide⟩
  | some v =>
    obtain ⟨n, hn, h0, h1⟩ := h.vals _ (look_in hl)
    simp only at hn
    subst hn
    exact ⟨h0, h1⟩
theorem MapOk.len {l : List (Int × Value)} (h : MapOk l) : l.length ≤ 256 := by
  have h1 : (l.map fun x => x.1.toNat).Nodup := by
    have := h.once
    unfold Keys1 at this
    rw [List.Nodup, List.pairwise_map] at this ⊢
    refine this.imp_of_mem fun {a b} ha hb hne e => hne ?_
    have := h.keys a ha
    have := h.keys b hb
    omega
  have h2 : (l.map fun x => x.1.toNat) ⊆ List.range 256 := fun y hy => by
    obtain ⟨x, hx, rfl⟩ := List.mem_map.1 hy
    have := h.keys x hx
    rw [List.mem_range]; omega
  have : ∀ (a b : List Nat), a.Nodup → a ⊆ b → a.length ≤ b.length := by
    intro a
    induction a with
    | nil => intro b _ _; exact Nat.zero_le _
    | cons x a ih =>
      intro b hn hs
      rw [List.nodup_cons] at hn
      have hx : x ∈ b := hs List.mem_cons_self
      have h3 := ih (b.erase x) hn.2 fun y hy => by
        refine (List.mem_erase_of_ne ?_).2 (hs (List.mem_cons_of_mem _ hy))
        intro e; exact hn.1 (e ▸ hy)
      rw [List.length_erase_of_mem hx] at h3
      have : 0 < b.length := List.length_pos_of_mem hx
      simp only [List.length_cons]
      omega
  have := this _ _ h1 h2
  simpa using this
structure MdOk (m : Md) : Prop where
  ql : m.q.length ≤ 256
  qv : ∀ x ∈ m.q, 0 ≤ x ∧ x ≤ 1023
  ps : MapOk m.ps
  ss : MapOk m.ss
theorem MdOk.new : MdOk ⟨true, [], [], []⟩ := ⟨Nat.zero_le _, fun x h => (by cases h), MapOk.nil, MapOk.nil⟩
def mdSize (m : Md) : Int := (m.q.length : Int) + (m.ps.length : Int) + (m.ss.length : Int)
def RespOk (r : Int × Int) : Prop := (0 ≤ r.1 ∧ r.1 ≤ 4) ∧ (0 ≤ r.2 ∧ r.2 ≤ 268435455) ∧ (r.2 = 0 ∨ r.1 = 0 ∨ r.1 = 4)
theorem hadF_ok {l : List (Int × Value)} (h : MapOk l) (k : Int) : RespOk (hadF l k) := by
  have := h.at k
  unfold hadF
  split
  · exact ⟨by simp, by simp only; omega, .inr (.inl rfl)⟩
  · unfold RespOk; simp
theorem floorF_ok {l : List (Int × Value)} (h : MapOk l) : ∀ {n : Nat}, n ≤ 255 → RespOk (floorF l n)
  | 0, _ => by
    have := h.at 0
    unfold floorF
    split
    · exact ⟨by simp, by simp only; omega, .inr (.inl rfl)⟩
    · unfold RespOk; simp
  | n + 1, hn => by
    have := h.at ((n + 1 : Nat) : Int)
    unfold floorF
    split
    · exact ⟨by simp, by simp only; omega, .inr (.inl rfl)⟩
    · exact floorF_ok h (by omega)
theorem small {x y : Nat} {b : Bool} (h : y = x + if b = true then 0 else 1) : (y : Int) - x ≤ 1 ∧ (x : Int) - y ≤ 1 := by split at h <;> omega
theorem small2 {x y : Nat} {b : Bool} (h : y = x - if b = true then 1 else 0) : (y : Int) - x ≤ 1 ∧ (x : Int) - y ≤ 1 := by split at h <;> omega
def Step1 (m : Md) (r : (Int × Int) × Md) : Prop := RespOk r.1 ∧ MdOk r.2 ∧ mdSize r.2 - mdSize m ≤ 1 ∧ mdSize m - mdSize r.2 ≤ 1
theorem step_same {m : Md} (h : MdOk m) {r : Int × Int} (hr : RespOk r) : Step1 m (r, m) := ⟨hr, h, by show mdSize m - mdSize m ≤ 1; omega, by show mdSize m - mdSize m ≤ 1; omega⟩
theorem mdQ_ok {c k a b : Int} {m : Md} (h : MdOk m) (r : RightO c k a b) : Step1 m (mdQ c a m) := by
  have hq := h.ql
  unfold mdQ
  split
  · exact step_same h ⟨by simp, by simp only; omega, .inr (.inl rfl)⟩
  · split
    · split
      · exact step_same h (by unfold RespOk; simp)
      · refine ⟨⟨by simp, by simp only; omega, .inr (.inl rfl)⟩, ⟨by simp only [List.length_append, List.length_singleton]; omega, fun x hx => ?_, h.ps, h.ss⟩, ?_, ?_⟩
        · rcases List.mem_append.1 hx with hx | hx
          · exact h.qv x hx
          · rw [List.mem_singleton] at hx; subst hx; exact ⟨r.a0, r.a1⟩
        · simp only [mdSize, List.length_append, List.length_singleton]; omega
        · simp only [mdSize, List.length_append, List.length_singleton]; omega
    · split
      · exact step_same h (by unfold RespOk; simp)
      · rename_i n l hl
        have h1 := h.qv n (by rw [hl]; exact List.mem_cons_self)
        rw [hl] at hq
        simp only [List.length_cons] at hq
        refine ⟨⟨by simp, by simp only; omega, .inr (.inl rfl)⟩, ⟨by simp only; omega, fun x hx => h.qv x (by rw [hl]; exact List.mem_cons_of_mem _ hx), h.ps, h.ss⟩, ?_, ?_⟩
        · simp only [mdSize, hl, List.length_cons]; omega
        · simp only [mdSize, hl, List.length_cons]; omega
theorem step_ps {m : Md} (h : MdOk m) {l : List (Int × Value)} (hl : MapOk l) (h1 : (l.length : Int) - m.ps.length ≤ 1 ∧ (m.ps.length : Int) - l.length ≤ 1) {r : Int × Int} (hr : RespOk r) : Step1 m (r, { m with ps := l }) :=
  ⟨hr, ⟨h.ql, h.qv, hl, h.ss⟩, by simp only [mdSize]; omega, by simp only [mdSize]; omega⟩
theorem step_ss {m : Md} (h : MdOk m) {l : List (Int × Value)} (hl : MapOk l) (h1 : (l.length : Int) - m.ss.length ≤ 1 ∧ (m.ss.length : Int) - l.length ≤ 1) {r : Int × Int} (hr : RespOk r) : Step1 m (r, { m with ss := l }) :=
  ⟨hr, ⟨h.ql, h.qv, h.ps, hl⟩, by simp only [mdSize]; omega, by simp only [mdSize]; omega⟩
theorem mdM_ok {c k a b : Int} {m : Md} (h : MdOk m) (r : RightO c k a b) : Step1 m (mdM c k a b m) := by
  have hk := hadF_ok h.ps k
  have hat := h.ps.at k
  have hl := h.ps.len
  have h0 := r.k0
  have h1 := r.k1
  unfold mdM
  split
  · exact step_same h hk
  split
  · exact step_ps h (h.ps.upd r.k0 r.k1 r.a0 r.a1) (small updL_len) hk
  split
  · exact step_ps h (h.ps.del k) (small2 delL_len) hk
  split
  · split
    · split
      · exact step_ps h (h.ps.upd r.k0 r.k1 r.b0 r.b1) (small updL_len) ⟨by simp, by simp only; omega, .inr (.inl rfl)⟩
      · exact step_same h ⟨by simp, by simp only; omega, .inr (.inr rfl)⟩
    · exact step_same h (by unfold RespOk; simp)
  split
  · exact step_same h ⟨by simp, by simp only; omega, .inr (.inl rfl)⟩
  · exact step_same h (floorF_ok h.ps (by omega))
theorem stepS_ok {k by_ end_ at_ : Int} {m : Md} (h : MdOk m) (k0 : 0 ≤ k) (k1 : k ≤ 255) (hs : (look m.ss k).isSome = true) (hat : at_ = 2 ∨ at_ = 3) (hby : (by_ = -1 ∧ end_ = 0) ∨ (by_ = 1 ∧ end_ = 1023)) : Step1 m (stepS m.ss k by_ end_ at_ m) := by
  have ha := h.ss.at k
  unfold stepS
  split
  · exact step_same h ⟨by simp only; omega, by simp, .inl rfl⟩
  · exact step_ss h (h.ss.upd k0 k1 (by omega) (by omega)) (small updL_len) ⟨by simp, by simp only; omega, .inr (.inl rfl)⟩
theorem mdS_ok {c k a b : Int} {m : Md} (h : MdOk m) (r : RightO c k a b) : Step1 m (mdS c k a m) := by
  have hk := hadF_ok h.ss k
  have hat := h.ss.at k
  unfold mdS
  split
  · exact step_ss h (h.ss.upd r.k0 r.k1 r.a0 r.a1) (small updL_len) hk
  split
  · exact step_ss h (h.ss.del k) (small2 delL_len) hk
  split
  · rename_i hs
    split
    · exact stepS_ok h r.k0 r.k1 hs (.inr rfl) (.inl ⟨rfl, rfl⟩)
    split
    · exact stepS_ok h r.k0 r.k1 hs (.inl rfl) (.inr ⟨rfl, rfl⟩)
    · exact step_same h ⟨by simp, by simp only; omega, .inr (.inl rfl)⟩
  · exact step_same h (by unfold RespOk; simp)
/-- Every operation: a right response, small changes, a model again. -/
theorem mdF_ok {c k a b : Int} {m : Md} (h : MdOk m) : Step1 m (mdF c k a b m) := by
  unfold mdF
  split
  · rename_i hr
    split
    · exact mdQ_ok h hr.1
    split
    · exact mdM_ok h hr.1
    · exact mdS_ok h hr.1
  · exact step_same h (by unfold RespOk; simp)
/-- What is asked alone changes nothing. -/
theorem mdF_asks {c k a b : Int} {m : Md} (hc : c = 3 ∨ c = 4 ∨ c = 8 ∨ c = 9 ∨ c = 13) : (mdF c k a b m).2 = m := by
  unfold mdF
  split
  · rcases hc with rfl | rfl | rfl | rfl | rfl
    · rw [if_pos (by decide)]; unfold mdQ; rw [if_pos rfl]
    · rw [if_neg (by decide), if_pos (by decide)]; unfold mdM; rw [if_pos rfl]
    · rw [if_neg (by decide), if_pos (by decide)]; unfold mdM; rw [if_neg (by decide), if_neg (by decide), if_neg (by decide), if_neg (by decide), if_pos rfl]
    · rw [if_neg (by decide), if_pos (by decide)]; unfold mdM; rw [if_neg (by decide), if_neg (by decide), if_neg (by decide), if_neg (by decide), if_neg (by decide)]
    · rw [if_neg (by decide), if_neg (by decide)]
      unfold mdS
      rw [if_neg (by decide), if_neg (by decide)]
      split
      · rw [if_neg (by decide), if_neg (by decide)]
      · rfl
  · rfl
/-- Maps with the same entries. -/
def mapsEq (l k : List (Int × Value)) : Prop := l.length = k.length ∧ ∀ x ∈ l, look k x.1 = some x.2
def SameP (m n : Md) : Prop := m.q = n.q ∧ mapsEq m.ps n.ps ∧ mapsEq m.ss n.ss
theorem mapsEq_of {l k : List (Int × Value)} (hl : Keys1 l) (hk : Keys1 k) (h : ∀ x, look l x = look k x) : mapsEq l k := by
  have sub : ∀ {l k : List (Int × Value)}, Keys1 l → (∀ x, look l x = look k x) → l ⊆ k := fun {l k} hl h y hy => look_in (by rw [← h]; exact look_of_mem hl hy)
  have nd : ∀ {l : List (Int × Value)}, Keys1 l → l.Nodup := fun {l} hl => (List.pairwise_map.1 hl).imp fun hne e => hne (by rw [e])
  have len : ∀ (a b : List (Int × Value)), a.Nodup → a ⊆ b → a.length ≤ b.length := by
    intro a
    induction a with
    | nil => intro b _ _; exact Nat.zero_le _
    | cons x a ih =>
      intro b hn hs
      rw [List.nodup_cons] at hn
      obtain ⟨s, t, rfl⟩ := List.append_of_mem (hs List.mem_cons_self)
      have h3 := ih (s ++ t) hn.2 fun y hy => by
        have h4 := hs (List.mem_cons_of_mem _ hy)
        rw [List.mem_append, List.mem_cons] at h4
        rw [List.mem_append]
        rcases h4 with h4 | h4 | h4
        · exact .inl h4
        · exact absurd (h4 ▸ hy) hn.1
        · exact .inr h4
      simp only [List.length_append, List.length_cons] at h3 ⊢
      omega
  refine ⟨Nat.le_antisymm (len _ _ (nd hl) (sub hl h)) (len _ _ (nd hk) (sub hk fun x => (h x).symm)), fun x hx => ?_⟩
  rw [← h]
  exact look_of_mem hl hx
theorem mapsEq_refl {l : List (Int × Value)} (h : Keys1 l) : mapsEq l l := mapsEq_of h h fun _ => rfl
theorem SameP.refl {m : Md} (h : MdOk m) : SameP m m := ⟨rfl, mapsEq_refl h.ps.once, mapsEq_refl h.ss.once⟩
end Go.Proofs.Ytnkikhhiaecebaa
