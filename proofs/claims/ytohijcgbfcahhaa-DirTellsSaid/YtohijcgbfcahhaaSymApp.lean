/- The executor: append. -/
import Derived.Test.YtohijcgbfcahhaaSymMem
import Derived.Maps.AppendAt
import Derived.Laws.AppendOwnNone
namespace Go.Proofs.Ytohijcgbfcahhaa
open Go Go.RowKit

section
variable {E : EXT} {P : Program}

theorem append_core {t e : TypeId} {i : TypeInfo} {z : Value} {k : Nat} (ht : P.underlying t = some (.slice e)) (hi : P.info? e = some i) (hz : i.zero = some z) (hk : i.size = k) (hzs : z.cells.size = k) (hpos : 0 < k) (hby : i.bytes ≤ 100000)
    {w : World} {v : Value} {n : Nat} {xs : List Value} {Q : Assn} (H : Sat w (rowK e k v n xs * Q)) (a : Addr) (m c : Nat) (news : List Value) (hl : news.length = m * k) (hnews : ∀ j u, news[j]? = some u → w.cell? (a.add j) = some u) (h1 : ∀ u ∈ news, u.oneCell' = true)
    (hb : n + m ≤ 1000000000) (ty : TypeId) :
    ∃ v' w', (Builtin.append_ #[t, t] ty #[v, .slice (some a) m c]).run P w = .ok v' w' ∧ Sat w' (rowK e k v' (n + m) (xs ++ news) * Q) ∧ Kept w w' ∧ (v' = .slice none 0 0 ↔ v = .slice none 0 0 ∧ m = 0) := by
  have hbytes : (n + m) * i.bytes ≤ 140737488355328 := Nat.le_trans (Nat.mul_le_mul hb hby) (by decide)
  obtain ⟨v', w', hr, ho, hg, hn, hw⟩ := run_append_own_at (P := P) w 0 t ty e i z k i.bytes ht hi hz hk rfl hzs hpos v n xs (rowK_owns H) a m c news hl hnews h1 (by unfold maxLen; omega) hbytes (Nat.zero_le _)
  exact ⟨v', w', hr, rowK_appended H ho hg hw, (Kept.refl w).grown hg, hn⟩
theorem rowK_head {w : World} {e : TypeId} {k n : Nat} {v : Value} {xs : List Value} {Q : Assn} (H : Sat w (rowK e k v n xs * Q)) (hv : v ≠ .slice none 0 0) : ∃ g cap, v = .slice (some ⟨g, 0, none⟩) n cap ∧ n ≤ cap ∧ Sat w (rowHead g e k n cap xs * Q) := by
  obtain ⟨h0, ⟨h1, _⟩ | ⟨g, cap, cur, h1, h2, h3, h4, h5, h6⟩⟩ := rowK_open H
  · exact absurd h1 hv
  · refine ⟨g, cap, h1, h2, Sat.mk_ex_mul cur ?_⟩
    rw [Assn.mul_assoc]
    exact Sat.mk_pure_mul ⟨h0, h2, h3, h4, h5⟩ h6
theorem head_rowK {w : World} {e : TypeId} {k n0 n cap g : Nat} {xs : List Value} {Q : Assn} (H : Sat w (rowHead g e k n0 cap xs * Q)) (hn : n ≤ n0) : Sat w (rowK e k (.slice (some ⟨g, 0, none⟩) n cap) n (xs.take (n * k)) * Q) := by
  obtain ⟨cur, H⟩ := H.ex_mul
  rw [Assn.mul_assoc] at H
  obtain ⟨⟨h0, h1, h2, h3, h4⟩, H⟩ := H.pure_mul
  have hle : n * k ≤ n0 * k := Nat.mul_le_mul_right _ hn
  refine rowK_shut ?_ (Nat.le_trans hn h1) h2 h3 ?_ H
  · rw [List.length_take, h0, Nat.min_eq_left hle]
  · rw [← h4, List.take_take, Nat.min_eq_left hle]

/-- What a slice's elements are told as. -/
inductive CT where
  | lits (l : List SC)
  | ints (k : IntKind) (f : Nat → Int)
  | vals (f : Nat → List Value)
def CT.cells (ν : Nat → Nat) (n : Nat) : CT → List Value
  | .lits l => SC.denL ν l
  | .ints k f => intsOf k n f
  | .vals f => valsOf n f
/-- The slice that is appended to: its name, whether its length is known, its length, its elements; so much is to be shown. -/
def baseC (h : SH E) (e : TypeId) (k : Nat) (s : SV) : Option (Option Nat × Bool × Nat × CT × Prop) :=
  match s with
  | .c .nls => some (none, true, 0, .lits [], True)
  | .c (.sli n k' true 0 ll len cap) => bif k' == k then (match h.get n with
    | some (.cells l t) => bif t == e && ll && (cap * k == l.length) && Nat.ble len cap && Nat.ble cap 1000000000 then some (some n, true, len, .lits (l.take (len * k)), True) else none
    | some (.row t k2 n0 cap0 l) => bif t == e && k2 == k && ll && Nat.ble len n0 then some (some n, true, len, .lits (l.take (len * k)), cap = cap0) else none
    | some (.ints t kd n0 cap0 f) => bif t == e && k == 1 then some (some n, ll, len, .ints kd f, cap = cap0 ∧ len ≤ n0) else none
    | some (.vals t k2 n0 cap0 f) => bif t == e && k2 == k then some (some n, ll, len, .vals f, cap = cap0 ∧ len ≤ n0) else none
    | _ => none) else none
  | _ => none
theorem intsOf_take (k : IntKind) {n m : Nat} (f : Nat → Int) (h : n ≤ m) : (intsOf k m f).take n = intsOf k n f := by
  unfold intsOf
  rw [← List.map_take, List.take_range, Nat.min_eq_left h]
theorem valsOf_take (k : Nat) {n m : Nat} (f : Nat → List Value) (h : n ≤ m) (hl : ∀ i, i < m → (f i).length = k) : (valsOf m f).take (n * k) = valsOf n f := by
  induction m with
  | zero =>
    obtain rfl : n = 0 := by omega
    simp [valsOf]
  | succ m ih =>
    rw [valsOf_succ]
    have hlm := valsOf_len k m f fun i hi => hl i (Nat.lt_succ_of_lt hi)
    rcases Nat.lt_or_ge m n with h' | h'
    · obtain rfl : n = m + 1 := by omega
      rw [← valsOf_succ]
      exact List.take_of_length_le (by rw [valsOf_len k (m + 1) f hl]; exact Nat.le_refl _)
    · rw [List.take_append_of_le_length (by rw [hlm]; exact Nat.mul_le_mul_right _ h')]
      exact ih h' fun i hi => hl i (Nat.lt_succ_of_lt hi)
def delO (h : SH E) : Option Nat → SH E
  | none => h
  | some n => h.del n
theorem baseC_sound {h : SH E} {e : TypeId} {k : Nat} {s : SV} {nm : Option Nat} {ll : Bool} {n : Nat} {ct : CT} {p : Prop} (hb : baseC h e k s = some (nm, ll, n, ct, p)) (hp : p) {ν : Nat → Nat} {w : World} {R : Assn} (H : Sat w (h.den ν * R)) :
    Sat w (rowK e k (s.den ν) n (ct.cells ν n) * ((delO h nm).den ν * R)) ∧ (nm = none → s.den ν = .slice none 0 0 ∧ n = 0) ∧ (∀ m, nm = some m → s.den ν ≠ .slice none 0 0) ∧ (∀ f, ct = .vals f → ∀ i, i < n → (f i).length = k) := by
  unfold baseC at hb
  split at hb <;> try cases hb
  · refine ⟨?_, fun _ => ⟨rfl, rfl⟩, (fun m hm => by cases hm), (fun f hf => by cases hf)⟩
    simp only [SV.den, SC.den, CT.cells, SC.denL, delO]
    exact rowK_nil H
  · rename_i n0 k' ll0 len cap
    cases hk : k' == k <;> rw [hk] at hb
    · cases hb
    have hk := eq_of_beq hk
    subst hk
    simp only [cond_true] at hb
    split at hb <;> try cases hb
    · rename_i l t hob
      rw [SH.den_get ν hob, Assn.mul_assoc] at H
      cases hc : t == e && ll0 && (cap * k' == l.length) && Nat.ble len cap && Nat.ble cap 1000000000 <;> rw [hc] at hb
      · cases hb
      simp only [cond_true, Option.some.injEq, Prod.mk.injEq] at hb
      obtain ⟨rfl, rfl, rfl, rfl, rfl⟩ := hb
      simp only [Bool.and_eq_true, beq_iff_eq, Nat.ble_eq] at hc
      obtain ⟨⟨⟨⟨rfl, _⟩, h3⟩, h4⟩, h5⟩ := hc
      refine ⟨?_, (fun e => by cases e), (fun m _ e => by simp [SV.den, SC.den] at e), (fun f hf => by cases hf)⟩
      simp only [SO.den] at H
      simp only [SV.den, SC.den, CT.cells, delO, Nat.zero_mul]
      have hlen : (SC.denL ν l).length = l.length := by rw [denL_map, List.length_map]
      have e1 : SC.denL ν (l.take (len * k')) = (SC.denL ν l).take (len * k') := by rw [denL_map, denL_map, List.map_take]
      rw [e1]
      refine head_rowK (n0 := cap) ?_ h4
      refine Sat.mk_ex_mul (SC.denL ν l).toArray ?_
      rw [Assn.mul_assoc]
      exact Sat.mk_pure_mul ⟨by rw [hlen, h3], Nat.le_refl _, by unfold maxLen; omega, by rw [List.size_toArray, hlen, h3], by rw [List.take_of_length_le (by simp only [hlen, h3]; exact Nat.le_refl _)]⟩ H
    · rename_i t k2 m0 cap0 l hob
      rw [SH.den_get ν hob, Assn.mul_assoc] at H
      cases hc : t == e && k2 == k' && ll0 && Nat.ble len m0 <;> rw [hc] at hb
      · cases hb
      simp only [cond_true, Option.some.injEq, Prod.mk.injEq] at hb
      obtain ⟨rfl, rfl, rfl, rfl, rfl⟩ := hb
      simp only [Bool.and_eq_true, beq_iff_eq, Nat.ble_eq] at hc
      obtain ⟨⟨⟨rfl, rfl⟩, _⟩, h4⟩ := hc
      subst hp
      refine ⟨?_, (fun e => by cases e), (fun m _ e => by simp [SV.den, SC.den] at e), (fun f hf => by cases hf)⟩
      simp only [SO.den] at H
      simp only [SV.den, SC.den, CT.cells, delO, Nat.zero_mul]
      have e1 : SC.denL ν (l.take (len * k2)) = (SC.denL ν l).take (len * k2) := by rw [denL_map, denL_map, List.map_take]
      rw [e1]
      exact head_rowK H h4
    · rename_i t kd m0 cap0 f hob
      rw [SH.den_get ν hob, Assn.mul_assoc] at H
      cases hc : t == e && k' == 1 <;> rw [hc] at hb
      · cases hb
      simp only [cond_true, Option.some.injEq, Prod.mk.injEq] at hb
      obtain ⟨rfl, rfl, rfl, rfl, rfl⟩ := hb
      simp only [Bool.and_eq_true, beq_iff_eq] at hc
      obtain ⟨rfl, rfl⟩ := hc
      obtain ⟨rfl, h4⟩ := hp
      refine ⟨?_, (fun e => by cases e), (fun m _ e => by simp [SV.den, SC.den] at e), (fun f hf => by cases hf)⟩
      simp only [SO.den] at H
      simp only [SV.den, SC.den, CT.cells, delO, Nat.zero_mul]
      have := head_rowK H h4
      rwa [Nat.mul_one, intsOf_take _ _ h4] at this
    · rename_i t k2 m0 cap0 f hob
      rw [SH.den_get ν hob, Assn.mul_assoc] at H
      cases hc : t == e && k2 == k' <;> rw [hc] at hb
      · cases hb
      simp only [cond_true, Option.some.injEq, Prod.mk.injEq] at hb
      obtain ⟨rfl, rfl, rfl, rfl, rfl⟩ := hb
      simp only [Bool.and_eq_true, beq_iff_eq] at hc
      obtain ⟨rfl, rfl⟩ := hc
      obtain ⟨rfl, h4⟩ := hp
      have hvl := vals_len H
      refine ⟨?_, (fun e => by cases e), (fun m _ e => by simp [SV.den, SC.den] at e), (fun f' hf => by cases hf; exact fun i hi => hvl i (Nat.lt_of_lt_of_le hi h4))⟩
      simp only [SO.den] at H
      rw [Assn.mul_assoc] at H
      simp only [SV.den, SC.den, CT.cells, delO, Nat.zero_mul]
      have := head_rowK H.pure_mul.2 h4
      rwa [valsOf_take _ _ h4 hvl] at this
/-- What is appended: whether its length is known, from where on, how much, its elements; so much is to be shown. -/
def srcC (h : SH E) (k : Nat) (x : SV) : Option (Bool × Nat × Nat × CT × Prop) :=
  match x with
  | .c (.sli n k' lo o ll len _) => bif k' == k then (match h.get n with
    | some ob => match ob.known with
      | some l => bif lo && ll && Nat.ble ((o + len) * k) l.length && oneAll l then some (true, 0, len, .lits ((l.drop (o * k)).take (len * k)), True) else none
      | none => match ob with
        | .ints _ kd n0 _ f => bif k == 1 then some (ll, o, len, .ints kd (fun i => f (addO lo o i)), o + len ≤ n0) else none
        | .vals _ k2 n0 _ f => bif k2 == k then some (ll, o, len, .vals (fun i => f (addO lo o i)), o + len ≤ n0 ∧ ∀ i, i < len → ∀ u ∈ f (addO lo o i), u.oneCell' = true) else none
        | _ => none
    | none => none) else none
  | _ => none
theorem valsOf_congr' {n : Nat} {f g : Nat → List Value} (h : ∀ i, i < n → f i = g i) : valsOf n f = valsOf n g := by
  unfold valsOf
  rw [List.flatMap_def, List.flatMap_def]
  congr 1
  apply List.map_congr_left
  intro i hi
  exact h i (List.mem_range.1 hi)
def plainL : List SC → Option (List Value)
  | [] => some []
  | c :: l => match plainL l with
    | some r => match c with
      | .int _ k n _ => some (.int k n :: r)
      | .boo _ b => some (.bool b :: r)
      | .nls => some (.slice none 0 0 :: r)
      | .sliv a _ n c => some (.slice a n c :: r)
      | .ptv a => some (.pointer a :: r)
      | .raw v => some (v :: r)
      | _ => none
    | none => none
theorem plainL_den (ν : Nat → Nat) : ∀ {l : List SC} {r : List Value}, plainL l = some r → SC.denL ν l = r
  | [], r, h => by simp only [plainL, Option.some.injEq] at h; subst h; rfl
  | c :: l, r, h => by
    simp only [plainL] at h
    split at h <;> try cases h
    rename_i r' hr
    have ih := plainL_den ν hr
    split at h <;> first | (cases h; done) | (simp only [Option.some.injEq] at h; subst h; simp [SC.denL, SC.den, ih])
/-- The two joined: the elements of the whole. -/
def joinC (n : Nat) (a : CT) (m : Nat) (b : CT) : Option CT :=
  match a with
  | .lits [] => match b with
    | .lits r => some (.lits r)
    | b => some b
  | .lits l => match b with
    | .lits r => some (.lits (l ++ r))
    | _ => none
  | .ints k f => match b with
    | .lits [.int _ k' x _] => if k = k' then (match m with
      | 1 => some (.ints k fun i => if i < n then f i else x)
      | _ => none) else none
    | _ => none
  | .vals f => match b with
    | .lits r => match plainL r with
      | some vs => match m with
        | 1 => some (.vals fun i => if i < n then f i else vs)
        | _ => none
      | none => none
    | _ => none
theorem joinC_sound {n m k : Nat} {a b c : CT} (h : joinC n a m b = some c) (hk : 0 < k) {ν : Nat → Nat} (ha : (a.cells ν n).length = n * k) (hb : (b.cells ν m).length = m * k) (hva : ∀ f, a = .vals f → ∀ i, i < n → (f i).length = k) (hvb : ∀ f, b = .vals f → ∀ i, i < m → (f i).length = k) :
    c.cells ν (n + m) = a.cells ν n ++ b.cells ν m ∧ ∀ f, c = .vals f → ∀ i, i < n + m → (f i).length = k := by
  unfold joinC at h
  split at h
  · have hn : n = 0 := by
      simp only [CT.cells, SC.denL, List.length_nil] at ha
      rcases Nat.eq_zero_or_pos n with h0 | h0
      · exact h0
      · have := Nat.mul_pos h0 hk; omega
    subst hn
    split at h
    · simp only [Option.some.injEq] at h
      subst h
      exact ⟨by simp [CT.cells, SC.denL], fun f hf => by cases hf⟩
    · simp only [Option.some.injEq] at h
      subst h
      refine ⟨by simp [CT.cells, SC.denL], fun f hf i hi => hvb f hf i (by omega)⟩
  · split at h <;> try cases h
    refine ⟨?_, fun f hf => by cases hf⟩
    simp only [CT.cells]
    rw [denL_map, denL_map, denL_map, List.map_append]
  · split at h <;> try cases h
    rename_i k0 f _ _ k' x
    split at h <;> try cases h
    rename_i hkk
    subst hkk
    split at h <;> try cases h
    refine ⟨?_, fun f hf => by cases hf⟩
    simp only [CT.cells, intsOf, SC.denL, SC.den]
    rw [List.range_succ, List.map_append]
    congr 1
    · apply List.map_congr_left
      intro i hi
      rw [if_pos (List.mem_range.1 hi)]
    · simp
  · split at h <;> try cases h
    rename_i f _ r
    split at h <;> try cases h
    rename_i vs hvs
    split at h <;> try cases h
    have hr := plainL_den ν hvs
    simp only [CT.cells] at hb ⊢
    rw [hr] at hb ⊢
    refine ⟨?_, ?_⟩
    · rw [valsOf_succ]
      congr 1
      · exact valsOf_congr' fun i hi => by rw [if_pos hi]
      · simp
    · intro g hg i hi
      cases hg
      simp only
      split
      · rename_i hin; exact hva f rfl i hin
      · rw [hb]; omega
def rowOf (e : TypeId) (k n cap : Nat) : CT → SO E
  | .lits l => .row e k n cap l
  | .ints kd f => .ints e kd n cap f
  | .vals f => .vals e k n cap f
theorem srcC_sound {h : SH E} {k : Nat} {x : SV} {ll : Bool} {o m : Nat} {ct : CT} {p : Prop} (hb : srcC h k x = some (ll, o, m, ct, p)) (hp : p) {ν : Nat → Nat} {w : World} {R : Assn} (H : Sat w (h.den ν * R)) :
    ∃ a c, x.den ν = .slice (some a) m c ∧ (ct.cells ν m).length = m * k ∧ (∀ j u, (ct.cells ν m)[j]? = some u → w.cell? (a.add j) = some u) ∧ (∀ u ∈ ct.cells ν m, u.oneCell' = true) ∧ (∀ f, ct = .vals f → ∀ i, i < m → (f i).length = k) := by
  unfold srcC at hb
  split at hb <;> try cases hb
  rename_i n k' lo o0 ll0 len cap
  cases hk : k' == k <;> rw [hk] at hb
  · cases hb
  have hk := eq_of_beq hk
  subst hk
  simp only [cond_true] at hb
  split at hb <;> try cases hb
  rename_i ob hob
  rw [SH.den_get ν hob, Assn.mul_assoc] at H
  split at hb
  · rename_i l hl
    cases hc : lo && ll0 && Nat.ble ((o0 + len) * k') l.length && oneAll l <;> rw [hc] at hb
    · cases hb
    simp only [cond_true, Option.some.injEq, Prod.mk.injEq] at hb
    obtain ⟨rfl, rfl, rfl, rfl, rfl⟩ := hb
    simp only [Bool.and_eq_true, Nat.ble_eq] at hc
    obtain ⟨⟨_, h3⟩, h4⟩ := hc
    have e1 : SC.denL ν ((l.drop (o0 * k')).take (len * k')) = ((SC.denL ν l).drop (o0 * k')).take (len * k') := by rw [denL_map, denL_map, List.map_take, List.map_drop]
    have hlen : (SC.denL ν l).length = l.length := by rw [denL_map, List.length_map]
    rw [Nat.add_mul] at h3
    refine ⟨⟨ν n, o0 * k', none⟩, cap, rfl, ?_, ?_, ?_, (fun f hf => by cases hf)⟩
    · simp only [CT.cells]
      rw [e1, List.length_take, List.length_drop, hlen]
      omega
    · intro j u hj
      simp only [CT.cells] at hj
      rw [Addr.add_mid]
      rw [denL_map, List.getElem?_map] at hj
      cases hx : ((l.drop (o0 * k')).take (len * k'))[j]? with
      | none => rw [hx] at hj; cases hj
      | some x =>
        rw [hx] at hj
        simp only [Option.map_some, Option.some.injEq] at hj
        subst hj
        refine SO.known_cell hl H _ x ?_
        rw [List.getElem?_take] at hx
        split at hx
        · rw [List.getElem?_drop] at hx; exact hx
        · cases hx
    · intro u hu
      simp only [CT.cells] at hu
      rw [e1] at hu
      exact oneAll_mem h4 ν u (List.mem_of_mem_drop (List.mem_of_mem_take hu))
  · split at hb <;> try cases hb
    · rename_i t kd n0 cp f _
      cases hc : k' == 1 <;> rw [hc] at hb
      · cases hb
      simp only [cond_true, Option.some.injEq, Prod.mk.injEq] at hb
      obtain ⟨rfl, rfl, rfl, rfl, rfl⟩ := hb
      have hc := eq_of_beq hc
      subst hc
      refine ⟨⟨ν n, o0 * 1, none⟩, cap, rfl, by simp [CT.cells, intsOf], ?_, ?_, (fun f hf => by cases hf)⟩
      · intro j u hj
        rw [Addr.add_mid]
        have hjl : j < len := by
          rcases Nat.lt_or_ge j len with h' | h'
          · exact h'
          · rw [List.getElem?_eq_none (by simp [CT.cells, intsOf]; exact h')] at hj; cases hj
        simp only [CT.cells, intsOf_get _ _ _ j hjl, Option.some.injEq] at hj
        subst hj
        have := ints_cell H (o0 + j) (by omega)
        simpa [addO_eq] using this
      · intro u hu
        simp only [CT.cells, intsOf, List.mem_map] at hu
        obtain ⟨_, _, rfl⟩ := hu
        rfl
    · rename_i t k2 n0 cp f _
      cases hc : k2 == k' <;> rw [hc] at hb
      · cases hb
      simp only [cond_true, Option.some.injEq, Prod.mk.injEq] at hb
      obtain ⟨rfl, rfl, rfl, rfl, rfl⟩ := hb
      have hc := eq_of_beq hc
      subst hc
      obtain ⟨hle, hone⟩ := hp
      have hfl : ∀ i, i < len → (f (addO lo o0 i)).length = k2 := fun i hi => by rw [addO_eq]; exact vals_len H _ (by omega)
      refine ⟨⟨ν n, o0 * k2, none⟩, cap, rfl, valsOf_len _ _ _ hfl, ?_, ?_, (fun f' hf => by cases hf; exact hfl)⟩
      · intro j u hj
        rw [Addr.add_mid]
        simp only [CT.cells] at hj
        have hjl : j < len * k2 := by
          rcases Nat.lt_or_ge j (len * k2) with h' | h'
          · exact h'
          · rw [List.getElem?_eq_none (by rw [valsOf_len _ _ _ hfl]; exact h')] at hj; cases hj
        have hkp : 0 < k2 := by
          rcases Nat.eq_zero_or_pos k2 with h0 | h0
          · rw [h0] at hjl; omega
          · exact h0
        have h1 : j / k2 < len := by rw [Nat.div_lt_iff_lt_mul hkp]; exact hjl
        have h2 : j % k2 < k2 := Nat.mod_lt _ hkp
        have h4 : j / k2 * k2 + j % k2 = j := by rw [Nat.mul_comm]; exact Nat.div_add_mod j k2
        have h5 := valsOf_get k2 len (fun i => f (addO lo o0 i)) hfl (j / k2) (j % k2) h1 h2
        rw [h4, hj] at h5
        rw [addO_eq] at h5
        have := vals_cell H (o0 + j / k2) (j % k2) (by omega) u h5.symm
        rw [Nat.add_mul, Nat.add_assoc, h4] at this
        exact this
      · intro u hu
        simp only [CT.cells, valsOf, List.mem_flatMap, List.mem_range] at hu
        obtain ⟨i, hi, hu⟩ := hu
        exact hone i hi u hu
theorem rowOf_den {ν : Nat → Nat} {e : TypeId} {k n cap g : Nat} {c : CT} {w : World} {Q : Assn} (hk : ∀ kd f, c = .ints kd f → k = 1) (hv : ∀ f, c = .vals f → ∀ i, i < n → (f i).length = k)
    (H : Sat w (rowHead g e k n cap (c.cells ν n) * Q)) : Sat w ((rowOf (E := E) e k n cap c).den ν g * Q) := by
  cases c with
  | lits l => exact H
  | ints kd f =>
    have := hk kd f rfl
    subst this
    exact H
  | vals f =>
    simp only [rowOf, SO.den]
    rw [Assn.mul_assoc]
    exact Sat.mk_pure_mul (hv f rfl) H
def isInts : CT → Bool
  | .ints _ _ => true
  | _ => false
def appE2 (f : SF) (h : SH E) (nm : Nat) (e : TypeId) (k : Nat) (bn : Option Nat) (ll : Bool) (nt : Nat) (c : CT) (d : Option Nat) (K : SF → SH E → Prop) : Prop :=
  ∀ cap, nt ≤ cap → (bif freshB nm f (delO h bn) (rowOf (E := E) e k nt cap c) && (!(isInts c) || k == 1) then K (f.set d (.c (.sli nm k true 0 ll nt cap))) ((delO h bn).put nm (rowOf e k nt cap c)) else Stuck 560)
def appendE (P : Program) (f : SF) (h : SH E) (nm : Nat) (t : TypeId) (s x : SV) (d : Option Nat) (K : SF → SH E → Prop) : Prop :=
  match P.underlying t with
  | some (.slice e) => match P.info? e with
    | some ie => match ie.zero with
      | some z => bif (z.cells.size == ie.size) && Nat.blt 0 ie.size && Nat.ble ie.bytes 100000 then (match baseC h e ie.size s with
        | some (bn, ll, n, a, p) => match x with
          | .c .nls => p ∧ K (f.set d s) h
          | x => match srcC (delO h bn) ie.size x with
            | some (lx, _, m, b, q) => match joinC n a m b with
              | some c => p ∧ q ∧ (n + m ≤ 1000000000) ∧ (match bn with
                | none => bif lx then (match m with
                    | 0 => K (f.set d (.c .nls)) h
                    | m + 1 => appE2 f h nm e ie.size none (ll && lx) (n + (m + 1)) c d K)
                  else (m = 0 → K (f.set d (.c .nls)) h) ∧ (0 < m → appE2 f h nm e ie.size none false (n + m) c d K)
                | some b => appE2 f h nm e ie.size (some b) (ll && lx) (n + m) c d K)
              | none => Stuck 561
            | none => Stuck 562
        | none => Stuck 563) else Stuck 564
      | none => Stuck 565
    | none => Stuck 566
  | _ => Stuck 567
theorem appendE_sound {f : SF} {h : SH E} {nm : Nat} {t : TypeId} {s x : SV} {d : Option Nat} {K : SF → SH E → Prop} (hk : appendE P f h nm t s x d K) {n0 : Nat} (hn0 : n0 ≤ nm) {ν : Nat → Nat} {w w0 : World} {R : Assn} (H : Sat w (h.den ν * R)) (HK : Kept w0 w) (ty : TypeId) :
    ∃ u w', (Builtin.append_ #[t, t] ty #[s.den ν, x.den ν]).run P w = .ok u w' ∧ Goes K n0 ν R w0 ((actOf ν f).put d u) w' := by
  unfold appendE at hk
  split at hk <;> try exact hk.elim
  rename_i e hu
  split at hk <;> try exact hk.elim
  rename_i ie hie
  split at hk <;> try exact hk.elim
  rename_i z hz
  cases hc : (z.cells.size == ie.size) && Nat.blt 0 ie.size && Nat.ble ie.bytes 100000 <;> rw [hc] at hk
  · exact hk.elim
  simp only [cond_true] at hk
  simp only [Bool.and_eq_true, beq_iff_eq, Nat.blt_eq, Nat.ble_eq] at hc
  obtain ⟨⟨hzs, hpos⟩, hby⟩ := hc
  split at hk <;> try exact hk.elim
  rename_i bn ll n a p hb
  split at hk
  · obtain ⟨hp, hk⟩ := hk
    obtain ⟨HB, _, _, _⟩ := baseC_sound hb hp H
    have hr := run_append_owned_none (P := P) (w := w) 0 t ty e ie ie.size hu hie _ _ _ (rowK_owns HB)
    refine ⟨_, w, hr, _, h, ν, hk, Agree.refl _ _, ?_, H, HK⟩
    rw [actOf_put]
  · split at hk <;> try exact hk.elim
    rename_i lx _ m b q hs
    split at hk <;> try exact hk.elim
    rename_i c hj
    obtain ⟨hp, hq, hnm, hk⟩ := hk
    obtain ⟨HB, hnil, hnn, hva⟩ := baseC_sound hb hp H
    have HB2 : Sat w ((delO h bn).den ν * (rowK e ie.size (s.den ν) n (a.cells ν n) * R)) := HB.cast (by ac_rfl)
    obtain ⟨ad, cx, hx, hlb, hcell, hone, hvb⟩ := srcC_sound hs hq HB2
    obtain ⟨v', w', hr, HS, HK', hv'⟩ := append_core (P := P) hu hie hz rfl hzs hpos hby HB ad m cx (b.cells ν m) hlb hcell hone hnm ty
    rw [hx]
    refine ⟨v', w', hr, ?_⟩
    have hla : (a.cells ν n).length = n * ie.size := (rowK_open HB).1
    obtain ⟨hjc, hjv⟩ := joinC_sound hj hpos hla hlb hva hvb
    rw [← hjc] at HS
    have main : ∀ ll, v' ≠ .slice none 0 0 → appE2 f h nm e ie.size bn ll (n + m) c d K → Goes K n0 ν R w0 ((actOf ν f).put d v') w' := by
      intro ll hne h2
      obtain ⟨g, cap, rfl, hcap, HS⟩ := rowK_head HS hne
      have h3 := h2 cap hcap
      cases hfr : freshB nm f (delO h bn) (rowOf (E := E) e ie.size (n + m) cap c) && (!(isInts c) || ie.size == 1) <;> rw [hfr] at h3
      · exact h3.elim
      simp only [cond_true] at h3
      simp only [Bool.and_eq_true, freshB, Bool.not_eq_true'] at hfr
      obtain ⟨⟨⟨f1, f2⟩, f3⟩, f4⟩ := hfr
      refine ⟨_, _, upd ν nm g, h3, Agree.upd hn0 _, ?_, ?_, HK.trans HK'⟩
      · rw [← actOf_put, actOf_eq f fun m hm => (not_mem_upd f1 m hm).symm]
        congr 1
        simp [SV.den, SC.den, upd_same]
      · rw [SH.den_put, upd_same, Assn.mul_assoc, SO.den_eq _ fun m hm => not_mem_upd f3 m hm, SH.den_eq (delO h bn) fun m hm => not_mem_upd f2 m hm]
        refine rowOf_den (fun kd g hg => ?_) hjv HS
        subst hg
        simpa [isInts] using f4
    cases bn with
    | some b0 =>
      exact main _ (fun e1 => (hnn b0 rfl) (hv'.1 e1).1) hk
    | none =>
      have zero : m = 0 → K (f.set d (.c .nls)) h → Goes K n0 ν R w0 ((actOf ν f).put d v') w' := by
        intro hm h2
        have hv := hv'.2 ⟨(hnil rfl).1, hm⟩
        subst hv
        have HS' : Sat w' (h.den ν * R) := HS.right
        refine ⟨_, h, ν, h2, Agree.refl _ _, ?_, HS', HK.trans HK'⟩
        rw [← actOf_put]
        rfl
      have pos : 0 < m → v' ≠ .slice none 0 0 := fun hm e1 => by have := (hv'.1 e1).2; omega
      simp only at hk
      cases lx
      · simp only [cond_false] at hk
        rcases Nat.eq_zero_or_pos m with h0 | h0
        · exact zero h0 (hk.1 h0)
        · exact main _ (pos h0) (hk.2 h0)
      · simp only [cond_true] at hk
        cases m with
        | zero => exact zero rfl hk
        | succ m => exact main _ (pos (Nat.succ_pos m)) hk
end
end Go.Proofs.Ytohijcgbfcahhaa
