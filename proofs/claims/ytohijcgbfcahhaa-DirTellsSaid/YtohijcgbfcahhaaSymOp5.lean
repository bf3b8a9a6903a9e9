/- The executor: slices' parts, built values; all operations that leave the memory as it is. -/
import Derived.Test.YtohijcgbfcahhaaSymOp4
import Derived.Laws.Tables
namespace Go.Proofs.Ytohijcgbfcahhaa
open Go Go.RowKit

section
variable {E : EXT} {P : Program}

/-- One cell, whatever it holds. -/
def SC.one : SC → Bool
  | .raw (.agg _) => false
  | .raw (.tuple _) => false
  | _ => true
theorem SC.one_cell {x : SC} (h : x.one = true) (ν : Nat → Nat) : (x.den ν).oneCell' = true := by
  unfold SC.one at h
  split at h <;> try cases h
  rename_i h1 h2
  cases x <;> simp only [SC.den, Value.oneCell']
  rename_i v
  cases v <;> first | rfl | exact absurd rfl (h1 _) | exact absurd rfl (h2 _)
def oneAll : List SC → Bool
  | [] => true
  | x :: l => x.one && oneAll l
theorem oneAll_mem {l : List SC} (h : oneAll l = true) (ν : Nat → Nat) : ∀ v ∈ SC.denL ν l, v.oneCell' = true := by
  induction l with
  | nil => intro v hv; simp [SC.denL] at hv
  | cons x l ih =>
    simp only [oneAll, Bool.and_eq_true] at h
    intro v hv
    simp only [SC.denL, List.mem_cons] at hv
    rcases hv with rfl | hv
    · exact SC.one_cell h.1 ν
    · exact ih h.2 v hv
/-- The cells of a value. -/
def SV.cells : SV → Option (List SC)
  | .c x => bif x.one then some [x] else none
  | .agg l => some l
  | .tup _ => none
theorem SV.cells_den {v : SV} {l : List SC} (h : v.cells = some l) (ν : Nat → Nat) : (v.den ν).cells = (SC.denL ν l).toArray := by
  cases v with
  | c x =>
    simp only [SV.cells] at h
    cases ho : x.one <;> rw [ho] at h
    · cases h
    · simp only [cond_true, Option.some.injEq] at h
      subst h
      have := SC.one_cell ho ν
      simp only [SV.den, SC.denL]
      cases hx : x.den ν <;> rw [hx] at this <;> first | rfl | (simp [Value.oneCell'] at this)
  | agg l' =>
    simp only [SV.cells, Option.some.injEq] at h
    subst h
    rfl
  | tup _ => cases h

def setAll : List SC → Nat → List SC → List SC
  | cs, _, [] => cs
  | cs, o, x :: xs => setAll (cs.set o x) (o + 1) xs
theorem setAll_len : ∀ (xs cs : List SC) (o : Nat), (setAll cs o xs).length = cs.length
  | [], _, _ => rfl
  | x :: xs, cs, o => by simp only [setAll]; rw [setAll_len xs]; simp
theorem setAll_den (ν : Nat → Nat) : ∀ (xs cs : List SC) (o k : Nat), (SC.denL ν (setAll cs (o + k) xs)).toArray = ((SC.denL ν xs).zipIdx k).foldl (fun (a : Array Value) (p : Value × Nat) => a.setIfInBounds (o + p.2) p.1) (SC.denL ν cs).toArray
  | [], cs, o, k => by simp [setAll, SC.denL]
  | x :: xs, cs, o, k => by
    have := setAll_den ν xs (cs.set (o + k) x) o (k + 1)
    simp only [setAll, SC.denL, List.zipIdx_cons, List.foldl_cons]
    rw [← Nat.add_assoc] at this
    rw [this]
    congr 1
    rw [denL_map, denL_map]
    simp [List.map_set]
def fillS (place : Nat → Option (Nat × Nat)) : List SC → List (Nat × SV) → Option (List SC)
  | cs, [] => some cs
  | cs, (i, v) :: rest => match place i with
    | some (off, size) => match v.cells with
      | some l => bif (l.length == size) && Nat.ble (off + l.length) cs.length then fillS place (setAll cs off l) rest else none
      | none => none
    | none => none
theorem fillS_den {place : Nat → Option (Nat × Nat)} (ν : Nat → Nat) : ∀ (ps : List (Nat × SV)) (cs out : List SC), fillS place cs ps = some out →
    Instr.fill place (SC.denL ν cs).toArray (ps.map fun p => (p.1, p.2.den ν)) = some (SC.denL ν out).toArray
  | [], cs, out, h => by simp only [fillS, Option.some.injEq] at h; subst h; rfl
  | (i, v) :: rest, cs, out, h => by
    simp only [fillS] at h
    split at h <;> try cases h
    rename_i off size hp
    split at h <;> try cases h
    rename_i l hl
    cases hc : (l.length == size) && Nat.ble (off + l.length) cs.length <;> rw [hc] at h
    · cases h
    · simp only [cond_true] at h
      simp only [Bool.and_eq_true, beq_iff_eq, Nat.ble_eq] at hc
      have hcl := SV.cells_den hl ν
      have hlen : ∀ l : List SC, (SC.denL ν l).length = l.length := fun l => by rw [denL_map, List.length_map]
      have ih := fillS_den ν rest _ _ h
      simp only [List.map_cons, Instr.fill, hp, hcl, List.size_toArray, hlen, hc.1, ne_eq, not_true, decide_false, Bool.false_or]
      have h2 : ¬ (off + size > cs.length) := by omega
      simp only [h2, decide_false, Bool.false_eq_true, if_false]
      have h3 := setAll_den ν l cs off 0
      simp only [Nat.add_zero] at h3
      rw [h3] at ih
      rw [← ih]
      congr 1
      simp
def builtS (P : Program) (t : TypeId) (parts : List (Nat × SV)) : Option (List SC) :=
  match P.info? t with
  | some it => match it.zero with
    | some z => match P.underlying t with
      | some (.array _ e) => match P.info? e with
        | some ie => fillS (fun i => some (i * ie.size, ie.size)) (z.cells.toList.map SC.ofV) parts
        | none => none
      | some (.struct fields) => match fields.toList.mapM (fun f => (P.info? f.type).map fun i => (f.offset, i.size)) with
        | some places => fillS (places.toArray[·]?) (z.cells.toList.map SC.ofV) parts
        | none => none
      | _ => none
    | none => none
  | none => none
theorem builtS_den {t : TypeId} {parts : List (Nat × SV)} {out : List SC} (h : builtS P t parts = some out) (ν : Nat → Nat) : P.built t (parts.map fun p => (p.1, p.2.den ν)) = some (SC.denL ν out).toArray := by
  unfold builtS at h
  unfold Program.built
  split at h <;> try cases h
  rename_i it hit
  split at h <;> try cases h
  rename_i z hz
  split at h <;> try cases h
  · rename_i n e hu
    split at h <;> try cases h
    rename_i ie hie
    have := fillS_den ν _ _ _ h
    rw [denL_ofV] at this
    simp only [hit, hu, hz, hie]
    simpa using this
  · rename_i fields hu
    split at h <;> try cases h
    rename_i places hp
    have := fillS_den ν _ _ _ h
    rw [denL_ofV] at this
    simp only [hit, hu, hz, hp]
    simpa using this

def lenV (P : Program) (ts : Array TypeId) (x : SV) : PV :=
  match ts[0]? with
  | some t => match P.underlying t with
    | some (.slice _) => match x with
      | .c (.sli _ _ _ _ ll len _) => bif ll then .ok (litI .i64 (len : Int)) else .ok (.c (.int false .i64 (len : Int)))
      | .c (.sliv _ ll len _) => bif ll then .ok (litI .i64 (len : Int)) else .ok (.c (.int false .i64 (len : Int)))
      | .c .nls => .ok (.c (.int true .i64 0))
      | _ => .no 140
    | _ => .no 141
  | none => .no 142
theorem lenV_sound {ts : Array TypeId} {x v : SV} (hg : (lenV P ts x).gives v) (ν : Nat → Nat) (w : World) (ty : TypeId) : (Builtin.len_ ts ty #[x.den ν]).run P w = .ok (v.den ν) w := by
  unfold lenV at hg
  split at hg <;> try exact hg.elim
  rename_i t ht
  split at hg <;> try exact hg.elim
  rename_i e hu
  split at hg <;> try exact hg.elim
  · rename_i ll len _
    cases ll <;> simp only [cond_true, cond_false, PV.gives] at hg <;> subst hg
    · simp [Builtin.len_, ht, run_underlying hu, SV.den, SC.den, goInt]
    · rw [litI_den]; simp [Builtin.len_, ht, run_underlying hu, SV.den, SC.den, goInt]
  · rename_i ll len _
    cases ll <;> simp only [cond_true, cond_false, PV.gives] at hg <;> subst hg
    · simp [Builtin.len_, ht, run_underlying hu, SV.den, SC.den, goInt]
    · rw [litI_den]; simp [Builtin.len_, ht, run_underlying hu, SV.den, SC.den, goInt]
  · simp only [PV.gives] at hg
    subst hg
    simp [Builtin.len_, ht, run_underlying hu, SV.den, SC.den, goInt]

theorem maxI_eq (a b : Int) : maxI a b = max a b := by
  unfold maxI
  cases h : leI a b
  · have : ¬ a ≤ b := fun k => by rw [leI_of k] at h; cases h
    simp only [cond_false]; omega
  · have := leI_le h
    simp only [cond_true]; omega
theorem minI_eq (a b : Int) : minI a b = min a b := by
  unfold minI
  cases h : leI a b
  · have : ¬ a ≤ b := fun k => by rw [leI_of k] at h; cases h
    simp only [cond_false]; omega
  · have := leI_le h
    simp only [cond_true]; omega
theorem mm_bd {a b l1 h1 l2 h2 : Int} (big : Bool) (p : l1 ≤ a ∧ a ≤ h1) (q : l2 ≤ b ∧ b ≤ h2) : (bif big then maxI l1 l2 else minI l1 l2) ≤ (bif big then max a b else min a b) ∧ (bif big then max a b else min a b) ≤ (bif big then maxI h1 h2 else minI h1 h2) := by
  rw [maxI_eq, maxI_eq, minI_eq, minI_eq]
  cases big <;> simp only [cond_true, cond_false] <;> omega
def Bd.mm (big : Bool) {a b : Int} (x : Bd a) (y : Bd b) : Bd (bif big then max a b else min a b) :=
  match x, y with
  | .w _ _ p, .w _ _ q => .w _ _ (mm_bd big p q)
  | _, _ => .any
def mmV (big : Bool) (x y : SV) : PV :=
  match x, y with
  | .c (.int l k a x), .c (.int l' _ b y) => bif l && l' then .ok (litI k (bif big then max a b else min a b)) else match big with
    | true => .ok (.c (.int false k (max a b) (Bd.mm true (x.of l) (y.of l'))))
    | false => .ok (.c (.int false k (min a b) (Bd.mm false (x.of l) (y.of l'))))
  | _, _ => .no 145
theorem mmV_den {big : Bool} {x y v : SV} (hg : (mmV big x y).gives v) (ν : Nat → Nat) : ∃ k k' a b, x.den ν = .int k a ∧ y.den ν = .int k' b ∧ v.den ν = .int k (bif big then max a b else min a b) := by
  unfold mmV at hg
  split at hg <;> try exact hg.elim
  rename_i l k a _ l' k' b _
  refine ⟨k, k', a, b, rfl, rfl, ?_⟩
  cases hl : l && l' <;> rw [hl] at hg
  · cases big <;> simp only [cond_true, cond_false, PV.gives] at hg <;> subst hg <;> rfl
  · simp only [cond_true, cond_false, PV.gives] at hg
    subst hg
    rw [litI_den]

/-- A bound of a part of a slice: known or not, and the number. -/
def bound (x : Option SV) (d : Bool × Int) : Option (Bool × Int) :=
  match x with
  | none => some d
  | some (.c (.int l _ i _)) => some (l, i)
  | _ => none
def sliceV (P : Program) (t : TypeId) (x : SV) (lo hi : Option SV) : PV :=
  match P.underlying t with
  | some (.slice e) => match x with
    | .c (.sli n k l0 o ll len cap) => match sizeT P e with
      | some s => bif s == k then (match bound lo (true, 0) with
          | some (fl, l) => match hi with
            | none => bif fl && ll then (match l with
                | .ofNat 0 => .ok (.c (.sli n k l0 o true len cap))
                | .ofNat m => bif Nat.ble m len then .need (m < cap) (.c (.sli n k l0 (o + m) true (len - m) (cap - m))) else .no 150
                | _ => .no 151)
              else .need (0 ≤ l ∧ l ≤ len) (.c (.sli n k false (if cap = l.toNat then o else o + l.toNat) false (len - l.toNat) (cap - l.toNat)))
            | some hv => match bound (some hv) (true, 0) with
              | some (fh, h) => match fl, l with
                | true, .ofNat 0 => .need (0 ≤ h ∧ h ≤ cap) (.c (.sli n k l0 o fh h.toNat cap))
                | _, _ => .need (0 ≤ l ∧ l ≤ h ∧ h ≤ cap) (.c (.sli n k false (if cap = l.toNat then o else o + l.toNat) (fl && fh) (h.toNat - l.toNat) (cap - l.toNat)))
              | none => .no 152
          | none => .no 153) else .no 154
      | none => .no 155
    | .c .nls => match bound lo (true, 0), bound hi (true, 0) with
      | some (true, .ofNat 0), some (true, .ofNat 0) => match sizeT P e with
        | some _ => .ok (.c .nls)
        | none => .no 159
      | some (_, l), some (_, h) => match sizeT P e with
        | some _ => .need (l = 0 ∧ h = 0) (.c .nls)
        | none => .no 159
      | _, _ => .no 156
    | _ => .no 157
  | _ => .no 158
theorem addr_half (b o l k : Nat) (cap : Nat) : (if cap = l then (⟨b, o * k, none⟩ : Addr) else (⟨b, o * k, none⟩ : Addr).add (l * k)) = ⟨b, (if cap = l then o else o + l) * k, none⟩ := by
  split
  · rfl
  · rw [Addr.add_mid, Nat.add_mul]
theorem bound_den {x : Option SV} {d : Bool × Int} {f : Bool} {i : Int} (h : bound x d = some (f, i)) (ν : Nat → Nat) : (x = none ∧ d = (f, i)) ∨ ∃ k, x.map (SV.den ν) = some (.int k i) := by
  unfold bound at h
  split at h
  · exact .inl ⟨rfl, by simpa using h⟩
  · rename_i l k j _
    simp only [Option.some.injEq, Prod.mk.injEq] at h
    obtain ⟨rfl, rfl⟩ := h
    exact .inr ⟨k, rfl⟩
  · cases h
theorem run_slice_gen {t e : TypeId} (hu : P.underlying t = some (.slice e)) {s : Nat} (hs : sizeT P e = some s) (w : World) (a : Option Addr) (len cap : Nat) (lo hi : Option Value) (l h : Int)
    (hl : (lo = none ∧ l = 0) ∨ ∃ k, lo = some (.int k l)) (hh : (hi = none ∧ h = len) ∨ ((∃ k, hi = some (.int k h)) ∧ h ≤ cap)) (h0 : 0 ≤ l) (h1 : l ≤ h) :
    (Instr.sliceAt t (.slice a len cap) lo hi none).run P w = .ok (sliced a l.toNat h.toNat cap s) w := by
  have he : P.elem t = e := by simp [Program.elem, hu]
  have hu' : P.underlying t = some (.slice (P.elem t)) := by rw [he]; exact hu
  rw [run_sliceAt_slice w t _ _ _ _ hu']
  rcases hl with ⟨rfl, rfl⟩ | ⟨kl, rfl⟩ <;> rcases hh with ⟨rfl, rfl⟩ | ⟨⟨kh, rfl⟩, hc⟩
  · rw [run_slice_all w t a len cap hu', he, run_sizeOf_T hs]; simp
  · rw [run_slice_h w t a len cap hu' kh h h1 hc, he, run_sizeOf_T hs]; simp
  · rw [run_slice_l w t a len cap hu' kl l h0 h1, he, run_sizeOf_T hs]; simp
  · rw [run_slice_lh w t a len cap hu' kl kh l h h0 h1 hc, he, run_sizeOf_T hs]; simp
theorem sliced_den (ν : Nat → Nat) (n k o l h cap : Nat) : sliced (some ⟨ν n, o * k, none⟩) l h cap k = .slice (some ⟨ν n, (if cap = l then o else o + l) * k, none⟩) (h - l) (cap - l) := by
  unfold sliced
  rw [← addr_half]
  split <;> rfl
theorem sliceV_sound {t : TypeId} {x v : SV} {lo hi : Option SV} (hg : (sliceV P t x lo hi).gives v) (ν : Nat → Nat) (w : World) : (Instr.sliceAt t (x.den ν) (lo.map (SV.den ν)) (hi.map (SV.den ν)) none).run P w = .ok (v.den ν) w := by
  unfold sliceV at hg
  split at hg <;> try exact hg.elim
  rename_i e hu
  split at hg <;> try exact hg.elim
  · rename_i n k l0 o ll len cap
    split at hg <;> try exact hg.elim
    rename_i s hs
    cases hk : s == k <;> rw [hk] at hg
    · exact hg.elim
    simp only [cond_true] at hg
    have hk := eq_of_beq hk
    subst hk
    simp only [SV.den, SC.den]
    split at hg <;> try exact hg.elim
    rename_i fl l hlo
    have hl : (lo.map (SV.den ν) = none ∧ l = 0) ∨ ∃ k, lo.map (SV.den ν) = some (.int k l) := by
      rcases bound_den hlo ν with ⟨rfl, h⟩ | h
      · simp only [Prod.mk.injEq] at h; exact .inl ⟨rfl, h.2.symm⟩
      · exact .inr h
    split at hg
    · have G := fun h0 h1 => run_slice_gen hu hs w (some ⟨ν n, o * s, none⟩) len cap (lo.map (SV.den ν)) ((none : Option SV).map (SV.den ν)) l len hl (.inl ⟨rfl, rfl⟩) h0 h1
      cases hb : fl && ll <;> rw [hb] at hg
      · simp only [cond_false, PV.gives] at hg
        obtain ⟨⟨h0, h1⟩, rfl⟩ := hg
        rw [G h0 h1, sliced_den]
        simp [SV.den, SC.den]
      · simp only [cond_true] at hg
        split at hg
        · simp only [PV.gives] at hg
          subst hg
          rw [G (by simp) (by simp), sliced_den]
          simp [SV.den, SC.den]
        · rename_i m hm
          cases hle : Nat.ble m len <;> rw [hle] at hg
          · exact hg.elim
          · simp only [cond_true, PV.gives] at hg
            obtain ⟨hc, rfl⟩ := hg
            have hle : m ≤ len := by simpa [Nat.ble_eq] using hle
            rw [G (by simp) (by simpa using hle), sliced_den]
            have hne : ¬ (cap = m) := by omega
            simp [SV.den, SC.den, hne]
        · exact hg.elim
    · rename_i hv
      split at hg <;> try exact hg.elim
      rename_i fh h hhi
      have hh : ∃ k, (some hv).map (SV.den ν) = some (.int k h) := by
        rcases bound_den hhi ν with ⟨h, _⟩ | h
        · cases h
        · exact h
      split at hg
      · simp only [PV.gives] at hg
        obtain ⟨⟨h0, h1⟩, rfl⟩ := hg
        rw [run_slice_gen hu hs w _ len cap _ _ _ h hl (.inr ⟨hh, h1⟩) (by simp) (by simpa using h0), sliced_den]
        simp [SV.den, SC.den]
      · simp only [PV.gives] at hg
        obtain ⟨⟨h0, h1, h2⟩, rfl⟩ := hg
        rw [run_slice_gen hu hs w _ len cap _ _ _ h hl (.inr ⟨hh, h2⟩) h0 h1, sliced_den]
        simp [SV.den, SC.den]
  · have key : ∀ l h : Int, l = 0 → h = 0 → ∀ fl fh s, sizeT P e = some s → bound lo (true, 0) = some (fl, l) → bound hi (true, 0) = some (fh, h) →
        (Instr.sliceAt t ((SV.c .nls).den ν) (lo.map (SV.den ν)) (hi.map (SV.den ν)) none).run P w = .ok ((SV.c .nls).den ν) w := by
      rintro l h rfl rfl fl fh s hs hlo hhi
      have hl : (lo.map (SV.den ν) = none ∧ (0 : Int) = 0) ∨ ∃ k, lo.map (SV.den ν) = some (.int k 0) := (bound_den hlo ν).imp (fun h => ⟨by rw [h.1]; rfl, rfl⟩) id
      have hh : (hi.map (SV.den ν) = none ∧ (0 : Int) = (0 : Nat)) ∨ ((∃ k, hi.map (SV.den ν) = some (.int k 0)) ∧ (0 : Int) ≤ (0 : Nat)) := (bound_den hhi ν).imp (fun h => ⟨by rw [h.1]; rfl, rfl⟩) (fun h => ⟨h, by simp⟩)
      have := run_slice_gen hu hs w none 0 0 _ _ 0 0 hl hh (by simp) (by simp)
      simp only [SV.den, SC.den]
      rw [this]
      simp [sliced]
    split at hg
    · rename_i hlo hhi
      split at hg <;> try exact hg.elim
      rename_i s hs
      simp only [PV.gives] at hg
      subst hg
      exact key _ _ rfl rfl _ _ s hs hlo hhi
    · rename_i hlo hhi
      split at hg <;> try exact hg.elim
      rename_i s hs
      simp only [PV.gives] at hg
      obtain ⟨⟨rfl, rfl⟩, rfl⟩ := hg
      exact key _ _ rfl rfl _ _ s hs hlo hhi
    · exact hg.elim
end
end Go.Proofs.Ytohijcgbfcahhaa
