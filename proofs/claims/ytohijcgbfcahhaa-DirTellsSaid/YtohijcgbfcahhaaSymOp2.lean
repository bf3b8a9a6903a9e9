/- The executor: loads, addresses, and whatever else leaves the memory as it is. -/
import Derived.Test.YtohijcgbfcahhaaSymOp
import Derived.Laws.Slices
import Derived.Lib.MinMax
import Derived.Laws.Small
namespace Go.Proofs.Ytohijcgbfcahhaa
open Go Go.RowKit

section
variable {E : EXT} {P : Program}

def aggT (P : Program) (t : TypeId) : Option Bool := (P.underlying t).map TypeDesc.isRow
def sizeT (P : Program) (t : TypeId) : Option Nat := (P.info? t).map (·.size)

theorem run_isAgg_T {t : TypeId} {b : Bool} (h : aggT P t = some b) (w : World) : (isAgg t).run P w = .ok b w := by
  unfold aggT at h
  cases hu : P.underlying t with
  | none => rw [hu] at h; cases h
  | some d =>
    rw [hu] at h
    simp only [Option.map_some, Option.some.injEq] at h
    unfold isAgg
    rw [Sem.run_bind, run_underlying hu w]
    subst h
    cases d <;> simp [TypeDesc.isRow]
theorem run_sizeOf_T {t : TypeId} {n : Nat} (h : sizeT P t = some n) (w : World) : (sizeOf t).run P w = .ok n w := by
  unfold sizeT at h
  cases hi : P.info? t with
  | none => rw [hi] at h; cases h
  | some i =>
    rw [hi] at h
    simp at h
    subst h
    simp [sizeOf, typeInfo, hi]
theorem run_loadAt_one {t : TypeId} (h : aggT P t = some false) (w : World) (a : Addr) (v : Value) (hc : w.cell? a = some v) : (Instr.loadAt t (.pointer (some a))).run P w = .ok v w := by
  simp [Instr.loadAt, Instr.sureAddr, loadVar, run_isAgg_T h, load, Sem.run, hc]
theorem run_loadAt_many {t : TypeId} (h : aggT P t = some true) (w : World) (b o : Nat) (cs : List Value) (hs : sizeT P t = some cs.length) (hc : w.rangeAt b o cs) : (Instr.loadAt t (.pointer (some ⟨b, o, none⟩))).run P w = .ok (.agg cs.toArray) w := by
  unfold aggT at h
  cases hu : P.underlying t with
  | none => rw [hu] at h; cases h
  | some d =>
    rw [hu] at h
    simp only [Option.map_some, Option.some.injEq] at h
    exact run_loadAt_mid w b o t cs d hc hu h hs

/-- The cells of a block, as far as they are known one by one. -/
def SO.known : SO E → Option (List SC)
  | .cells l _ => some l
  | .row _ _ _ _ l => some l
  | _ => none
theorem rowHead_cells {w : World} {b : Nat} {t : TypeId} {k n cap : Nat} {xs : List Value} {R : Assn} (h : Sat w (rowHead b t k n cap xs * R)) : ∀ j u, xs[j]? = some u → w.cell? ⟨b, j, none⟩ = some u := by
  obtain ⟨cur, h⟩ := h.ex_mul
  rw [Assn.mul_assoc] at h
  obtain ⟨⟨h0, h1, h2, h3, h4⟩, h⟩ := h.pure_mul
  exact rowK_cell h h0 h4
theorem SO.known_cell {w : World} {ν : Nat → Nat} {b : Nat} {R : Assn} {o : SO E} {l : List SC} (hk : o.known = some l) (h : Sat w (o.den ν b * R)) (j : Nat) (x : SC) (hx : l[j]? = some x) : w.cell? ⟨b, j, none⟩ = some (x.den ν) := by
  have hv : (SC.denL ν l)[j]? = some (x.den ν) := by rw [denL_map, List.getElem?_map, hx]; rfl
  cases o with
  | cells l' t =>
    simp only [SO.known, Option.some.injEq] at hk
    subst hk
    simp only [SO.den] at h
    rw [h.cell]
    simpa using hv
  | row t k n cap l' =>
    simp only [SO.known, Option.some.injEq] at hk
    subst hk
    simp only [SO.den] at h
    exact rowHead_cells h j _ hv
  | _ => simp [SO.known] at hk

def SO.ty : SO E → Option TypeId
  | .cells _ t | .row t _ _ _ _ | .ints t _ _ _ _ | .vals t _ _ _ _ => some t
  | _ => none

/-- A load. -/
def loadV (P : Program) (h : SH E) (t : TypeId) (a : SV) : PV :=
  match a with
  | .c (.ptr n o) =>
    match h.get n with
    | some ob =>
      match ob.known with
      | some l =>
        match aggT P t with
        | some false => match l[o]? with
          | some x => .ok (.c x)
          | none => .no 31
        | some true => match sizeT P t with
          | some s => bif ((l.drop o).take s).length == s then .ok (.agg ((l.drop o).take s)) else .no 32
          | none => .no 33
        | none => .no 34
      | none =>
        match ob, aggT P t with
        | .ints _ k m _ f, some false => .need (o < m) (.c (.int false k (f o)))
        | .vals _ k m _ f, some false => match k with
          | 0 => .no 35
          | k + 1 => match (f (o / (k + 1)))[o % (k + 1)]? with
            | some v => .need (o / (k + 1) < m) (.c (SC.ofR v))
            | none => .no 36
        | .vals _ k m _ f, some true => match sizeT P t with
          | some s => bif s == k && (o % k == 0) then .need (o / k < m) (.agg ((f (o / k)).map SC.ofR)) else .no 37
          | none => .no 38
        | _, _ => .no 39
    | none => .no 40
  | .c (.elp n i k f0) =>
    match h.get n with
    | some (.ints _ kd m _ f) => match aggT P t with
      | some false => bif k == 1 && f0 == 0 then .need (i < m) (.c (.int false kd (f i))) else .no 41
      | _ => .no 42
    | some (.vals _ k' m _ f) => match aggT P t with
      | some false => match (f i)[f0]? with
        | some v => bif k == k' && Nat.blt f0 k then .need (i < m) (.c (SC.ofR v)) else .no 43
        | none => .no 44
      | some true => match sizeT P t with
        | some s => bif s == k && k == k' && f0 == 0 then .need (i < m) (.agg ((f i).map SC.ofR)) else .no 45
        | none => .no 46
      | none => .no 47
    | _ => .no 48
  | _ => .no 49

theorem intsOf_get (k : IntKind) (n : Nat) (f : Nat → Int) (i : Nat) (h : i < n) : (intsOf k n f)[i]? = some (.int k (f i)) := by
  simp [intsOf, h]
theorem valsOf_succ (n : Nat) (f : Nat → List Value) : valsOf (n + 1) f = valsOf n f ++ f n := by
  simp [valsOf, List.range_succ]
theorem valsOf_len (k : Nat) : ∀ (n : Nat) (f : Nat → List Value), (∀ i, i < n → (f i).length = k) → (valsOf n f).length = n * k
  | 0, f, _ => by simp [valsOf]
  | n + 1, f, h => by
    rw [valsOf_succ, List.length_append, valsOf_len k n f fun i hi => h i (Nat.lt_succ_of_lt hi), h n (Nat.lt_succ_self n), Nat.succ_mul]
theorem valsOf_get (k : Nat) : ∀ (n : Nat) (f : Nat → List Value), (∀ i, i < n → (f i).length = k) → ∀ (i j : Nat), i < n → j < k → (valsOf n f)[i * k + j]? = (f i)[j]?
  | 0, f, _, i, j, h, _ => by omega
  | n + 1, f, h, i, j, hi, hj => by
    rw [valsOf_succ]
    have hl := valsOf_len k n f fun i hi => h i (Nat.lt_succ_of_lt hi)
    by_cases hin : i < n
    · have hlt : i * k + j < (valsOf n f).length := by
        rw [hl]
        have : (i + 1) * k ≤ n * k := Nat.mul_le_mul_right k hin
        rw [Nat.succ_mul] at this
        omega
      rw [List.getElem?_append_left hlt]
      exact valsOf_get k n f (fun i hi => h i (Nat.lt_succ_of_lt hi)) i j hin hj
    · obtain rfl : i = n := by omega
      rw [List.getElem?_append_right (by rw [hl]; omega), hl]
      congr 1
      omega

theorem ints_cell {w : World} {ν : Nat → Nat} {b : Nat} {R : Assn} {t : TypeId} {k : IntKind} {n cap : Nat} {f : Nat → Int} (h : Sat w ((SO.ints (E := E) t k n cap f).den ν b * R)) (i : Nat) (hi : i < n) : w.cell? ⟨b, i, none⟩ = some (.int k (f i)) :=
  rowHead_cells h i _ (intsOf_get k n f i hi)
theorem vals_len {w : World} {ν : Nat → Nat} {b : Nat} {R : Assn} {t : TypeId} {k n cap : Nat} {f : Nat → List Value} (h : Sat w ((SO.vals (E := E) t k n cap f).den ν b * R)) : ∀ i, i < n → (f i).length = k := by
  simp only [SO.den] at h
  rw [Assn.mul_assoc] at h
  exact h.pure_mul.1
theorem vals_cell {w : World} {ν : Nat → Nat} {b : Nat} {R : Assn} {t : TypeId} {k n cap : Nat} {f : Nat → List Value} (h : Sat w ((SO.vals (E := E) t k n cap f).den ν b * R)) (i j : Nat) (hi : i < n) (v : Value) (hv : (f i)[j]? = some v) : w.cell? ⟨b, i * k + j, none⟩ = some v := by
  have hl := vals_len h
  simp only [SO.den] at h
  rw [Assn.mul_assoc] at h
  have hj : j < k := by
    rw [← hl i hi]
    rcases Nat.lt_or_ge j (f i).length with h' | h'
    · exact h'
    · rw [List.getElem?_eq_none h'] at hv; cases hv
  exact rowHead_cells h.pure_mul.2 _ _ ((valsOf_get k n f hl i j hi hj).trans hv)

theorem loadV_sound {h : SH E} {t : TypeId} {a : SV} {v : SV} (hg : (loadV P h t a).gives v) {ν : Nat → Nat} {w : World} {R : Assn} (H : Sat w (h.den ν * R)) :
    (Instr.loadAt t (a.den ν)).run P w = .ok (v.den ν) w := by
  unfold loadV at hg
  split at hg
  · rename_i n o
    simp only [SV.den, SC.den]
    split at hg
    · rename_i ob hob
      rw [SH.den_get ν hob, Assn.mul_assoc] at H
      split at hg
      · rename_i l hl
        split at hg
        · rename_i ha
          split at hg
          · rename_i x hx
            simp only [PV.gives] at hg
            subst hg
            exact run_loadAt_one ha w _ _ (SO.known_cell hl H o x hx)
          · exact hg.elim
        · rename_i ha
          split at hg
          · rename_i s hs
            cases hlen : ((l.drop o).take s).length == s <;> rw [hlen] at hg <;> simp only [cond_true, cond_false, PV.gives] at hg
            subst hg
            have hlen := eq_of_beq hlen
            refine run_loadAt_many ha w (ν n) o _ ?_ ?_
            · rw [hs, denL_map, List.length_map, hlen]
            · intro j u hu
              rw [denL_map, List.getElem?_map] at hu
              cases hx : ((l.drop o).take s)[j]? with
              | none => rw [hx] at hu; cases hu
              | some x =>
                rw [hx] at hu
                simp only [Option.map_some, Option.some.injEq] at hu
                subst hu
                refine SO.known_cell hl H (o + j) x ?_
                rw [List.getElem?_take] at hx
                split at hx
                · rw [List.getElem?_drop] at hx; exact hx
                · cases hx
          · exact hg.elim
        · exact hg.elim
      · split at hg
        · rename_i ha _
          simp only [PV.gives] at hg
          obtain ⟨hm, rfl⟩ := hg
          exact run_loadAt_one ha w _ _ (ints_cell H o hm)
        · rename_i ha _
          split at hg
          · exact hg.elim
          · rename_i k' _
            split at hg
            · rename_i u hu
              simp only [PV.gives] at hg
              obtain ⟨hm, rfl⟩ := hg
              simp only [SV.den, SC.den_ofR]
              have := vals_cell H _ _ hm u hu
              rw [Nat.mul_comm, Nat.div_add_mod] at this
              exact run_loadAt_one ha w _ _ this
            · exact hg.elim
        · rename_i tt k m cp f ha hkn
          split at hg
          · rename_i s hs
            cases hc : s == k && (o % k == 0) <;> rw [hc] at hg <;> simp only [cond_true, cond_false, PV.gives] at hg
            obtain ⟨hm, rfl⟩ := hg
            simp only [Bool.and_eq_true, beq_iff_eq] at hc
            obtain ⟨rfl, hc⟩ := hc
            simp only [SV.den]
            rw [denL_ofR]
            refine run_loadAt_many ha w (ν n) o _ ?_ ?_
            · rw [hs, vals_len H _ hm]
            · intro j u hu
              have := vals_cell H _ _ hm u hu
              have e : o / s * s = o := by have := Nat.div_add_mod o s; rw [hc, Nat.mul_comm] at this; omega
              rw [e] at this
              exact this
          · exact hg.elim
        · exact hg.elim
    · exact hg.elim
  · rename_i n i k f0
    simp only [SV.den, SC.den]
    split at hg
    · rename_i kd m _ f hob
      rw [SH.den_get ν hob, Assn.mul_assoc] at H
      split at hg
      · rename_i ha
        cases hc : k == 1 && f0 == 0 <;> rw [hc] at hg <;> simp only [cond_true, cond_false, PV.gives] at hg
        obtain ⟨hm, rfl⟩ := hg
        simp only [Bool.and_eq_true, beq_iff_eq] at hc
        obtain ⟨rfl, rfl⟩ := hc
        simp only [Nat.mul_one, Nat.add_zero]
        exact run_loadAt_one ha w _ _ (ints_cell H i hm)
      · exact hg.elim
    · rename_i k' m _ f hob
      rw [SH.den_get ν hob, Assn.mul_assoc] at H
      split at hg
      · rename_i ha
        split at hg
        · rename_i u hu
          cases hc : k == k' && Nat.blt f0 k <;> rw [hc] at hg <;> simp only [cond_true, cond_false, PV.gives] at hg
          obtain ⟨hm, rfl⟩ := hg
          simp only [Bool.and_eq_true, beq_iff_eq] at hc
          obtain ⟨rfl, _⟩ := hc
          simp only [SV.den, SC.den_ofR]
          exact run_loadAt_one ha w _ _ (vals_cell H _ _ hm u hu)
        · exact hg.elim
      · rename_i ha
        split at hg
        · rename_i s hs
          cases hc : s == k && k == k' && f0 == 0 <;> rw [hc] at hg <;> simp only [cond_true, cond_false, PV.gives] at hg
          obtain ⟨hm, rfl⟩ := hg
          simp only [Bool.and_eq_true, beq_iff_eq] at hc
          obtain ⟨⟨rfl, rfl⟩, rfl⟩ := hc
          simp only [SV.den]
          rw [denL_ofR]
          refine run_loadAt_many ha w (ν n) _ _ ?_ ?_
          · rw [hs, vals_len H _ hm]
          · intro j u hu
            have := vals_cell H _ _ hm u hu
            simpa using this
        · exact hg.elim
      · exact hg.elim
    · exact hg.elim
  · exact hg.elim
end
end Go.Proofs.Ytohijcgbfcahhaa
