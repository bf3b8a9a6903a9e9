/- The executor: operations that turn the memory: a store, a new block. -/
import Derived.Test.YtohijcgbfcahhaaSymEval
import Derived.Great.BuildSlice
import Derived.Laws.MakeOwn
namespace Go.Proofs.Ytohijcgbfcahhaa
open Go Go.RowKit

section
variable {E : EXT} {P : Program}

/-- What holds behind an operation: one of the states that 'K' takes. -/
def Goes (K : SF → SH E → Prop) (n : Nat) (ν : Nat → Nat) (R : Assn) (w0 : World) (a : Act) (w : World) : Prop :=
  ∃ f h μ, K f h ∧ Agree n ν μ ∧ a = actOf μ f ∧ Sat w (SH.den μ h * R) ∧ Kept w0 w
/-- It could not be gone on with (a number tells where). -/
def Stuck (_ : Nat) : Prop := False

def valSetAll : List Value → Nat → List Value → List Value
  | cs, _, [] => cs
  | cs, o, x :: xs => valSetAll (cs.set o x) (o + 1) xs
theorem setAll_map (ν : Nat → Nat) : ∀ (xs cs : List SC) (o : Nat), SC.denL ν (setAll cs o xs) = valSetAll (SC.denL ν cs) o (SC.denL ν xs)
  | [], _, _ => by simp [setAll, SC.denL, valSetAll]
  | x :: xs, cs, o => by
    simp only [setAll, SC.denL, valSetAll]
    rw [setAll_map ν xs]
    congr 1
    rw [denL_map, denL_map]
    simp [List.map_set]
theorem valSetAll_len : ∀ (xs cs : List Value) (o : Nat), (valSetAll cs o xs).length = cs.length
  | [], _, _ => rfl
  | x :: xs, cs, o => by simp only [valSetAll]; rw [valSetAll_len xs]; simp
theorem Sat.setCells {b : Nat} {t : TypeId} {f : Nat × Nat} {R : Assn} : ∀ (vs cs : List Value) (o : Nat) (w : World), Sat w (own b (.cells cs.toArray t f) * R) → Sat (w.setCells b o vs) (own b (.cells (valSetAll cs o vs).toArray t f) * R)
  | [], _, _, _, h => h
  | v :: vs, cs, o, w, h => by
    have h1 := h.set o v
    have e : cs.toArray.setIfInBounds o v = (cs.set o v).toArray := by simp
    rw [e] at h1
    exact Sat.setCells vs (cs.set o v) (o + 1) _ h1
theorem Kept.setCells {a : World} {b : Nat} : ∀ (vs : List Value) (o : Nat) (w : World), Kept a w → Kept a (w.setCells b o vs)
  | [], _, _, h => h
  | v :: vs, o, w, h => Kept.setCells vs (o + 1) _ (h.setCell _ _)
theorem valSetAll_take : ∀ (vs cs : List Value) (o n : Nat), o + vs.length ≤ n → (valSetAll cs o vs).take n = valSetAll (cs.take n) o vs
  | [], _, _, _, _ => rfl
  | v :: vs, cs, o, n, h => by
    simp only [List.length_cons] at h
    simp only [valSetAll]
    rw [valSetAll_take vs _ _ n (by omega)]
    congr 1
    rw [List.take_set]
theorem run_storeAt_cells {t : TypeId} (w : World) (b o : Nat) (v : Value) (vs : List Value) (hv : v.cells = vs.toArray) (hs : sizeT P t = some vs.length) (ht : w.there b o vs.length) (h1 : ∀ u ∈ vs, u.oneCell' = true) :
    (Instr.storeAt t (.pointer (some ⟨b, o, none⟩)) v).run P w = .ok () (w.setCells b o vs) := by
  have := run_storeCells_cells (P := P) b o vs 0 w (fun j hj => by simpa using (ht j hj).1) (fun j hj => by simpa using (ht j hj).2) h1
  simp only [Nat.add_zero] at this
  simp [Instr.storeAt, Instr.sureAddr, storeVar, run_sizeOf_T hs, hv, this]

/-- The block with other cells. -/
def SO.withCells : SO E → List SC → SO E
  | .cells _ t, l => .cells l t
  | .row t k n c _, l => .row t k n c l
  | o, _ => o
theorem SO.store_known {w : World} {ν : Nat → Nat} {b : Nat} {R : Assn} {o : SO E} {l : List SC} (hk : o.known = some l) (h : Sat w (o.den ν b * R)) (i : Nat) (vs : List SC) (hi : i + vs.length ≤ l.length) :
    w.there b i vs.length ∧ Sat (w.setCells b i (SC.denL ν vs)) ((o.withCells (setAll l i vs)).den ν b * R) := by
  have hlen : ∀ l : List SC, (SC.denL ν l).length = l.length := fun l => by rw [denL_map, List.length_map]
  cases o with
  | cells l' t =>
    simp only [SO.known, Option.some.injEq] at hk
    subst hk
    simp only [SO.den, SO.withCells] at h ⊢
    refine ⟨fun j hj => ⟨?_, h.free _⟩, ?_⟩
    · rw [h.cell, List.getElem?_toArray, denL_get]
      have : i + j < l'.length := by omega
      simp [this]
    · rw [setAll_map]; exact Sat.setCells _ _ _ _ h
  | row t k n cap l' =>
    simp only [SO.known, Option.some.injEq] at hk
    subst hk
    simp only [SO.den, SO.withCells] at h ⊢
    obtain ⟨cur, h⟩ := h.ex_mul
    rw [Assn.mul_assoc] at h
    obtain ⟨⟨h0, h1, h2, h3, h4⟩, h⟩ := h.pure_mul
    rw [hlen] at h0
    have hcl : l'.length ≤ cur.size := by rw [h3, h0]; exact Nat.mul_le_mul_right _ h1
    refine ⟨fun j hj => ⟨?_, h.free _⟩, ?_⟩
    · rw [h.cell]
      have : i + j < cur.size := by omega
      simp [this]
    · obtain ⟨c⟩ := cur
      have hS := Sat.setCells (SC.denL ν vs) c i w h
      refine Sat.mk_ex_mul (valSetAll c i (SC.denL ν vs)).toArray ?_
      rw [Assn.mul_assoc]
      refine Sat.mk_pure_mul ⟨?_, h1, h2, ?_, ?_⟩ hS
      · rw [hlen, setAll_len, h0]
      · simp only [List.size_toArray, valSetAll_len] at h3 ⊢; exact h3
      · simp only at h4 ⊢
        rw [valSetAll_take _ _ _ _ (by rw [hlen, ← h0]; exact hi), h4, setAll_map]
  | _ => simp [SO.known] at hk

/-- A store. -/
def storeE (P : Program) (f : SF) (h : SH E) (t : TypeId) (a v : SV) (K : SF → SH E → Prop) : Prop :=
  match a with
  | .c (.ptr n o) => match h.get n with
    | some ob => match ob.known with
      | some l => match v.cells with
        | some vs => match sizeT P t with
          | some s => bif (s == vs.length) && Nat.ble (o + s) l.length && oneAll vs then K f (h.set n (ob.withCells (setAll l o vs))) else Stuck 301
          | none => Stuck 302
        | none => Stuck 303
      | none => match ob with
        | .ints ty k m cap g => match v with
          | .c (.int _ k' x _) => match sizeT P t with
            | some 1 => if k = k' then o < m ∧ K f (h.set n (.ints ty k m cap fun j => if j = o then x else g j)) else Stuck 304
            | _ => Stuck 305
          | _ => Stuck 306
        | _ => Stuck 307
    | none => Stuck 308
  | .c (.elp n i k0 f0) => match h.get n with
    | some (.ints ty k m cap g) => match v with
      | .c (.int _ k' x _) => match sizeT P t with
        | some 1 => bif k0 == 1 && f0 == 0 then (if k = k' then i < m ∧ K f (h.set n (.ints ty k m cap fun j => if j = i then x else g j)) else Stuck 309) else Stuck 310
        | _ => Stuck 311
      | _ => Stuck 312
    | _ => Stuck 313
  | _ => Stuck 314
theorem rowHead_set {w : World} {b : Nat} {t : TypeId} {k : IntKind} {n cap : Nat} {g : Nat → Int} {R : Assn} (h : Sat w (rowHead b t 1 n cap (intsOf k n g) * R)) (i : Nat) (x : Int) (hi : i < n) :
    w.there b i 1 ∧ Sat (w.setCells b i [.int k x]) (rowHead b t 1 n cap (intsOf k n fun j => if j = i then x else g j) * R) := by
  obtain ⟨cur, h⟩ := h.ex_mul
  rw [Assn.mul_assoc] at h
  obtain ⟨⟨h0, h1, h2, h3, h4⟩, h⟩ := h.pure_mul
  refine ⟨fun j hj => ⟨?_, h.free _⟩, ?_⟩
  · rw [h.cell]
    have : i + j < cur.size := by omega
    simp [this]
  · obtain ⟨c⟩ := cur
    have hS := Sat.setCells [.int k x] c i w h
    refine Sat.mk_ex_mul (valSetAll c i [.int k x]).toArray ?_
    rw [Assn.mul_assoc]
    refine Sat.mk_pure_mul ⟨by simp [intsOf], h1, h2, ?_, ?_⟩ hS
    · simp only [List.size_toArray, valSetAll_len] at h3 ⊢; exact h3
    · simp only at h4 ⊢
      rw [valSetAll_take _ _ _ _ (by simp; omega), h4]
      simp only [valSetAll]
      apply List.ext_getElem?
      intro j
      simp only [intsOf, List.getElem?_set, List.getElem?_map, List.length_map, List.length_range]
      by_cases hj : i = j
      · subst hj; simp [hi]
      · simp only [hj, if_false]
        have : ¬ j = i := fun e => hj e.symm
        by_cases hjn : j < n <;> simp [hjn, this]
theorem storeE_sound {f : SF} {h : SH E} {t : TypeId} {a v : SV} {K : SF → SH E → Prop} (hk : storeE P f h t a v K) {ν : Nat → Nat} {w w0 : World} {R : Assn} (H : Sat w (h.den ν * R)) (HK : Kept w0 w) :
    ∃ w', (Instr.storeAt t (a.den ν) (v.den ν)).run P w = .ok () w' ∧ ∃ h', K f h' ∧ Sat w' (h'.den ν * R) ∧ Kept w0 w' := by
  unfold storeE at hk
  split at hk <;> try exact hk.elim
  · rename_i n o
    simp only [SV.den, SC.den]
    split at hk <;> try exact hk.elim
    rename_i ob hob
    have H' := H
    rw [SH.den_get ν hob, Assn.mul_assoc] at H'
    split at hk
    · rename_i l hl
      split at hk <;> try exact hk.elim
      rename_i vs hvs
      split at hk <;> try exact hk.elim
      rename_i s hs
      cases hc : (s == vs.length) && Nat.ble (o + s) l.length && oneAll vs <;> rw [hc] at hk
      · exact hk.elim
      · simp only [cond_true] at hk
        simp only [Bool.and_eq_true, beq_iff_eq, Nat.ble_eq] at hc
        obtain ⟨⟨rfl, hle⟩, h1⟩ := hc
        obtain ⟨ht, hS⟩ := SO.store_known hl H' o vs hle
        have hlen : (SC.denL ν vs).length = vs.length := by rw [denL_map, List.length_map]
        refine ⟨_, run_storeAt_cells w (ν n) o _ (SC.denL ν vs) (SV.cells_den hvs ν) (by rw [hlen]; exact hs) (by rw [hlen]; exact ht) (oneAll_mem h1 ν), _, hk, ?_, HK.setCells _ _ _⟩
        rw [SH.den_set ν hob, Assn.mul_assoc]
        exact hS
    · split at hk <;> try exact hk.elim
      rename_i ty k m cap g _
      split at hk <;> try exact hk.elim
      rename_i k' x _
      split at hk <;> try exact hk.elim
      rename_i hs
      split at hk <;> try exact hk.elim
      rename_i hkk
      subst hkk
      obtain ⟨hi, hk⟩ := hk
      obtain ⟨ht, hS⟩ := rowHead_set H' o x hi
      refine ⟨_, run_storeAt_cells w (ν n) o _ [.int k x] rfl hs ht (by simp [Value.oneCell']), _, hk, ?_, HK.setCells _ _ _⟩
      rw [SH.den_set ν hob, Assn.mul_assoc]
      exact hS
  · rename_i n i k0 f0
    simp only [SV.den, SC.den]
    split at hk <;> try exact hk.elim
    rename_i ty k m cap g hob
    have H' := H
    rw [SH.den_get ν hob, Assn.mul_assoc] at H'
    split at hk <;> try exact hk.elim
    rename_i k' x _
    split at hk <;> try exact hk.elim
    rename_i hs
    cases hc : k0 == 1 && f0 == 0 <;> rw [hc] at hk
    · exact hk.elim
    · simp only [cond_true] at hk
      simp only [Bool.and_eq_true, beq_iff_eq] at hc
      obtain ⟨rfl, rfl⟩ := hc
      split at hk <;> try exact hk.elim
      rename_i hkk
      subst hkk
      obtain ⟨hi, hk⟩ := hk
      obtain ⟨ht, hS⟩ := rowHead_set H' i x hi
      refine ⟨_, run_storeAt_cells w (ν n) _ _ [.int k x] rfl hs (by simpa using ht) (by simp [Value.oneCell']), _, hk, ?_, HK.setCells _ _ _⟩
      rw [SH.den_set ν hob, Assn.mul_assoc]
      simp only [Nat.mul_one, Nat.add_zero]
      exact hS
/-- No one names it yet. -/
def freshB (nm : Nat) (f : SF) (h : SH E) (o : SO E) : Bool := !(f.names.contains nm) && !(h.names.contains nm) && !(o.names.contains nm)
theorem not_mem_upd {l : List Nat} {nm b : Nat} {ν : Nat → Nat} (h : l.contains nm = false) : ∀ n ∈ l, upd ν nm b n = ν n := fun n hn => by
  refine upd_other fun e => ?_
  subst e
  simp at h
  exact h hn
/-- A new block, under the name nm. -/
def newE (f : SF) (h : SH E) (nm : Nat) (o : SO E) (v : SV) (d : Option Nat) (K : SF → SH E → Prop) : Prop :=
  bif freshB nm f h o then K (f.set d v) (h.put nm o) else Stuck 320
theorem newE_sound {f : SF} {h : SH E} {nm : Nat} {o : SO E} {v : SV} {d : Option Nat} {K : SF → SH E → Prop} (hk : newE f h nm o v d K) {n : Nat} (hn : n ≤ nm) {ν : Nat → Nat} {w w0 : World} {R : Assn}
    (H : Sat w (h.den ν * R)) (HK : Kept w0 w) (ob : Obj) (ho : ∀ Q, Sat (w.alloc ob) (own w.heap.size ob * Q) → Sat (w.alloc ob) (o.den ν w.heap.size * Q)) :
    Goes K n ν R w0 ((actOf ν f).put d (v.den (upd ν nm w.heap.size))) (w.alloc ob) := by
  unfold newE at hk
  cases hf : freshB nm f h o <;> rw [hf] at hk
  · exact hk.elim
  · simp only [cond_true] at hk
    simp only [freshB, Bool.and_eq_true, Bool.not_eq_true'] at hf
    obtain ⟨⟨h1, h2⟩, h3⟩ := hf
    refine ⟨_, _, upd ν nm w.heap.size, hk, Agree.upd hn _, ?_, ?_, HK.alloc _⟩
    · rw [← actOf_put, actOf_eq f fun m hm => (not_mem_upd h1 m hm).symm]
    · rw [SH.den_put, upd_same, Assn.mul_assoc, SO.den_eq o fun m hm => not_mem_upd h3 m hm, SH.den_eq h fun m hm => not_mem_upd h2 m hm]
      exact ho _ (H.alloc ob)

def zeroT (P : Program) (t : TypeId) : Option Value := (P.info? t).bind (·.zero)
theorem run_zero_T {t : TypeId} {z : Value} (h : zeroT P t = some z) (w : World) : (zeroValue t).run P w = .ok z w := by
  unfold zeroT at h
  cases hi : P.info? t with
  | none => rw [hi] at h; cases h
  | some i =>
    rw [hi] at h
    simp at h
    simp [zeroValue, typeInfo, hi, h]
def zerosL (z : Value) (n : Nat) : List SC := (madeCells z.cells n).toList.map SC.ofV
theorem zerosL_den (ν : Nat → Nat) (z : Value) (n : Nat) : (SC.denL ν (zerosL z n)).toArray = madeCells z.cells n := by
  unfold zerosL; rw [denL_ofV]

def boxE (f : SF) (h : SH E) (nm : Nat) (t : TypeId) (v : SV) (d : Option Nat) (K : SF → SH E → Prop) : Prop :=
  match v.cells with
  | some l => newE f h nm (.cells l t) (.c (.ptr nm 0)) d K
  | none => Stuck 321
def allocE (P : Program) (f : SF) (h : SH E) (nm : Nat) (t : TypeId) (d : Option Nat) (K : SF → SH E → Prop) : Prop :=
  match zeroT P t with
  | some z => newE f h nm (.cells (z.cells.toList.map SC.ofV) t) (.c (.ptr nm 0)) d K
  | none => Stuck 322
def buildE (P : Program) (f : SF) (h : SH E) (nm : Nat) (t : TypeId) (len : Nat) (ps : List (Nat × SV)) (d : Option Nat) (K : SF → SH E → Prop) : Prop :=
  match P.underlying t with
  | some (.slice e) => match P.info? e with
    | some ie => match ie.zero with
      | some z => bif Nat.ble (len * ie.size) 16777216 && Nat.blt 0 (len * ie.size) then (match fillS (fun i => some (i * ie.size, ie.size)) (zerosL z (len * ie.size)) ps with
          | some l => newE f h nm (.cells l e) (.c (.sli nm ie.size true 0 true len len)) d K
          | none => Stuck 323) else (match len, ps with
            | 0, [] => newE f h nm (.cells [] e) (.c (.sli nm ie.size true 0 true 0 0)) d K
            | _, _ => Stuck 324)
      | none => Stuck 325
    | none => Stuck 326
  | _ => Stuck 327
def makeI (f : SF) (h : SH E) (nm : Nat) (e : TypeId) (ie : TypeInfo) (z : Value) (known : Bool) (l c : Int) (d : Option Nat) (K : SF → SH E → Prop) : Prop :=
  match known, l, c with
  | true, .ofNat a, .ofNat b => bif Nat.ble a b && Nat.ble (ie.bytes * b) 281474976710656 && Nat.ble b 1000000000 then
      (bif a == b then newE f h nm (.cells (zerosL z (b * ie.size)) e) (.c (.sli nm ie.size true 0 true a b)) d K
       else newE f h nm (.row e ie.size a b ((zerosL z (b * ie.size)).take (a * ie.size))) (.c (.sli nm ie.size true 0 true a b)) d K) else Stuck 328
  | _, l, c => match z with
    | .int k 0 => bif ie.size == 1 then l = c ∧ 0 ≤ l ∧ (ie.bytes : Int) * l ≤ 281474976710656 ∧ l ≤ 1000000000 ∧
        newE f h nm (.ints e k l.toNat l.toNat fun _ => 0) (.c (.sli nm 1 true 0 false l.toNat l.toNat)) d K else Stuck 329
    | z => bif ie.size == z.cells.size && Nat.blt 0 ie.size then l = c ∧ 0 ≤ l ∧ (ie.bytes : Int) * l ≤ 281474976710656 ∧ l ≤ 1000000000 ∧
        newE f h nm (.vals e ie.size l.toNat l.toNat fun _ => z.cells.toList) (.c (.sli nm ie.size true 0 false l.toNat l.toNat)) d K else Stuck 330
/-- A slice that is made: of a known length, or of one that is not. -/
def makeE (P : Program) (f : SF) (h : SH E) (nm : Nat) (t : TypeId) (len cap : SV) (d : Option Nat) (K : SF → SH E → Prop) : Prop :=
  match P.underlying t with
  | some (.slice e) => match P.info? e with
    | some ie => match ie.zero with
      | some z => match len, cap with
        | .c (.int ll _ l _), .c (.int lc _ c _) => makeI f h nm e ie z (ll && lc) l c d K
        | _, _ => Stuck 331
      | none => Stuck 332
    | none => Stuck 333
  | _ => Stuck 334
theorem made_vals (zs : Array Value) (n : Nat) (h : 0 < zs.size) : (madeCells zs (n * zs.size)).toList = valsOf n fun _ => zs.toList := by
  have hl := valsOf_len zs.size n (fun _ => zs.toList) (fun _ _ => by simp)
  apply List.ext_getElem?
  intro j
  by_cases hj : j < n * zs.size
  · have h1 : j / zs.size < n := by rw [Nat.div_lt_iff_lt_mul h]; exact hj
    have h2 : j % zs.size < zs.size := Nat.mod_lt _ h
    have h3 := valsOf_get zs.size n (fun _ => zs.toList) (fun _ _ => by simp) (j / zs.size) (j % zs.size) h1 h2
    have h4 : j / zs.size * zs.size + j % zs.size = j := by rw [Nat.mul_comm]; exact Nat.div_add_mod j zs.size
    rw [h4] at h3
    rw [h3]
    simp [madeCells, hj, h2]
  · rw [List.getElem?_eq_none (by simp [madeCells]; omega), List.getElem?_eq_none (by rw [hl]; omega)]
theorem boxE_sound {f : SF} {h : SH E} {nm : Nat} {t : TypeId} {v : SV} {d : Option Nat} {K : SF → SH E → Prop} (hk : boxE f h nm t v d K) {n : Nat} (hn : n ≤ nm) {ν : Nat → Nat} {w w0 : World} {R : Assn} (H : Sat w (h.den ν * R)) (HK : Kept w0 w) :
    ∃ u w', (Instr.box t (v.den ν)).run P w = .ok u w' ∧ Goes K n ν R w0 ((actOf ν f).put d u) w' := by
  unfold boxE at hk
  split at hk <;> try exact hk.elim
  rename_i l hl
  refine ⟨.pointer (some ⟨w.heap.size, 0, none⟩), w.alloc (.cells (SC.denL ν l).toArray t (0, 0)), ?_, ?_⟩
  · simp [Instr.box, newVar, newRow, SV.cells_den hl ν]
  · have := newE_sound hk hn H HK (.cells (SC.denL ν l).toArray t (0, 0)) (fun _ h => h)
    simpa [SV.den, SC.den, upd_same] using this
theorem allocE_sound {f : SF} {h : SH E} {nm : Nat} {t : TypeId} {d : Option Nat} {K : SF → SH E → Prop} (hk : allocE P f h nm t d K) {n : Nat} (hn : n ≤ nm) {ν : Nat → Nat} {w w0 : World} {R : Assn} (H : Sat w (h.den ν * R)) (HK : Kept w0 w) (old : Value) :
    ∃ u w', (Instr.alloc t true old).run P w = .ok u w' ∧ Goes K n ν R w0 ((actOf ν f).put d u) w' := by
  unfold allocE at hk
  split at hk <;> try exact hk.elim
  rename_i z hz
  refine ⟨.pointer (some ⟨w.heap.size, 0, none⟩), w.alloc (.cells z.cells t (0, 0)), ?_, ?_⟩
  · simp [Instr.alloc, run_zero_T hz, newVar, newRow]
  · have := newE_sound hk hn H HK (.cells z.cells t (0, 0)) (fun _ h => by simp only [SO.den]; rw [denL_ofV]; exact h)
    simpa [SV.den, SC.den, upd_same] using this
theorem buildE_sound {f : SF} {h : SH E} {nm : Nat} {t : TypeId} {len : Nat} {ps : List (Nat × SV)} {d : Option Nat} {K : SF → SH E → Prop} (hk : buildE P f h nm t len ps d K) {n : Nat} (hn : n ≤ nm) {ν : Nat → Nat} {w w0 : World} {R : Assn} (H : Sat w (h.den ν * R)) (HK : Kept w0 w)
    (parts : Array (Nat × Value)) (hp : parts.toList = ps.map fun p => (p.1, p.2.den ν)) :
    ∃ u w', (Instr.buildSlice t len parts).run P w = .ok u w' ∧ Goes K n ν R w0 ((actOf ν f).put d u) w' := by
  unfold buildE at hk
  split at hk <;> try exact hk.elim
  rename_i e hu
  split at hk <;> try exact hk.elim
  rename_i ie hie
  split at hk <;> try exact hk.elim
  rename_i z hz
  cases hc : Nat.ble (len * ie.size) 16777216 && Nat.blt 0 (len * ie.size) <;> rw [hc] at hk
  · simp only [cond_false] at hk
    split at hk <;> try exact hk.elim
    have hp' : parts = #[] := by cases parts; simpa using hp
    subst hp'
    have hr : (Instr.buildSlice t 0 #[]).run P w = .ok (.slice (some ⟨w.heap.size, 0, none⟩) 0 0) (w.alloc (.cells #[] e)) := by
      simp [Instr.buildSlice, run_underlying hu, sizeOf, typeInfo, hie, Instr.fill, newRow, Array.range_zero']
    refine ⟨_, _, hr, ?_⟩
    have := newE_sound hk hn H HK (.cells #[] e (0, 0)) (fun _ h => h)
    simpa [SV.den, SC.den, upd_same] using this
  simp only [cond_true] at hk
  simp only [Bool.and_eq_true, Nat.ble_eq, Nat.blt_eq] at hc
  split at hk <;> try exact hk.elim
  rename_i l hl
  have hfill := fillS_den ν _ _ _ hl
  rw [zerosL_den, ← hp] at hfill
  refine ⟨_, _, run_buildSlice w t e len parts _ ie z hu hie hz (by omega) (by omega) hfill, ?_⟩
  have := newE_sound hk hn H HK (.cells (SC.denL ν l).toArray e (0, 0)) (fun _ h => h)
  simpa [SV.den, SC.den, upd_same] using this
theorem makeE_sound {f : SF} {h : SH E} {nm : Nat} {t : TypeId} {len cap : SV} {d : Option Nat} {K : SF → SH E → Prop} (hk : makeE (E := E) P f h nm t len cap d K) {n : Nat} (hn : n ≤ nm) {ν : Nat → Nat} {w w0 : World} {R : Assn} (H : Sat w (h.den ν * R)) (HK : Kept w0 w) :
    ∃ u w', (Instr.makeSlice t (len.den ν) (cap.den ν)).run P w = .ok u w' ∧ Goes K n ν R w0 ((actOf ν f).put d u) w' := by
  unfold makeE at hk
  split at hk <;> try exact hk.elim
  rename_i e hu
  split at hk <;> try exact hk.elim
  rename_i ie hie
  split at hk <;> try exact hk.elim
  rename_i z0 hz
  split at hk <;> try exact hk.elim
  rename_i ll kl l0 bl lc kc c0 bc
  simp only [SV.den, SC.den]
  clear bl bc
  unfold makeI at hk
  split at hk
  · rename_i a b _
    cases hc : Nat.ble a b && Nat.ble (ie.bytes * b) 281474976710656 && Nat.ble b 1000000000 <;> rw [hc] at hk
    · exact hk.elim
    simp only [cond_true] at hk
    simp only [Bool.and_eq_true, Nat.ble_eq] at hc
    obtain ⟨⟨h1, h2⟩, h3⟩ := hc
    have h2' : (ie.bytes : Int) * (b : Int) ≤ 281474976710656 := by have : ((ie.bytes * b : Nat) : Int) ≤ 281474976710656 := by omega
                                                                    rwa [Int.natCast_mul] at this
    have hr := run_make (P := P) w t e ie z0 hu hie hz kl kc (a : Int) (b : Int) (by omega) (by omega) h2' (by omega)
    simp only [Int.toNat_natCast] at hr
    refine ⟨_, _, hr, ?_⟩
    cases hab : a == b <;> rw [hab] at hk
    · simp only [cond_false] at hk
      have := newE_sound hk hn H HK (.cells (madeCells z0.cells (b * ie.size)) e (0, 0)) (fun _ h => ?_)
      · simpa [SV.den, SC.den, upd_same] using this
      · simp only [SO.den]
        refine Sat.mk_ex_mul (madeCells z0.cells (b * ie.size)) ?_
        rw [Assn.mul_assoc]
        have e1 : SC.denL ν (List.take (a * ie.size) (zerosL z0 (b * ie.size))) = (madeCells z0.cells (b * ie.size)).toList.take (a * ie.size) := by
          rw [denL_map, List.map_take, ← denL_map]; unfold zerosL; rw [denL_ofV]
        refine Sat.mk_pure_mul ⟨?_, h1, by unfold maxLen; omega, by simp [madeCells], by rw [e1]⟩ h
        rw [e1]
        simp only [List.length_take, Array.length_toList, size_madeCells]
        exact Nat.min_eq_left (Nat.mul_le_mul_right _ h1)
    · simp only [cond_true] at hk
      have hab := eq_of_beq hab
      subst hab
      have := newE_sound hk hn H HK (.cells (madeCells z0.cells (a * ie.size)) e (0, 0)) (fun _ h => by simp only [SO.den]; rw [zerosL_den]; exact h)
      simpa [SV.den, SC.den, upd_same] using this
  · rename_i l0 c0 _ _ _ _
    have main : ∀ (o : SO E) (v : SV), l0 = c0 → 0 ≤ l0 → (ie.bytes : Int) * l0 ≤ 281474976710656 → l0 ≤ 1000000000 → newE f h nm o v d K → v.den (upd ν nm w.heap.size) = .slice (some ⟨w.heap.size, 0, none⟩) l0.toNat l0.toNat →
        (∀ Q, Sat (w.alloc (.cells (madeCells z0.cells (l0.toNat * ie.size)) e)) (own w.heap.size (.cells (madeCells z0.cells (l0.toNat * ie.size)) e) * Q) → Sat (w.alloc (.cells (madeCells z0.cells (l0.toNat * ie.size)) e)) (o.den ν w.heap.size * Q)) →
        ∃ u w', (Instr.makeSlice t (.int kl l0) (.int kc c0)).run P w = .ok u w' ∧ Goes K n ν R w0 ((actOf ν f).put d u) w' := by
      rintro o v rfl h0 hb h9 hk hv ho
      refine ⟨_, _, run_make (P := P) w t e ie z0 hu hie hz kl kc l0 l0 h0 (Int.le_refl _) hb (by omega), ?_⟩
      have := newE_sound hk hn H HK (.cells (madeCells z0.cells (l0.toNat * ie.size)) e (0, 0)) ho
      rw [hv] at this
      exact this
    split at hk
    · rename_i k
      cases hs : ie.size == 1 <;> rw [hs] at hk
      · exact hk.elim
      simp only [cond_true] at hk
      obtain ⟨h1, h2, h3, h4, hk⟩ := hk
      have hs := eq_of_beq hs
      refine main _ _ h1 h2 h3 h4 hk (by simp [SV.den, SC.den, upd_same]) fun Q h => ?_
      simp only [SO.den]
      have e1 : (madeCells (Value.int k 0).cells (l0.toNat * 1)).toList = intsOf k l0.toNat fun _ => 0 := by
        have := made_vals (Value.int k 0).cells l0.toNat (by simp [Value.cells])
        simp only [Value.cells] at this ⊢
        rw [show (#[Value.int k 0] : Array Value).size = 1 from rfl] at this
        rw [this]
        simp [valsOf, intsOf, List.flatMap_def, List.map_const', List.flatten_replicate_singleton]
      refine Sat.mk_ex_mul (madeCells (Value.int k 0).cells (l0.toNat * ie.size)) ?_
      rw [Assn.mul_assoc]
      refine Sat.mk_pure_mul ⟨by simp [intsOf], Nat.le_refl _, by unfold maxLen; omega, by simp [madeCells, hs], ?_⟩ h
      rw [hs, e1, List.take_of_length_le (by simp [intsOf])]
    · rename_i zz _
      clear zz
      rename Value => z0
      cases hs : ie.size == z0.cells.size && Nat.blt 0 ie.size <;> rw [hs] at hk
      · exact hk.elim
      simp only [cond_true] at hk
      simp only [Bool.and_eq_true, beq_iff_eq, Nat.blt_eq] at hs
      obtain ⟨hs, hpos⟩ := hs
      obtain ⟨h1, h2, h3, h4, hk⟩ := hk
      refine main _ _ h1 h2 h3 h4 hk (by simp [SV.den, SC.den, upd_same]) fun Q h => ?_
      simp only [SO.den]
      rw [Assn.mul_assoc]
      refine Sat.mk_pure_mul (fun i _ => by simp [hs]) ?_
      have e1 := made_vals z0.cells l0.toNat (by omega)
      rw [← hs] at e1
      have hl := valsOf_len ie.size l0.toNat (fun _ => z0.cells.toList) (fun _ _ => by simp [hs])
      refine Sat.mk_ex_mul (madeCells z0.cells (l0.toNat * ie.size)) ?_
      rw [Assn.mul_assoc]
      refine Sat.mk_pure_mul ⟨hl, Nat.le_refl _, by unfold maxLen; omega, by simp [madeCells], ?_⟩ h
      rw [e1, List.take_of_length_le (by rw [hl]; exact Nat.le_refl _)]
end
end Go.Proofs.Ytohijcgbfcahhaa
