/- The executor: tests of equality, slices, built values; all quiet operations together. -/
import Derived.Test.YtohijcgbfcahhaaSymOp3
import Derived.Test.YtohijcgbfcahhaaSem
namespace Go.Proofs.Ytohijcgbfcahhaa
open Go Go.RowKit

section
variable {E : EXT} {P : Program}

def eqOne (P : Program) (t : TypeId) (x y : SC) : Option (Bool × Bool) :=
  match P.underlying t with
  | some (.int _) => match x, y with
    | .int l k a _, .int l' k' b _ => if k = k' then some (l && l', a == b) else none
    | _, _ => none
  | some .bool => match x, y with
    | .boo l a, .boo l' b => some (l && l', a == b)
    | _, _ => none
  | _ => none
theorem eqOne_sound {t : TypeId} {x y : SC} {l b : Bool} (h : eqOne P t x y = some (l, b)) (ν : Nat → Nat) (D : Nat) (w : World) : (Op.equalIn (D + 1) t (x.den ν) (y.den ν)).run P w = .ok b w := by
  unfold eqOne at h
  split at h
  · rename_i k0 hu
    split at h
    · split at h
      · rename_i hk
        simp only [Option.some.injEq, Prod.mk.injEq] at h
        obtain ⟨_, rfl⟩ := h
        subst hk
        simp only [SC.den]
        exact run_equalIn_int w D t _ k0 _ _ hu
      · cases h
    · cases h
  · rename_i hu
    split at h
    · simp only [Option.some.injEq, Prod.mk.injEq] at h
      obtain ⟨_, rfl⟩ := h
      simp only [SC.den]
      exact run_equalIn_bool' w D t _ _ hu
    · cases h
  · cases h
def eqFs (P : Program) (rec : TypeId → List SC → List SC → Option (Bool × Bool)) : List Field → List SC → List SC → Option (Bool × Bool)
  | [], _, _ => some (true, true)
  | f :: fs, xs, ys => bif f.name == "_" then none else
    match sizeT P f.type with
    | some s => match rec f.type ((xs.drop f.offset).take s) ((ys.drop f.offset).take s) with
      | some (l, b) => match eqFs P rec fs xs ys with
        | some (l', b') => some (l && l', b && b')
        | none => none
      | none => none
    | none => none
def eqD (P : Program) : Nat → TypeId → List SC → List SC → Option (Bool × Bool)
  | 0, _, _, _ => none
  | d + 1, t, xs, ys => match P.underlying t with
    | some (.struct fs) => bif P.stoodInHeld t then none else eqFs P (eqD P d) fs.toList xs ys
    | _ => match xs, ys with
      | [x], [y] => eqOne P t x y
      | _, _ => none
def cellsV (P : Program) (ν : Nat → Nat) (t : TypeId) (xs : List SC) : Value :=
  match P.underlying t with
  | some (.struct _) => .agg (SC.denL ν xs).toArray
  | _ => match xs with
    | [x] => x.den ν
    | _ => undef
theorem run_part_cells (ν : Nat → Nat) (t : TypeId) (xs : List SC) (o s : Nat) (hs : sizeT P t = some s) (w : World) (ys : List SC) (he : (xs.drop o).take s = ys)
    (hok : (∃ fs, P.underlying t = some (.struct fs)) ∨ (aggT P t = some false ∧ ∃ y, ys = [y])) : (part t (SC.denL ν xs).toArray o).run P w = .ok (cellsV P ν t ys) w := by
  rcases hok with ⟨fs, hu⟩ | ⟨ha, y, hy⟩
  · have ha : aggT P t = some true := by simp [aggT, hu, TypeDesc.isRow]
    simp only [part, Sem.run_bind, run_isAgg_T ha, run_sizeOf_T hs, Result.andThen_ok, if_true, Sem.run_pure]
    rw [denL_take, he]
    simp [cellsV, hu]
  · subst hy
    have hx : xs[o]? = some y := by
      have h1 : ((xs.drop o).take s)[0]? = some y := by rw [he]; rfl
      rw [List.getElem?_take] at h1
      split at h1
      · rw [List.getElem?_drop] at h1; simpa using h1
      · cases h1
    have hv : (SC.denL ν xs)[o]? = some (y.den ν) := by rw [denL_get, hx]; rfl
    have hc : cellsV P ν t [y] = y.den ν := by
      unfold cellsV
      split
      · rename_i fs hu
        simp [aggT, hu, TypeDesc.isRow] at ha
      · rfl
    rw [hc]
    simp [part, run_isAgg_T ha, hv]
theorem eqD_shape {d : Nat} {t : TypeId} {xs ys : List SC} {l b : Bool} (h : eqD P d t xs ys = some (l, b)) : (∃ fs, P.underlying t = some (.struct fs)) ∨ (aggT P t = some false ∧ (∃ x, xs = [x]) ∧ ∃ y, ys = [y]) := by
  cases d with
  | zero => simp [eqD] at h
  | succ d =>
    unfold eqD at h
    split at h
    · rename_i fs hu; exact .inl ⟨fs, hu⟩
    · split at h
      · rename_i x y
        refine .inr ⟨?_, ⟨x, rfl⟩, ⟨y, rfl⟩⟩
        unfold eqOne at h
        split at h
        · rename_i k hu; simp [aggT, hu, TypeDesc.isRow]
        · rename_i hu; simp [aggT, hu, TypeDesc.isRow]
        · cases h
      · cases h
theorem eqD_sound (ν : Nat → Nat) : ∀ (d : Nat) (t : TypeId) (xs ys : List SC) (l b : Bool), eqD P d t xs ys = some (l, b) → ∀ (D : Nat) (w : World), d ≤ D →
    (Op.equalIn D t (cellsV P ν t xs) (cellsV P ν t ys)).run P w = .ok b w
  | 0, _, _, _, _, _, h, _, _, _ => by simp [eqD] at h
  | d + 1, t, xs, ys, l, b, h, D, w, hD => by
    obtain ⟨D', rfl⟩ : ∃ D', D = D' + 1 := ⟨D - 1, by omega⟩
    have hd : d ≤ D' := by omega
    unfold eqD at h
    split at h
    · rename_i fs hu
      cases hst : P.stoodInHeld t <;> rw [hst] at h
      · simp only [cond_false] at h
        have hf : P.fieldsOf t = fs := by simp [Program.fieldsOf, hu]
        have hc : ∀ zs, cellsV P ν t zs = .agg (SC.denL ν zs).toArray := fun zs => by simp [cellsV, hu]
        rw [hc, hc, run_equalIn_struct w D' t _ _ (by rw [hf]; exact hu) hst, hf]
        clear hu hf hc
        generalize fs.toList = L at h
        induction L generalizing l b w with
        | nil => simp only [eqFs, Option.some.injEq, Prod.mk.injEq] at h; simp [Op.eqFields, h.2]
        | cons f L ih =>
          unfold eqFs at h
          cases hn : f.name == "_" <;> rw [hn] at h
          · simp only [cond_false] at h
            split at h
            · rename_i s hs
              split at h
              · rename_i l1 b1 h1
                split at h
                · rename_i l2 b2 h2
                  simp only [Option.some.injEq, Prod.mk.injEq] at h
                  obtain ⟨_, rfl⟩ := h
                  have hne : f.name ≠ "_" := by simpa using hn
                  have hp1 := run_part_cells ν f.type xs f.offset s hs w _ rfl ((eqD_shape h1).imp id fun ⟨a, x, _⟩ => ⟨a, x⟩)
                  have hp2 := run_part_cells ν f.type ys f.offset s hs w _ rfl ((eqD_shape h1).imp id fun ⟨a, _, y⟩ => ⟨a, y⟩)
                  have he := eqD_sound ν d f.type _ _ l1 b1 h1 D' w hd
                  simp only [Op.eqFields, hne, ne_eq, not_false_eq_true, if_true, Sem.run_bind, hp1, hp2, he, Result.andThen_ok]
                  cases b1
                  · simp
                  · simp only [Bool.not_true, Bool.false_eq_true, if_false, Bool.true_and]
                    exact ih l2 b2 w h2
                · cases h
              · cases h
            · cases h
          · cases h
      · cases h
    · rename_i hu
      split at h
      · rename_i x y
        have hc : ∀ z : SC, cellsV P ν t [z] = z.den ν := by
          intro z
          unfold cellsV
          split
          · rename_i fs hf; exact absurd hf (hu fs)
          · rfl
        rw [hc, hc]
        exact eqOne_sound h ν D' w
      · cases h

def known2 (l : Bool) (b : Bool) : PV := bif l then .ok (litB b) else .ok (.c (.boo false b))
theorem known2_den {l b : Bool} {v : SV} (h : (known2 l b).gives v) (ν : Nat → Nat) : v.den ν = .bool b := by
  cases l <;> simp only [known2, cond_true, cond_false, PV.gives] at h <;> subst h
  · simp [SV.den, SC.den]
  · exact litB_den ν b
/-- Is it a test for equality (true), or for its contrary (false)? -/
def isEq : BinOp → Option Bool
  | .eql => some true
  | .neq => some false
  | _ => none
def kOk : IntKind → Bool
  | .i64 | .u64 | .u8 => true
  | _ => false
def binV (P : Program) (wr : Bool) (op : BinOp) (t : TypeId) (x y : SV) : PV :=
  match x, y with
  | .c (.int l k a x), .c (.int l' k' b y) => match op with
    | .shl => shiftV wr .shl k l a l' b (x.of l) (y.of l')
    | .shr => shiftV wr .shr k l a l' b (x.of l) (y.of l')
    | op => if k = k' then (bif kOk k then binInt wr op k (l && l') a b (x.of l) (y.of l') else .no 120) else .no 121
  | .c (.boo l a), .c (.boo l' b) => match P.underlying t with
    | some .bool => match isEq op with
      | some e => known2 (l && l') (e == (a == b))
      | none => .no 122
    | _ => .no 123
  | .c (.ptr _ _), .c (.raw (.pointer none)) => match P.underlying t with
    | some (.pointer _) => match isEq op with
      | some e => known2 true (e == false)
      | none => .no 124
    | _ => .no 125
  | .c (.raw (.pointer none)), .c (.raw (.pointer none)) => match P.underlying t with
    | some (.pointer _) => match isEq op with
      | some e => known2 true (e == true)
      | none => .no 124
    | _ => .no 125
  | .c (.fn _ _ _), .c (.raw .nilFunc) => match P.underlying t with
    | some (.func _ _ _) => match isEq op with
      | some e => known2 true (e == false)
      | none => .no 126
    | _ => .no 127
  | .c (.raw .nilFunc), .c (.raw .nilFunc) => match P.underlying t with
    | some (.func _ _ _) => match isEq op with
      | some e => known2 true (e == true)
      | none => .no 126
    | _ => .no 127
  | .c (.sli _ _ _ _ _ _ _), .c .nls => match P.underlying t with
    | some (.slice _) => match isEq op with
      | some e => known2 true (e == false)
      | none => .no 128
    | _ => .no 129
  | .c .nls, .c .nls => match P.underlying t with
    | some (.slice _) => match isEq op with
      | some e => known2 true (e == true)
      | none => .no 128
    | _ => .no 129
  | .agg xs, .agg ys => match isEq op with
    | some e => match P.underlying t with
      | some (.struct _) => bif P.eqGuardType P.depth t then .no 130 else match eqD P 8 t xs ys with
        | some (l, b) => known2 l (e == b)
        | none => .no 131
      | _ => .no 132
    | none => .no 133
  | _, _ => .no 134

theorem run_eqGuard_other (op : BinOp) (t : TypeId) (x y : Operand) (a b : Value) (w : World) (h1 : ¬ (a = .nilIface ∧ b = .nilIface)) (h2 : ¬ ((∃ c, a = .agg c) ∧ ∃ c, b = .agg c)) :
    (eqGuard op t x y a b).run P w = .ok () w := by
  have key : ∀ (a b : Value), ¬ (a = .nilIface ∧ b = .nilIface) → ¬ ((∃ c, a = .agg c) ∧ ∃ c, b = .agg c) → ∀ (f g : Sem Unit), (match a, b with | .nilIface, .nilIface => f | .agg _, .agg _ => g | _, _ => pure ()) = pure () := by
    intro a b h1 h2 f g
    split
    · exact absurd ⟨rfl, rfl⟩ h1
    · exact absurd ⟨⟨_, rfl⟩, ⟨_, rfl⟩⟩ h2
    · rfl
  cases op <;> first
    | rfl
    | (simp only [eqGuard, Bool.not_true, Bool.false_eq_true, if_false]
       have := key a b h1 h2
       cases a <;> cases b <;> first | rfl | exact absurd ⟨rfl, rfl⟩ h1 | exact absurd ⟨⟨_, rfl⟩, ⟨_, rfl⟩⟩ h2)
theorem SC.den_fn (ν : Nat → Nat) (f : Fn) (a c : List SC) : (SC.fn f a c).den ν = .func f (SC.denL ν a).toArray (SC.denL ν c).toArray := by simp [SC.den]
section
variable {t : TypeId} (w : World)
theorem eq_ptr_nil {e : TypeId} (hu : P.underlying t = some (.pointer e)) (d : Nat) (a : Addr) : (Op.equalIn (d + 1) t (.pointer (some a)) (.pointer none)).run P w = .ok false w := by simp [Op.equalIn, run_underlying hu]
theorem eq_nil_nil {e : TypeId} (hu : P.underlying t = some (.pointer e)) (d : Nat) : (Op.equalIn (d + 1) t (.pointer none) (.pointer none)).run P w = .ok true w := by simp [Op.equalIn, run_underlying hu]
theorem eq_sli_nil {e : TypeId} (hu : P.underlying t = some (.slice e)) (d : Nat) (a : Addr) (n c : Nat) : (Op.equalIn (d + 1) t (.slice (some a) n c) (.slice none 0 0)).run P w = .ok false w := by simp [Op.equalIn, run_underlying hu]
theorem eq_nls_nls {e : TypeId} (hu : P.underlying t = some (.slice e)) (d : Nat) : (Op.equalIn (d + 1) t (.slice none 0 0) (.slice none 0 0)).run P w = .ok true w := by simp [Op.equalIn, run_underlying hu]
end
theorem run_isEq {op : BinOp} {e : Bool} {t : TypeId} {a b : Value} {r : Bool} {w : World} (h : isEq op = some e) (h1 : binOp .eql t a b = (do pure (.bool (← Op.equal t a b)))) (h2 : binOp .neq t a b = (do pure (.bool (!(← Op.equal t a b)))))
    (hr : (Op.equalIn 10000 t a b).run P w = .ok r w) : (binOp op t a b).run P w = .ok (.bool (e == r)) w := by
  cases op <;> simp only [isEq] at h <;> try cases h
  · rw [h1]; simp only [Op.equal, Op.maxDepth, Sem.run_bind, hr, Result.andThen_ok, Sem.run_pure]; simp
  · rw [h2]; simp only [Op.equal, Op.maxDepth, Sem.run_bind, hr, Result.andThen_ok, Sem.run_pure]; simp
theorem binV_agg {wr : Bool} {op : BinOp} {t : TypeId} {xs ys : List SC} {v : SV} (hg : (binV P wr op t (.agg xs) (.agg ys)).gives v) (ν : Nat → Nat) (w : World) (xo yo : Operand) :
    (eqGuard op t xo yo ((SV.agg xs).den ν) ((SV.agg ys).den ν)).run P w = .ok () w ∧ (binOp op t ((SV.agg xs).den ν) ((SV.agg ys).den ν)).run P w = .ok (v.den ν) w := by
  simp only [binV] at hg
  split at hg <;> try exact hg.elim
  rename_i e he
  split at hg <;> try exact hg.elim
  rename_i fs hu
  cases hq : P.eqGuardType P.depth t <;> rw [hq] at hg
  · simp only [cond_false] at hg
    split at hg <;> try exact hg.elim
    rename_i l b hd
    have := eqD_sound ν 8 t xs ys l b hd 10000 w (by omega)
    have hc : ∀ zs, cellsV P ν t zs = .agg (SC.denL ν zs).toArray := fun zs => by simp [cellsV, hu]
    rw [hc, hc] at this
    refine ⟨run_eqGuard_agg _ _ _ _ _ _ _ hq, ?_⟩
    rw [known2_den hg]
    exact run_isEq he rfl rfl this
  · exact hg.elim
theorem binInt_k {wr l : Bool} {op : BinOp} {k : IntKind} {a b : Int} {x : Bd a} {y : Bd b} {v : SV} (hg : (bif kOk k then binInt wr op k l a b x y else .no 120).gives v) (ν : Nat → Nat) (t : TypeId) (w : World) :
    (binOp op t (.int k a) (.int k b)).run P w = .ok (v.den ν) w := by
  cases hk : kOk k <;> rw [hk] at hg
  · exact hg.elim
  · exact binInt_den (by cases k <;> simp [kOk] at hk <;> simp) hg ν t w
theorem binV_sound {wr : Bool} {op : BinOp} {t : TypeId} {x y v : SV} (hg : (binV P wr op t x y).gives v) (ν : Nat → Nat) (w : World) (xo yo : Operand) :
    (eqGuard op t xo yo (x.den ν) (y.den ν)).run P w = .ok () w ∧ (binOp op t (x.den ν) (y.den ν)).run P w = .ok (v.den ν) w := by
  unfold binV at hg
  split at hg
  · refine ⟨run_eqGuard_other _ _ _ _ _ _ _ (by simp [SV.den, SC.den]) (by simp [SV.den, SC.den]), ?_⟩
    simp only [SV.den, SC.den]
    split at hg
    · exact shiftV_sound hg ν t w
    · exact shiftV_sound hg ν t w
    · split at hg
      · rename_i hk
        subst hk
        exact binInt_k hg ν t w
      · exact hg.elim
  · refine ⟨run_eqGuard_other _ _ _ _ _ _ _ (by simp [SV.den, SC.den]) (by simp [SV.den, SC.den]), ?_⟩
    simp only [SV.den, SC.den]
    split at hg
    · rename_i hu
      split at hg
      · rename_i e he
        have := known2_den hg ν
        simp only [SV.den] at this
        rw [this]
        cases op <;> simp only [isEq] at he <;> try cases he
        · simp [binOp, Op.equal, Op.maxDepth, run_equalIn_bool' w 9999 t _ _ hu]
        · simp only [binOp, Op.equal, Op.maxDepth, Sem.run_bind, run_equalIn_bool' w 9999 t _ _ hu, Result.andThen_ok, Sem.run_pure]
          simp
      · exact hg.elim
    · exact hg.elim
  case h_9 => 
    rename_i xs ys
    exact binV_agg (wr := wr) hg ν w xo yo
  case h_10 => exact hg.elim
  all_goals
    refine ⟨run_eqGuard_other _ _ _ _ _ _ _ (by simp [SV.den, SC.den]) (by simp [SV.den, SC.den]), ?_⟩
    split at hg <;> try exact hg.elim
    rename_i hu
    split at hg <;> try exact hg.elim
    rename_i e he
    rw [known2_den hg]
    simp only [SV.den, SC.den]
    first
      | exact run_isEq he rfl rfl (eq_ptr_nil w hu 9999 _)
      | exact run_isEq he rfl rfl (eq_nil_nil w hu 9999)
      | exact run_isEq he rfl rfl (eq_sli_nil w hu 9999 _ _ _)
      | exact run_isEq he rfl rfl (eq_nls_nls w hu 9999)
      | exact run_isEq he rfl rfl (run_equalIn_func w hu _ _ _ 9999)
      | exact run_isEq he rfl rfl (run_equalIn_nils w hu 9999)
end
end Go.Proofs.Ytohijcgbfcahhaa
