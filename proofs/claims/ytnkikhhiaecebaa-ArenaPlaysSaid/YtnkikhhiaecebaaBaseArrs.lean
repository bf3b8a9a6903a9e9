/- Rows of pointers to objects: one of them is told by itself, and told among the others again. No program in sight. -/
import Derived.Test.YtnkikhhiaecebaaBaseC
set_option linter.all false
namespace Go.Proofs.Ytnkikhhiaecebaa
open Go Go.RowKit
section
variable {E : EXT} {H : Hid E}

theorem ptrO_len {X : Type} (x : Option X) (b : Nat) : (ptrO x b).length = 1 := by cases x <;> rfl
theorem all_take {ν : Nat → Nat} {b : Nat} {ns : List Nat} {t n cap : Nat} {x : Nat → Option H.X} {i : Nat} (hi : i < n) {w : World} {R : Assn} (h : Sat w ((HO.all ns t n cap x : HO E H).den ν b * R)) :
    ∃ (g : Nat → List Value) (c : Nat), Sat w ((Assn.pure (∀ j, j < n → (g j).length = 1) * rowHead b t 1 n cap (valsOf n fun j => if j = i then ptrO (x i) c else g j)) * ((HO.rest ns n x i g : HO E H).den ν 0 * (optDen H ν c ns (x i) * R))) := by
  simp only [HO.den] at h
  obtain ⟨bs, h⟩ := h.ex_mul
  rw [Assn.mul_assoc, starN_take hi, Assn.mul_assoc] at h
  refine ⟨fun j => ptrO (x j) (bs j), bs i, ?_⟩
  have e : (valsOf n fun j => if j = i then ptrO (x i) (bs i) else ptrO (x j) (bs j)) = valsOf n fun j => ptrO (x j) (bs j) := valsOf_congr fun j _ => by
    by_cases hj : j = i
    · rw [if_pos hj, hj]
    · rw [if_neg hj]
  rw [e, Assn.mul_assoc]
  refine Sat.mk_pure_mul (fun j _ => ptrO_len _ _) ?_
  have h2 : Sat w ((HO.rest ns n x i fun j => ptrO (x j) (bs j) : HO E H).den ν 0 * (rowHead b t 1 n cap (valsOf n fun j => ptrO (x j) (bs j)) * (optDen H ν (bs i) ns (x i) * R))) := by
    simp only [HO.den]
    refine Sat.mk_ex_mul bs ?_
    rw [Assn.mul_assoc]
    refine Sat.mk_pure_mul (fun j _ => rfl) ?_
    exact h.cast (by ac_rfl)
  exact h2.cast (by ac_rfl)
theorem all_put {ν : Nat → Nat} {b r : Nat} {ns : List Nat} {t n cap : Nat} {x : Nat → Option H.X} {i : Nat} (hi : i < n) {g : Nat → List Value} {c : Nat} {y : Option H.X} {w : World} {R : Assn}
    (h : Sat w (rowHead b t 1 n cap (valsOf n fun j => if j = i then ptrO y c else g j) * ((HO.rest ns n x i g : HO E H).den ν r * (optDen H ν c ns y * R)))) :
    Sat w ((HO.all ns t n cap fun j => if j = i then y else x j : HO E H).den ν b * R) := by
  have h1 : Sat w ((HO.rest ns n x i g : HO E H).den ν r * (rowHead b t 1 n cap (valsOf n fun j => if j = i then ptrO y c else g j) * (optDen H ν c ns y * R))) := h.cast (by ac_rfl)
  simp only [HO.den] at h1
  obtain ⟨bs, h1⟩ := h1.ex_mul
  rw [Assn.mul_assoc] at h1
  obtain ⟨hg, h1⟩ := h1.pure_mul
  simp only [HO.den]
  refine Sat.mk_ex_mul (fun j => if j = i then c else bs j) ?_
  rw [Assn.mul_assoc, starN_take hi]
  simp only [if_true]
  rw [Assn.mul_assoc]
  have e1 : (valsOf n fun j => ptrO (if j = i then y else x j) (if j = i then c else bs j)) = valsOf n fun j => if j = i then ptrO y c else g j := valsOf_congr fun j hj => by
    by_cases e : j = i
    · rw [if_pos e, if_pos e, if_pos e]
    · rw [if_neg e, if_neg e, if_neg e, hg j hj]
  have e2 : (starN n fun j => if j = i then 1 else optDen H ν (if j = i then c else bs j) ns (if j = i then y else x j)) = starN n fun j => if j = i then 1 else optDen H ν (bs j) ns (x j) := starN_congr fun j _ => by
    by_cases e : j = i
    · rw [if_pos e, if_pos e]
    · rw [if_neg e, if_neg e, if_neg e, if_neg e]
  rw [e1, e2]
  exact h1.cast (by ac_rfl)

def rowAt? (f : SF) (ts : Nat) : Option Nat := match f.at ts with
  | .c (.sli n _ _ _ _ _ _) => some n
  | .c (.ptr n 0) => some n
  | _ => none
def numAt? (f : SF) (ti : Nat) : Option Int := match f.at ti with
  | .c (.int _ _ i _) => some i
  | _ => none
theorem sat_row_first {m : SH (E.hid H)} {n : Nat} {o : SO (E.hid H)} (h : m.get n = some o) (ν : Nat → Nat) {w : World} {R : Assn} (hs : Sat w (m.den ν * R)) : Sat w (o.den ν (ν n) * ((m.del n).den ν * R)) := by
  rw [SH.den_get ν h, Assn.mul_assoc] at hs
  exact hs
def focusRun (ts ti : Nat) (f : SF) (m : Mem (E.hid H)) (K : Mem (E.hid H) → Prop) : Prop :=
  match rowAt? f ts, numAt? f ti with
  | some n, some z => match m.hp.get n with
    | some (.ext (HO.all ns t N cap x)) =>
      bif (m.hp.names.all fun k => Nat.blt k m.nx) && ns.all fun k => Nat.blt k m.nx then
        (0 ≤ z ∧ z < (N : Int)) ∧ ∀ g : Nat → List Value,
          (x z.toNat = none → K ⟨(n, .arr t 1 N cap g z.toNat [.raw (.pointer none)]) :: (m.nx, .ext (HO.rest ns N x z.toNat g)) :: m.hp.del n, m.nx + 1⟩) ∧
          (∀ y, x z.toNat = some y → K ⟨(n, .arr t 1 N cap g z.toNat [.ptr (m.nx + 1) 0]) :: (m.nx, .ext (HO.rest ns N x z.toNat g)) :: (m.nx + 1, .ext (HO.obj ns y)) :: m.hp.del n, m.nx + 2⟩)
      else Stuck 850
    | _ => Stuck 851
  | _, _ => Stuck 852
theorem all_lt {l : List Nat} {n : Nat} (h : l.all (fun k => Nat.blt k n) = true) {ν μ : Nat → Nat} (hm : ∀ k, k < n → ν k = μ k) : ∀ k ∈ l, ν k = μ k := fun k hk => hm k (by
  have := List.all_eq_true.1 h k hk
  simpa [Nat.blt_eq] using this)
theorem focus_ok (ts ti : Nat) (f : SF) (m : Mem (E.hid H)) (K : Mem (E.hid H) → Prop) (h : focusRun ts ti f m K) (ν : Nat → Nat) (w : World) (R : Assn) (hs : Sat w (m.hp.den ν * R)) :
    ∃ m' μ, K m' ∧ Agree m.nx ν μ ∧ m.nx ≤ m'.nx ∧ Sat w (m'.hp.den μ * R) := by
  unfold focusRun at h
  split at h <;> try exact h.elim
  rename_i n z hn hz
  split at h <;> try exact h.elim
  rename_i ns t N cap x hg
  cases hb : ((m.hp.names.all fun k => Nat.blt k m.nx) && ns.all fun k => Nat.blt k m.nx) <;> rw [hb] at h
  · exact h.elim
  simp only [cond_true] at h
  obtain ⟨⟨h0, h1⟩, h⟩ := h
  simp only [Bool.and_eq_true] at hb
  have hlt : z.toNat < N := by omega
  have H1 := sat_row_first hg ν hs
  simp only [SO.den] at H1
  obtain ⟨g, c, H2⟩ := all_take (H := H) hlt H1
  rw [Assn.mul_assoc] at H2
  obtain ⟨hgl, H2⟩ := H2.pure_mul
  have hnn : n < m.nx := by
    have hmem : n ∈ m.hp.names := by
      have : ∀ (l : SH (E.hid H)) o, l.get n = some o → n ∈ l.names := by
        intro l
        induction l with
        | nil => intro o ho; cases ho
        | cons p l ih =>
          obtain ⟨j, o'⟩ := p
          intro o ho
          simp only [SH.get] at ho
          simp only [SH.names, List.mem_cons, List.mem_append]
          split at ho
          · rename_i e; exact .inl e.symm
          · exact .inr (.inr (ih o ho))
      exact this _ _ hg
    have := List.all_eq_true.1 hb.1 n hmem
    simpa [Nat.blt_eq] using this
  have key : ∀ (μ : Nat → Nat), (∀ k, k < m.nx → ν k = μ k) → SH.den ν (m.hp.del n) = SH.den μ (m.hp.del n) := fun μ hμ => SH.den_eq _ fun k hk => all_lt hb.1 hμ k (names_del k hk)
  cases hx : x z.toNat with
  | none =>
    refine ⟨_, ν, (h g).1 hx, Agree.refl _ _, Nat.le_succ _, ?_⟩
    rw [hx] at H2
    simp only [optDen, Assn.one_mul] at H2
    simp only [SH.den, SO.den]
    have e : (valsOf N fun j => if j = z.toNat then SC.denL ν [SC.raw (.pointer none)] else g j) = valsOf N fun j => if j = z.toNat then ptrO (none : Option H.X) c else g j := rfl
    rw [e, Assn.mul_assoc, Assn.mul_assoc]
    refine Sat.mk_pure_mul ⟨hlt, rfl, hgl⟩ ?_
    exact H2.cast (by
      have e3 : EXT.den (E.hid H) ν (ν m.nx) (HO.rest ns N x z.toNat g) = (HO.rest ns N x z.toNat g : HO E H).den ν 0 := rfl
      rw [e3]; ac_rfl)
  | some y =>
    rw [hx] at H2
    have hag : Agree m.nx ν (upd ν (m.nx + 1) c) := Agree.upd (Nat.le_succ _) _
    have hlow : ∀ k, k < m.nx → ν k = upd ν (m.nx + 1) c k := fun k hk => (upd_other (by omega)).symm
    refine ⟨_, upd ν (m.nx + 1) c, (h g).2 y hx, hag, by show m.nx ≤ m.nx + 2; omega, ?_⟩
    simp only [SH.den, SO.den]
    have e : (valsOf N fun j => if j = z.toNat then SC.denL (upd ν (m.nx + 1) c) [SC.ptr (m.nx + 1) 0] else g j) = valsOf N fun j => if j = z.toNat then ptrO (some y) c else g j := valsOf_congr fun j _ => by
      simp only [SC.denL, SC.den, upd_same, ptrO]
    have e1 : upd ν (m.nx + 1) c n = ν n := (hlow n hnn).symm
    rw [e, e1, ← key _ hlow, Assn.mul_assoc, Assn.mul_assoc]
    refine Sat.mk_pure_mul ⟨hlt, rfl, hgl⟩ ?_
    refine H2.cast ?_
    have e3 : EXT.den (E.hid H) (upd ν (m.nx + 1) c) (upd ν (m.nx + 1) c m.nx) (HO.rest ns N x z.toNat g) = (HO.rest ns N x z.toNat g : HO E H).den ν 0 := by
      refine ((E.hid H).law ν (upd ν (m.nx + 1) c) _ (HO.rest ns N x z.toNat g) (fun k hk => all_lt hb.2 hlow k hk)).symm.trans ?_
      rfl
    have e4 : EXT.den (E.hid H) (upd ν (m.nx + 1) c) (upd ν (m.nx + 1) c (m.nx + 1)) (HO.obj ns y) = optDen H ν c ns (some y) := by
      rw [upd_same]
      exact (hidDen_law (fun k hk => all_lt hb.2 hlow k hk)).symm
    rw [e3, e4]
    ac_rfl
def restAt : SH (E.hid H) → Option Nat
  | [] => none
  | (r, .ext (HO.rest _ _ _ _ _)) :: _ => some r
  | _ :: h => restAt h
def foldRun (ts : Nat) (f : SF) (m : Mem (E.hid H)) (K : Mem (E.hid H) → Prop) : Prop :=
  match rowAt? f ts, restAt m.hp with
  | some n, some r => match m.hp.get n with
    | some (.arr t 1 N cap g i [c]) => match (m.hp.del n).get r with
      | some (.ext (HO.rest ns N' x i' g')) => match c with
        | .ptv none => (N = N' ∧ i = i' ∧ g = g') ∧ K ⟨(n, .ext (HO.all ns t N cap fun j => if j = i then none else x j)) :: (m.hp.del n).del r, m.nx⟩
        | .raw (.pointer none) => (N = N' ∧ i = i' ∧ g = g') ∧ K ⟨(n, .ext (HO.all ns t N cap fun j => if j = i then none else x j)) :: (m.hp.del n).del r, m.nx⟩
        | .ptr p 0 => match ((m.hp.del n).del r).get p with
          | some (.ext (HO.obj ms y)) => bif eqNs ns ms then (N = N' ∧ i = i' ∧ g = g') ∧ K ⟨(n, .ext (HO.all ns t N cap fun j => if j = i then some y else x j)) :: ((m.hp.del n).del r).del p, m.nx⟩ else Stuck 853
          | _ => Stuck 854
        | _ => Stuck 855
      | _ => Stuck 856
    | _ => Stuck 857
  | _, _ => Stuck 858
theorem fold_ok (ts : Nat) (f : SF) (m : Mem (E.hid H)) (K : Mem (E.hid H) → Prop) (h : foldRun ts f m K) (ν : Nat → Nat) (w : World) (R : Assn) (hs : Sat w (m.hp.den ν * R)) :
    ∃ m' μ, K m' ∧ Agree m.nx ν μ ∧ m.nx ≤ m'.nx ∧ Sat w (m'.hp.den μ * R) := by
  unfold foldRun at h
  split at h <;> try exact h.elim
  rename_i n r hn hr
  split at h <;> try exact h.elim
  rename_i t N cap g i c hg
  split at h <;> try exact h.elim
  rename_i ns N' x i' g' hrest
  have H1 := sat_row_first hg ν hs
  have hf := arr_facts H1
  have hi := hf.1.1
  replace H1 := hf.2
  clear hf
  have H2 : Sat w (SH.den ν (m.hp.del n) * (rowHead (ν n) t 1 N cap (valsOf N fun j => if j = i then SC.denL ν [c] else g j) * R)) := H1.cast (by ac_rfl)
  have H3 := sat_row_first hrest ν H2
  have fin : ∀ (y : Option H.X) (b : Nat) (rest : SH (E.hid H)), N = N' → i = i' → g = g' → SC.denL ν [c] = ptrO y b →
      Sat w ((SO.ext (HO.rest ns N' x i' g') : SO (E.hid H)).den ν (ν r) * (optDen H ν b ns y * (SH.den ν rest * (rowHead (ν n) t 1 N cap (valsOf N fun j => if j = i then SC.denL ν [c] else g j) * R)))) →
      Sat w (SH.den ν ((n, (.ext (HO.all ns t N cap fun j => if j = i then y else x j) : SO (E.hid H))) :: rest) * R) := by
    intro y b rest eN ei eg ec Hs
    subst eN ei eg
    rw [ec] at Hs
    have H4 : Sat w (rowHead (ν n) t 1 N cap (valsOf N fun j => if j = i then ptrO y b else g j) * ((HO.rest ns N x i g : HO E H).den ν (ν r) * (optDen H ν b ns y * (SH.den ν rest * R)))) := by
      refine Hs.cast ?_
      have e3 : (SO.ext (HO.rest ns N x i g) : SO (E.hid H)).den ν (ν r) = (HO.rest ns N x i g : HO E H).den ν (ν r) := rfl
      rw [e3]; ac_rfl
    have H5 := all_put (H := H) hi H4
    simp only [SH.den, SO.den]
    rw [Assn.mul_assoc]
    exact H5
  split at h <;> try exact h.elim
  · obtain ⟨⟨eN, ei, eg⟩, hk⟩ := h
    refine ⟨_, ν, hk, Agree.refl _ _, Nat.le_refl _, fin none 0 _ eN ei eg rfl ?_⟩
    simp only [optDen, Assn.one_mul]
    exact H3
  · obtain ⟨⟨eN, ei, eg⟩, hk⟩ := h
    refine ⟨_, ν, hk, Agree.refl _ _, Nat.le_refl _, fin none 0 _ eN ei eg rfl ?_⟩
    simp only [optDen, Assn.one_mul]
    exact H3
  · rename_i p
    split at h <;> try exact h.elim
    rename_i ms y hobj
    cases hb : eqNs ns ms <;> rw [hb] at h
    · exact h.elim
    simp only [cond_true] at h
    have ens := eqNs_eq hb
    subst ens
    obtain ⟨⟨eN, ei, eg⟩, hk⟩ := h
    refine ⟨_, ν, hk, Agree.refl _ _, Nat.le_refl _, fin (some y) (ν p) _ eN ei eg rfl ?_⟩
    have H4 : Sat w (SH.den ν ((m.hp.del n).del r) * ((SO.ext (HO.rest ns N' x i' g') : SO (E.hid H)).den ν (ν r) * (rowHead (ν n) t 1 N cap (valsOf N fun j => if j = i then SC.denL ν [SC.ptr p 0] else g j) * R))) := H3.cast (by ac_rfl)
    have H5 := sat_row_first hobj ν H4
    have e3 : (SO.ext (HO.obj ns y) : SO (E.hid H)).den ν (ν p) = optDen H ν (ν p) ns (some y) := rfl
    rw [e3] at H5
    exact H5.cast (by ac_rfl)
def foldG (ts : Nat) : Ghost (E.hid H) := ⟨foldRun ts, fold_ok ts⟩
end
end Go.Proofs.Ytnkikhhiaecebaa
