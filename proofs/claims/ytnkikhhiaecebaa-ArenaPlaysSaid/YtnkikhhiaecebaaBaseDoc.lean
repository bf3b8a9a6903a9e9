/- Rows that nobody turns any more are put with the memory that was there at first: a step of the proof alone. No program in sight. -/
import Derived.DataElems
import Derived.Test.YtnkikhhiaecebaaBaseC
import Derived.Test.YtnkikhhiaecebaaBaseAP1
set_option linter.all false
namespace Go.Proofs.Ytnkikhhiaecebaa
open Go Go.RowKit

def CellAt (W : World) (a : Option Addr) (j : Nat) (u : Value) : Prop := ∃ x, addOpt a j = some x ∧ W.cell? x = some u
theorem CellAt.grow {W W' : World} {a : Option Addr} {j : Nat} {u : Value} (h : CellAt W a j u) (g : Grow W W') : CellAt W' a j u := by
  obtain ⟨x, hx, hc⟩ := h
  exact ⟨x, hx, g.cell hc⟩
theorem CellAt.int {W : World} {a : Option Addr} {j : Nat} {k : IntKind} {n : Int} (h : CellAt W a j (.int k n)) (h0 : k.min ≤ n) (h1 : n ≤ k.max) : Seen k W (addOpt a j) ∧ seenInt k W (addOpt a j) = n := by
  obtain ⟨x, hx, hc⟩ := h
  have e : seenInt k W (addOpt a j) = n := by
    rw [hx]
    simp only [seenInt, hc]
    omega
  exact ⟨⟨x, hx, by rw [e]; exact hc⟩, e⟩
theorem CellAt.sli {W : World} {a b : Option Addr} {j n c : Nat} (h : CellAt W a j (.slice b n c)) : SeenS W (addOpt a j) ∧ seenSli W (addOpt a j) = (b, n, c) := by
  obtain ⟨x, hx, hc⟩ := h
  have e : seenSli W (addOpt a j) = (b, n, c) := by
    rw [hx]
    simp only [seenSli, hc]
  exact ⟨⟨x, hx, by rw [e]; exact hc⟩, e⟩
theorem addOpt_2 (a : Option Addr) (i j : Nat) : addOpt (addOpt a i) j = addOpt a (i + j) := by
  cases a with
  | none => rfl
  | some x => simp only [addOpt, Option.map_some, Addr.add_add]
theorem addOpt_0 (a : Option Addr) : addOpt a 0 = a := by
  cases a with
  | none => rfl
  | some x => rfl
theorem Seen.cell {k : IntKind} {W : World} {a : Option Addr} (h : Seen k W a) : CellAt W a 0 (.int k (seenInt k W a)) := by
  obtain ⟨x, hx, hc⟩ := h
  exact ⟨x, by rw [addOpt_0]; exact hx, hc⟩
theorem Seen.grow {k : IntKind} {W W' : World} {a : Option Addr} (h : Seen k W a) (g : Grow W W') : Seen k W' a ∧ seenInt k W' a = seenInt k W a := by
  obtain ⟨x, hx, hc⟩ := h
  have hb := seenInt_bd k W a
  have e : seenInt k W' a = seenInt k W a := by
    generalize seenInt k W a = z at *
    have hc' := g.cell hc
    rw [hx]
    simp only [seenInt, hc']
    omega
  exact ⟨⟨x, hx, by rw [e]; exact g.cell hc⟩, e⟩
theorem SeenS.grow {W W' : World} {a : Option Addr} (h : SeenS W a) (g : Grow W W') : SeenS W' a ∧ seenSli W' a = seenSli W a := by
  obtain ⟨x, hx, hc⟩ := h
  have e : seenSli W' a = seenSli W a := by
    generalize seenSli W a = z at *
    have hc' := g.cell hc
    rw [hx]
    simp only [seenSli, hc']
  exact ⟨⟨x, hx, by rw [e]; exact g.cell hc⟩, e⟩
theorem SeenB.grow {W W' : World} {a : Option Addr} (h : SeenB W a) (g : Grow W W') : SeenB W' a ∧ seenBoo W' a = seenBoo W a := by
  obtain ⟨x, hx, hc⟩ := h
  have e : seenBoo W' a = seenBoo W a := by
    generalize seenBoo W a = z at *
    have hc' := g.cell hc
    rw [hx]
    simp only [seenBoo, hc']
  exact ⟨⟨x, hx, by rw [e]; exact g.cell hc⟩, e⟩
theorem SeenL.grow {W W' : World} {a : Option Addr} (g : Grow W W') : ∀ {ks : List Kd} {i : Nat}, SeenL W a i ks → SeenL W' a i ks
  | [], _, _ => trivial
  | k :: ks, i, h => ⟨by
      cases k with
      | int k => exact (Seen.grow h.1 g).1
      | boo => exact (SeenB.grow h.1 g).1
      | sli => exact (SeenS.grow h.1 g).1, SeenL.grow g h.2⟩

section
variable {E : EXT}
mutual
def SC.frz (n : Nat) (a : Option Addr) : SC → SC
  | .sli m k lo o ll len cap => match o with
    | 0 => bif Nat.beq m n then .sliv a ll len cap else .sli m k lo 0 ll len cap
    | o + 1 => .sli m k lo (o + 1) ll len cap
  | .ifc t x => .ifc t (x.frz n a)
  | .fn f x y => .fn f (SC.frzL n a x) (SC.frzL n a y)
  | x => x
termination_by structural x => x
def SC.frzL (n : Nat) (a : Option Addr) : List SC → List SC
  | [] => []
  | x :: l => x.frz n a :: SC.frzL n a l
termination_by structural l => l
end
mutual
theorem SC.frz_den (ν : Nat → Nat) (n : Nat) : ∀ x : SC, (x.frz n (some ⟨ν n, 0, none⟩)).den ν = x.den ν
  | .sli m k lo o ll len cap => by
    simp only [SC.frz]
    cases o with
    | zero =>
      simp only
      cases h : Nat.beq m n
      · rfl
      · have := Nat.eq_of_beq_eq_true h
        subst this
        simp only [cond_true, SC.den, Nat.zero_mul]
    | succ o => rfl
  | .ifc t x => by simp only [SC.frz, SC.den]; rw [SC.frz_den ν n x]
  | .fn f x y => by simp only [SC.frz, SC.den]; rw [SC.frzL_den ν n x, SC.frzL_den ν n y]
  | .int _ _ _ _ => rfl
  | .boo _ _ => rfl
  | .ptr _ _ => rfl
  | .elp _ _ _ _ => rfl
  | .nls => rfl
  | .map _ => rfl
  | .sliv _ _ _ _ => rfl
  | .ptv _ => rfl
  | .raw _ => rfl
theorem SC.frzL_den (ν : Nat → Nat) (n : Nat) : ∀ l : List SC, SC.denL ν (SC.frzL n (some ⟨ν n, 0, none⟩) l) = SC.denL ν l
  | [] => rfl
  | x :: l => by simp only [SC.frzL, SC.denL]; rw [SC.frz_den ν n x, SC.frzL_den ν n l]
end
theorem SC.frzL_len (n : Nat) (a : Option Addr) : ∀ l : List SC, (SC.frzL n a l).length = l.length
  | [] => rfl
  | x :: l => by simp only [SC.frzL, List.length_cons]; rw [SC.frzL_len n a l]
def SO.frz (n : Nat) (a : Option Addr) : SO E → SO E
  | .cells l t => .cells (SC.frzL n a l) t
  | .row t k m cap l => .row t k m cap (SC.frzL n a l)
  | .arr t k m cap f i l => .arr t k m cap f i (SC.frzL n a l)
  | o => o
theorem SO.frz_den (ν : Nat → Nat) (n b : Nat) (o : SO E) : (o.frz n (some ⟨ν n, 0, none⟩)).den ν b = o.den ν b := by
  cases o <;> simp only [SO.frz, SO.den, SC.frzL_den, SC.frzL_len]
def SH.frz (n : Nat) (a : Option Addr) : SH E → SH E
  | [] => []
  | (m, o) :: h => (m, o.frz n a) :: SH.frz n a h
theorem SH.frz_den (ν : Nat → Nat) (n : Nat) : ∀ h : SH E, (h.frz n (some ⟨ν n, 0, none⟩)).den ν = h.den ν
  | [] => rfl
  | (m, o) :: h => by simp only [SH.frz, SH.den]; rw [SO.frz_den, SH.frz_den ν n h]

theorem head_frz {W w : World} {R : Assn} {b : Nat} {t : TypeId} {k n cap : Nat} {xs : List Value} (h : Sat w (seenA W * (rowHead b t k n cap xs * R))) :
    ∃ W', Grow W W' ∧ (∀ j u, xs[j]? = some u → CellAt W' (some ⟨b, 0, none⟩) j u) ∧ (n ≤ cap ∧ cap ≤ maxLen) ∧ Sat w (seenA W' * R) := by
  have h1 : Sat w (rowHead b t k n cap xs * (seenA W * R)) := h.cast (by ac_rfl)
  obtain ⟨cur, h1⟩ := h1.ex_mul
  rw [Assn.mul_assoc] at h1
  obtain ⟨⟨hl, hc, hm, hs, ht⟩, h1⟩ := h1.pure_mul
  obtain ⟨W', hg, hv, hs'⟩ := seenA_freeze (W := W) (h1.cast (by ac_rfl))
  refine ⟨W', hg, fun j u hj => ⟨⟨b, j, none⟩, by simp [addOpt, Addr.add_mid], hv j u ?_⟩, ⟨hc, hm⟩, hs'⟩
  rw [← ht, List.getElem?_take] at hj
  split at hj
  · simpa using hj
  · cases hj
def frz1 (n : Nat) (hp : SH E) (K : SH E → Prop) : Prop :=
  match hp.get 0 with
  | some (.seen W) => match (hp.del 0).get n with
    | some (.ints _ k cnt cap f) => ∀ (W' : World) (a : Option Addr), Grow W W' → a.isSome = true → (cnt ≤ cap ∧ cap ≤ maxLen) → (∀ j, j < cnt → CellAt W' a j (.int k (f j))) → K (((hp.set 0 (.seen W')).del n).frz n a)
    | some (.arr _ k cnt cap f i l) => match closedL l with
      | some vs => ∀ (W' : World) (a : Option Addr), Grow W W' → a.isSome = true → (cnt ≤ cap ∧ cap ≤ maxLen) → i < cnt → (∀ j, j < cnt → j ≠ i → ∀ c u, (f j)[c]? = some u → CellAt W' a (j * k + c) u) → (∀ c u, vs[c]? = some u → CellAt W' a (i * k + c) u) → K (((hp.set 0 (.seen W')).del n).frz n a)
      | none => Stuck 680
    | some (.vals _ k cnt cap f) => ∀ (W' : World) (a : Option Addr), Grow W W' → a.isSome = true → (cnt ≤ cap ∧ cap ≤ maxLen) → (∀ j, j < cnt → ∀ c u, (f j)[c]? = some u → CellAt W' a (j * k + c) u) → K (((hp.set 0 (.seen W')).del n).frz n a)
    | some (.row _ _ cnt cap l) => match closedL l with
      | some vs => ∀ (W' : World) (a : Option Addr), Grow W W' → a.isSome = true → (cnt ≤ cap ∧ cap ≤ maxLen) → (∀ c u, vs[c]? = some u → CellAt W' a c u) → K (((hp.set 0 (.seen W')).del n).frz n a)
      | none => Stuck 680
    | _ => Stuck 681
  | _ => Stuck 682
theorem SH.del_set {n m : Nat} (hnm : m ≠ n) (p : SO E) : ∀ h : SH E, (h.set m p).del n = (h.del n).set m p
  | [] => rfl
  | (i, o) :: h => by
    simp only [SH.set, SH.del]
    by_cases e1 : i = m
    · subst e1
      simp only [if_true, SH.del, if_neg hnm, SH.set]
    · simp only [if_neg e1, SH.del]
      by_cases e2 : i = n
      · simp only [if_pos e2]
      · simp only [if_neg e2, SH.set, if_neg e1]
        rw [SH.del_set hnm p h]
theorem frz1_ok {n : Nat} {hp : SH E} {K : SH E → Prop} (h : frz1 n hp K) {ν : Nat → Nat} {w : World} {R : Assn} (hs : Sat w (hp.den ν * R)) : ∃ hp', K hp' ∧ Sat w (hp'.den ν * R) := by
  unfold frz1 at h
  split at h <;> try exact h.elim
  rename_i W hW
  have H0 : Sat w (seenA W * ((hp.del 0).den ν * R)) := by
    rw [SH.den_get ν hW, Assn.mul_assoc] at hs
    exact hs
  have hn0 : ∀ o, (hp.del 0).get n = some o → (hp.get n = some o ∧ (n : Nat) ≠ 0) ∨ n = 0 := fun o ho => by
    by_cases e : n = 0
    · exact .inr e
    · exact .inl ⟨by rw [← ho]; exact (SH.get_del e).symm, e⟩
  have fin : ∀ (W' : World) (o : SO E), (hp.del 0).get n = some o → Sat w (seenA W' * (((hp.del 0).del n).den ν * R)) → Sat w ((((hp.set 0 (.seen W')).del n).frz n (some ⟨ν n, 0, none⟩)).den ν * R) := fun W' o ho H => by
    rw [SH.frz_den]
    have e1 : ((hp.set 0 (.seen W')).den ν) = seenA W' * (hp.del 0).den ν := SH.den_set ν hW
    by_cases e : n = 0
    · subst e
      have hd : (hp.set 0 (.seen W')).get 0 = some (.seen W') := by
        have : ∀ (l : SH E) o, l.get 0 = some o → (l.set 0 (.seen W')).get 0 = some (.seen W') := by
          intro l
          induction l with
          | nil => intro o h; cases h
          | cons p l ih =>
            obtain ⟨i, q⟩ := p
            intro o h
            simp only [SH.get] at h
            simp only [SH.set]
            split at h
            · rename_i e; simp only [if_pos e, SH.get]
            · rename_i e; simp only [if_neg e, SH.get]; exact ih o h
        exact this hp _ hW
      have hd2 : ∀ (l : SH E), (l.set 0 (.seen W')).del 0 = l.del 0 := by
        intro l
        induction l with
        | nil => rfl
        | cons p l ih =>
          obtain ⟨i, q⟩ := p
          simp only [SH.set, SH.del]
          by_cases e : i = 0
          · simp only [if_pos e, SH.del]
          · simp only [if_neg e, SH.del]; rw [ih]
      rw [hd2, SH.den_get ν ho, Assn.mul_assoc]
      have H2 := hs
      rw [SH.den_get ν hW, SH.den_get ν ho] at H2
      have H3 : Sat w (o.den ν (ν 0) * (((hp.del 0).del 0).den ν * R)) := by
        have := H2.cast (Q := SO.den ν (ν 0) (.seen W : SO E) * (o.den ν (ν 0) * (((hp.del 0).del 0).den ν * R))) (by ac_rfl)
        exact this.right
      exact H3
    · rw [SH.del_set (fun h => e h.symm)]
      have hW' : (hp.del n).get 0 = some (.seen W) := by rw [SH.get_del (fun h => e h.symm)]; exact hW
      rw [SH.den_set ν hW', Assn.mul_assoc]
      have hcomm : ∀ (l : SH E), ((l.del 0).del n) = ((l.del n).del 0) := by
        intro l
        induction l with
        | nil => rfl
        | cons p l ih =>
          obtain ⟨i, q⟩ := p
          simp only [SH.del]
          by_cases e1 : i = 0
          · subst e1
            simp only [if_true, if_neg (show ¬ (0 = n) from fun h => e h.symm), SH.del]
          · by_cases e2 : i = n
            · subst e2
              simp only [if_neg e1, if_true, SH.del]
            · simp only [if_neg e1, if_neg e2, SH.del]
              rw [ih]
      rw [← hcomm]
      exact H
  split at h <;> try exact h.elim
  · rename_i t k cnt cap f ho
    have H1 := H0
    rw [SH.den_get ν ho] at H1
    obtain ⟨W', hg, hc, hb, H2⟩ := head_frz (H1.cast (Q := seenA W * (rowHead (ν n) t 1 cnt cap (intsOf k cnt f) * (((hp.del 0).del n).den ν * R))) (by simp only [SO.den]; ac_rfl))
    exact ⟨_, h W' (some ⟨ν n, 0, none⟩) hg rfl hb (fun j hj => hc j _ (intsOf_get _ _ _ j hj)), fin W' _ ho H2⟩
  · rename_i t k cnt cap f i l ho
    split at h <;> try exact h.elim
    rename_i vs hvs
    have H1 := H0
    rw [SH.den_get ν ho] at H1
    have H1' : Sat w ((SO.arr t k cnt cap f i l : SO E).den ν (ν n) * (seenA W * (((hp.del 0).del n).den ν * R))) := H1.cast (by ac_rfl)
    obtain ⟨hf, H1'⟩ := arr_facts H1'
    obtain ⟨W', hg, hc, hb, H2⟩ := head_frz (H1'.cast (Q := seenA W * (rowHead (ν n) t k cnt cap (valsOf cnt fun j => if j = i then SC.denL ν l else f j) * (((hp.del 0).del n).den ν * R))) (by ac_rfl))
    have hcell : ∀ j, j < cnt → ∀ c u, (if j = i then SC.denL ν l else f j)[c]? = some u → CellAt W' (some ⟨ν n, 0, none⟩) (j * k + c) u := fun j hj c u hu => by
      refine hc _ _ ?_
      have hck : c < k := by
        have := arr_lens (ν := ν) hf j hj
        rcases Nat.lt_or_ge c k with h' | h'
        · exact h'
        · rw [List.getElem?_eq_none (by rw [this]; exact h')] at hu; cases hu
      rw [valsOf_get k cnt _ (arr_lens hf) j c hj hck]
      exact hu
    refine ⟨_, h W' (some ⟨ν n, 0, none⟩) hg rfl hb hf.1 (fun j hj hne c u hu => hcell j hj c u (by rw [if_neg hne]; exact hu)) (fun c u hu => hcell i hf.1 c u (by rw [if_pos rfl, closedL_den hvs]; exact hu)), fin W' _ ho H2⟩
  · rename_i t k cnt cap f ho
    have H1 := H0
    rw [SH.den_get ν ho] at H1
    have H1' : Sat w ((SO.vals t k cnt cap f : SO E).den ν (ν n) * (seenA W * (((hp.del 0).del n).den ν * R))) := H1.cast (by ac_rfl)
    have hvl := vals_len H1'
    simp only [SO.den] at H1'
    rw [Assn.mul_assoc] at H1'
    obtain ⟨_, H1'⟩ := H1'.pure_mul
    obtain ⟨W', hg, hc, hb, H2⟩ := head_frz (H1'.cast (Q := seenA W * (rowHead (ν n) t k cnt cap (valsOf cnt f) * (((hp.del 0).del n).den ν * R))) (by ac_rfl))
    refine ⟨_, h W' (some ⟨ν n, 0, none⟩) hg rfl hb (fun j hj c u hu => ?_), fin W' _ ho H2⟩
    refine hc _ _ ?_
    have hck : c < k := by
      rcases Nat.lt_or_ge c k with h' | h'
      · exact h'
      · rw [List.getElem?_eq_none (by rw [hvl j hj]; exact h')] at hu; cases hu
    rw [valsOf_get k cnt _ hvl j c hj hck]
    exact hu
  · rename_i t k cnt cap l ho
    split at h <;> try exact h.elim
    rename_i vs hvs
    have H1 := H0
    rw [SH.den_get ν ho] at H1
    obtain ⟨W', hg, hc, hb, H2⟩ := head_frz (H1.cast (Q := seenA W * (rowHead (ν n) t k cnt cap (SC.denL ν l) * (((hp.del 0).del n).den ν * R))) (by simp only [SO.den]; ac_rfl))
    refine ⟨_, h W' (some ⟨ν n, 0, none⟩) hg rfl hb (fun c u hu => hc c u (by rw [closedL_den hvs]; exact hu)), fin W' _ ho H2⟩
def frzAll : List Nat → SH E → (SH E → Prop) → Prop
  | [], hp, K => K hp
  | n :: l, hp, K => frz1 n hp fun hp => frzAll l hp K
theorem frzAll_ok : ∀ {l : List Nat} {hp : SH E} {K : SH E → Prop}, frzAll l hp K → ∀ {ν : Nat → Nat} {w : World} {R : Assn}, Sat w (hp.den ν * R) → ∃ hp', K hp' ∧ Sat w (hp'.den ν * R)
  | [], hp, K, h, ν, w, R, hs => ⟨hp, h, hs⟩
  | n :: l, hp, K, h, ν, w, R, hs => by
    obtain ⟨hp1, h1, hs1⟩ := frz1_ok h hs
    exact frzAll_ok h1 hs1
def rowsI : SH E → List Nat
  | [] => []
  | (n, .ints _ _ _ _ _) :: h => n :: rowsI h
  | _ :: h => rowsI h
def rowsV : SH E → List Nat
  | [] => []
  | (n, .vals _ _ _ _ _) :: h => n :: rowsV h
  | (n, .arr _ _ _ _ _ _ _) :: h => n :: rowsV h
  | (n, .row _ _ _ _ _) :: h => n :: rowsV h
  | _ :: h => rowsV h
def belowL (b : Nat) : List Nat → List Nat
  | [] => []
  | n :: l => bif Nat.ble b n then n :: belowL b l else belowL b l
def frzG (b : Nat) : Ghost E where
  run := fun _ m K => frzAll (belowL b (rowsI m.hp) ++ belowL b (rowsV m.hp)) m.hp fun hp => K ⟨hp, m.nx⟩
  ok := fun f m K h ν w R hs => by
    obtain ⟨hp', hk, hs'⟩ := frzAll_ok h hs
    exact ⟨_, ν, hk, Agree.refl _ _, Nat.le_refl _, hs'⟩
end
end Go.Proofs.Ytnkikhhiaecebaa

/- Blocks as the document's arena has them: rows in memory that nobody turns. No program in sight. -/
namespace Go.Proofs.Ytnkikhhiaecebaa
open Go Go.RowKit

structure WordsAt (W : World) (a : Option Addr) (ws : List Nat) : Prop where
  sm : 0 < ws.length → a.isSome = true
  at' : ∀ (j u : Nat), ws[j]? = some u → CellAt W a j (.int .u64 (u : Nat)) ∧ u < 18446744073709551616
structure BlkRow (W : World) (a : Option Addr) (len : Nat) (bs : List (Nat × List Nat)) : Prop where
  num : bs.length = len
  sm : 0 < len → a.isSome = true
  at' : ∀ (i : Nat) (b : Nat × List Nat), bs[i]? = some b → CellAt W a (i * 2) (.int .u64 (b.1 : Nat)) ∧ b.1 < 18446744073709551616 ∧ ∃ wa wc, CellAt W a (i * 2 + 1) (.slice wa b.2.length wc) ∧ WordsAt W wa b.2
theorem WordsAt.grow {W W' : World} {a : Option Addr} {ws : List Nat} (h : WordsAt W a ws) (g : Grow W W') : WordsAt W' a ws := ⟨h.sm, fun j u hj => ⟨(h.at' j u hj).1.grow g, (h.at' j u hj).2⟩⟩
theorem BlkRow.grow {W W' : World} {a : Option Addr} {len : Nat} {bs : List (Nat × List Nat)} (h : BlkRow W a len bs) (g : Grow W W') : BlkRow W' a len bs := ⟨h.num, h.sm, fun i b hi => by
  obtain ⟨h1, h2, wa, wc, h3, h4⟩ := h.at' i b hi
  exact ⟨h1.grow g, h2, wa, wc, h3.grow g, h4.grow g⟩⟩
theorem BlkRow.nil (W : World) (a : Option Addr) : BlkRow W a 0 [] := ⟨rfl, fun h => absurd h (Nat.lt_irrefl 0), fun i b h => by simp at h⟩
theorem WordsAt.nil (W : World) (a : Option Addr) : WordsAt W a [] := ⟨fun h => absurd h (Nat.lt_irrefl 0), fun j u h => by simp at h⟩
def words3 (W : World) (a : Option Addr) (n : Nat) : List Nat := (List.range n).map fun j => (seenInt .u64 W (addOpt a j)).toNat
theorem words3_len (W : World) (a : Option Addr) (n : Nat) : (words3 W a n).length = n := by simp [words3]
theorem words3_at {W : World} {a : Option Addr} {n : Nat} (h0 : 0 < n → a.isSome = true) (h : ∀ j, j < n → Seen .u64 W (addOpt a j)) : WordsAt W a (words3 W a n) := by
  refine ⟨fun hn => h0 (by rw [words3_len] at hn; exact hn), fun j u hj => ?_⟩
  unfold words3 at hj
  rw [List.getElem?_map] at hj
  have hlt : j < n := by
    rcases Nat.lt_or_ge j n with h' | h'
    · exact h'
    · rw [List.getElem?_eq_none (by simpa using h')] at hj; cases hj
  rw [List.getElem?_range hlt] at hj
  simp only [Option.map_some, Option.some.injEq] at hj
  subst hj
  have hb : 0 ≤ seenInt .u64 W (addOpt a j) ∧ seenInt .u64 W (addOpt a j) ≤ 18446744073709551615 := seenInt_bd .u64 W (addOpt a j)
  obtain ⟨x, hx, hc⟩ := h j hlt
  refine ⟨⟨x, hx, ?_⟩, by omega⟩
  rw [hc, Int.toNat_of_nonneg hb.1]
def sum3 (f : Nat → Nat) : Nat → Nat
  | 0 => 0
  | n + 1 => sum3 f n + f n
theorem sum3_mono (f : Nat → Nat) {i j : Nat} (h : i ≤ j) : sum3 f i ≤ sum3 f j := by
  induction j with
  | zero =>
    have : i = 0 := by omega
    rw [this]; exact Nat.le_refl _
  | succ j ih =>
    by_cases e : i = j + 1
    · rw [e]; exact Nat.le_refl _
    · have := ih (by omega)
      simp only [sum3]
      omega
def lens3 (W : World) (a : Option Addr) (j : Nat) : Nat := (seenSli W (addOpt (addOpt a (j * 2)) 1)).2.1
def tot3 : List (Nat × List Nat) → Nat
  | [] => 0
  | b :: l => b.2.length + tot3 l
theorem tot3_app (l k : List (Nat × List Nat)) : tot3 (l ++ k) = tot3 l + tot3 k := by
  induction l with
  | nil => simp [tot3]
  | cons b l ih => simp only [List.cons_append, tot3, ih]; omega
def blk3 (bs : List (Nat × List Nat)) (i : Nat) : Nat × List Nat := bs.getD i (0, [])
theorem blk3_some {bs : List (Nat × List Nat)} {i : Nat} (h : i < bs.length) : bs[i]? = some (blk3 bs i) := by
  unfold blk3
  rw [List.getD_eq_getElem?_getD, List.getElem?_eq_getElem h]
  rfl
section
variable {W : World} {a : Option Addr} {len : Nat} {bs : List (Nat × List Nat)}
theorem BlkRow.kinds (h : BlkRow W a len bs) {i : Nat} (hi : i < len) : SeenL W (addOpt a (i * 2)) 0 [.int .u64, .sli] := by
  obtain ⟨h1, h2, wa, wc, h3, h4⟩ := h.at' i _ (blk3_some (by rw [h.num]; exact hi))
  have e1 := CellAt.int (k := .u64) h1 (Int.natCast_nonneg _) (show ((blk3 bs i).1 : Int) ≤ 18446744073709551615 by omega)
  have e2 := CellAt.sli h3
  refine ⟨?_, ?_, trivial⟩
  · show Seen .u64 W (addOpt (addOpt a (i * 2)) 0)
    rw [addOpt_0]
    exact e1.1
  · show SeenS W (addOpt (addOpt a (i * 2)) (0 + 1))
    rw [addOpt_2]
    exact e2.1
theorem BlkRow.handle (h : BlkRow W a len bs) {i : Nat} (hi : i < len) : seenInt .u64 W (addOpt (addOpt a (i * 2)) 0) = ((blk3 bs i).1 : Nat) := by
  obtain ⟨h1, h2, wa, wc, h3, h4⟩ := h.at' i _ (blk3_some (by rw [h.num]; exact hi))
  rw [addOpt_0]
  exact (CellAt.int (k := .u64) h1 (Int.natCast_nonneg _) (show ((blk3 bs i).1 : Int) ≤ 18446744073709551615 by omega)).2
theorem BlkRow.slice (h : BlkRow W a len bs) {i : Nat} (hi : i < len) : (seenSli W (addOpt (addOpt a (i * 2)) 1)).2.1 = (blk3 bs i).2.length ∧ WordsAt W (seenSli W (addOpt (addOpt a (i * 2)) 1)).1 (blk3 bs i).2 := by
  obtain ⟨h1, h2, wa, wc, h3, h4⟩ := h.at' i _ (blk3_some (by rw [h.num]; exact hi))
  rw [addOpt_2, (CellAt.sli h3).2]
  exact ⟨rfl, h4⟩
theorem BlkRow.small (h : BlkRow W a len bs) {i : Nat} (hi : i < len) : (blk3 bs i).1 < 18446744073709551616 := (h.at' i _ (blk3_some (by rw [h.num]; exact hi))).2.1
theorem tot3_take (h : BlkRow W a len bs) : ∀ {i : Nat}, i ≤ len → sum3 (lens3 W a) i = tot3 (bs.take i)
  | 0, _ => by simp [sum3, tot3]
  | i + 1, hi => by
    simp only [sum3]
    rw [tot3_take h (Nat.le_of_succ_le hi), show lens3 W a i = (blk3 bs i).2.length from (h.slice hi).1, List.take_add_one, blk3_some (by rw [h.num]; exact hi), tot3_app]
    simp [tot3]
theorem BlkRow.tot (h : BlkRow W a len bs) : sum3 (lens3 W a) len = tot3 bs := by
  rw [tot3_take h (Nat.le_refl _), ← h.num, List.take_length]
end
def gapG : List (Nat × List Nat) → Nat → Nat
  | [], k => k
  | b :: l, k => if b.1 % 65536 = k + 1 then gapG l (k + 1) else k
theorem gapG_at : ∀ (bs : List (Nat × List Nat)) (k i : Nat), i ≤ bs.length → (∀ j, j < i → (blk3 bs j).1 % 65536 = k + j + 1) → (i = bs.length ∨ (blk3 bs i).1 % 65536 ≠ k + i + 1) → gapG bs k = k + i
  | [], k, i, hi, _, _ => by simp only [List.length_nil] at hi; have : i = 0 := by omega
                             subst this; rfl
  | b :: l, k, 0, _, _, h => by
    rcases h with h | h
    · simp at h
    · simp only [gapG]
      rw [if_neg (by simpa [blk3] using h)]
      rfl
  | b :: l, k, i + 1, hi, hj, h => by
    have h0 := hj 0 (Nat.succ_pos i)
    simp only [gapG]
    have h1 := gapG_at l (k + 1) i (by simpa using hi) (fun j hlt => by
      have := hj (j + 1) (by omega)
      simp only [blk3, List.getD_cons_succ] at this ⊢
      omega) (by
      rcases h with h | h
      · left; simpa using h
      · right
        simp only [blk3, List.getD_cons_succ] at h ⊢
        omega)
    rw [if_pos (by simpa [blk3] using h0), h1]
    omega
def lay3 (bs : List (Nat × List Nat)) (b : Nat × List Nat) : List (Nat × List Nat) := bs.take (gapG bs 0) ++ b :: bs.drop (gapG bs 0)
theorem lay3_tot (bs : List (Nat × List Nat)) (b : Nat × List Nat) : tot3 (lay3 bs b) = tot3 bs + b.2.length := by
  have := tot3_app (bs.take (gapG bs 0)) (bs.drop (gapG bs 0))
  rw [List.take_append_drop] at this
  unfold lay3
  rw [tot3_app]
  simp only [tot3]
  omega
theorem gapG_le : ∀ (bs : List (Nat × List Nat)) (k : Nat), gapG bs k ≤ k + bs.length
  | [], k => Nat.le_refl _
  | b :: l, k => by
    simp only [gapG, List.length_cons]
    split
    · have := gapG_le l (k + 1); omega
    · omega
theorem lay3_len (bs : List (Nat × List Nat)) (b : Nat × List Nat) : (lay3 bs b).length = bs.length + 1 := by
  have := gapG_le bs 0
  simp only [lay3, List.length_append, List.length_take, List.length_cons, List.length_drop]
  omega
def k3 : List Kd := [.int .u64, .sli]
theorem seenVals3 (W : World) (a : Option Addr) : seenVals W a 0 k3 = [.int .u64 (seenInt .u64 W (addOpt a 0)), .slice (seenSli W (addOpt a 1)).1 (seenSli W (addOpt a 1)).2.1 (seenSli W (addOpt a 1)).2.2] := rfl
theorem BlkRow.copy {W W' : World} {a a' : Option Addr} {len : Nat} {bs : List (Nat × List Nat)} (h : BlkRow W a len bs) (g : Grow W W') {i k : Nat} (hi : i < len)
    (hc : ∀ c u, (seenVals W (addOpt a (i * 2)) 0 k3)[c]? = some u → CellAt W' a' (k * 2 + c) u) :
    CellAt W' a' (k * 2) (.int .u64 ((blk3 bs i).1 : Nat)) ∧ (blk3 bs i).1 < 18446744073709551616 ∧ ∃ wa wc, CellAt W' a' (k * 2 + 1) (.slice wa (blk3 bs i).2.length wc) ∧ WordsAt W' wa (blk3 bs i).2 := by
  have hs := h.slice hi
  rw [seenVals3, h.handle hi, hs.1] at hc
  refine ⟨hc 0 _ rfl, h.small hi, _, _, hc 1 _ rfl, hs.2.grow g⟩
theorem BlkRow.put {W W' : World} {a a' : Option Addr} {len cp i : Nat} {bs : List (Nat × List Nat)} {X : List Value} (h : BlkRow W a len bs) (g : Grow W W') (hi : i ≤ len) (hcp : len ≤ cp) (ha : a'.isSome = true) {hd : Nat} (hd2 : hd < 18446744073709551616) {ws : List Nat} {wa : Option Addr} {wc : Nat} (hw : WordsAt W' wa ws)
    (hold : ∀ j, j < len + 1 → j ≠ i → ∀ c u, (if j < i + 1 then (if j < i then seenVals W (addOpt a (j * 2)) 0 k3 else X) else seenVals W (addOpt (if cp = i then a else addOpt a (i * 2)) ((j - (i + 1)) * 2)) 0 k3)[c]? = some u → CellAt W' a' (j * 2 + c) u)
    (hnew : ∀ c u, ([.int .u64 (hd : Nat), .slice wa ws.length wc] : List Value)[c]? = some u → CellAt W' a' (i * 2 + c) u) :
    BlkRow W' a' (len + 1) (bs.take i ++ (hd, ws) :: bs.drop i) := by
  have hlen := h.num
  have hti : (bs.take i).length = i := by rw [List.length_take]; omega
  refine ⟨by simp only [List.length_append, List.length_cons, List.length_drop, hti]; omega, fun _ => ha, fun j b hj => ?_⟩
  have hjl : j < len + 1 := by
    rcases Nat.lt_or_ge j (len + 1) with h' | h'
    · exact h'
    · rw [List.getElem?_eq_none (by simp only [List.length_append, List.length_cons, List.length_drop, hti]; omega)] at hj; cases hj
  rcases Nat.lt_trichotomy j i with hlt | heq | hgt
  · rw [List.getElem?_append_left (by rw [hti]; exact hlt), List.getElem?_take_of_lt hlt, blk3_some (by omega)] at hj
    cases hj
    have := hold j hjl (by omega)
    rw [if_pos (by omega), if_pos hlt] at this
    exact h.copy g (by omega) this
  · subst heq
    rw [List.getElem?_append_right (by rw [hti]; exact Nat.le_refl _), hti, Nat.sub_self] at hj
    simp only [List.getElem?_cons_zero, Option.some.injEq] at hj
    subst hj
    exact ⟨hnew 0 _ rfl, hd2, wa, wc, hnew 1 _ rfl, hw⟩
  · rw [List.getElem?_append_right (by rw [hti]; omega), hti, show j - i = (j - i - 1) + 1 by omega, List.getElem?_cons_succ, List.getElem?_drop, show i + (j - i - 1) = j - 1 by omega, blk3_some (by omega)] at hj
    cases hj
    have := hold j hjl (by omega)
    rw [if_neg (by omega), if_neg (by omega), addOpt_2, show i * 2 + (j - (i + 1)) * 2 = (j - 1) * 2 by omega] at this
    exact h.copy g (by omega) this
theorem BlkRow.first {W' : World} {a' : Option Addr} (ha : a'.isSome = true) {hd : Nat} (hd2 : hd < 18446744073709551616) {ws : List Nat} {wa : Option Addr} {wc : Nat} (hw : WordsAt W' wa ws)
    (hnew : ∀ c u, ([.int .u64 (hd : Nat), .slice wa ws.length wc] : List Value)[c]? = some u → CellAt W' a' c u) : BlkRow W' a' 1 [(hd, ws)] := by
  refine ⟨rfl, fun _ => ha, fun j b hj => ?_⟩
  cases j with
  | zero =>
    simp only [List.getElem?_cons_zero, Option.some.injEq] at hj
    subst hj
    exact ⟨hnew 0 _ rfl, hd2, wa, wc, hnew 1 _ rfl, hw⟩
  | succ j => simp at hj
end Go.Proofs.Ytnkikhhiaecebaa

/- The cells of the document's arena. No program in sight. -/
namespace Go.Proofs.Ytnkikhhiaecebaa
open Go Go.RowKit

structure D3 where
  cap : Int
  births : Int
  peak : Int
  faults : Int
  x0 : Int
  x1 : Int
  x2 : Int
  x3 : Int
  x4 : Int
  x5 : Int
  x6 : Int
  x7 : Int
  x8 : Int
  t0 : Int
  t1 : Int
  t2 : Int
  t3 : Int
  t4 : Int
  t5 : Int
def d3C (x : D3) (L : SC) : List SC := [.int false .i64 x.cap, .int false .i64 x.births, .int false .i64 x.peak, .int false .i64 x.faults, .int false .u64 x.x0, .int false .u64 x.x1, .int false .u64 x.x2, .int false .u64 x.x3, .int false .u64 x.x4, .int false .u64 x.x5, .int false .u64 x.x6, .int false .u64 x.x7, .int false .u64 x.x8, L, .int false .i64 x.t0, .int false .i64 x.t1, .int false .i64 x.t2, .int false .i64 x.t3, .int false .i64 x.t4, .int false .i64 x.t5]
def intC (k : IntKind) : SC → Option Int
  | .int _ k' n _ => if k' = k then some n else none
  | _ => none
theorem intC_den {k : IntKind} {c : SC} {n : Int} (h : intC k c = some n) : (∀ ν, c.den ν = .int k n) ∧ c.names = [] := by
  cases c <;> simp only [intC] at h <;> try cases h
  split at h
  · rename_i e
    simp only [Option.some.injEq] at h
    subst e h
    exact ⟨fun ν => rfl, rfl⟩
  · cases h
def nxI {α : Type} (k : IntKind) (l : List SC) (K : Int → List SC → Option α) : Option α := match l with
  | c :: l => match intC k c with
    | some n => K n l
    | none => none
  | [] => none
theorem nxI_some {α : Type} {k : IntKind} {l : List SC} {K : Int → List SC → Option α} {r : α} (h : nxI k l K = some r) : ∃ n c l', l = c :: l' ∧ ((∀ ν, c.den ν = .int k n) ∧ c.names = []) ∧ K n l' = some r := by
  cases l with
  | nil => cases h
  | cons c l =>
    simp only [nxI] at h
    cases hc : intC k c with
    | none => rw [hc] at h; cases h
    | some n => rw [hc] at h; exact ⟨n, c, l, rfl, intC_den hc, h⟩
def nxL {α : Type} (l : List SC) (K : SC → List SC → Option α) : Option α := match l with
  | c :: l => K c l
  | [] => none
theorem nxL_some {α : Type} {l : List SC} {K : SC → List SC → Option α} {r : α} (h : nxL l K = some r) : ∃ c l', l = c :: l' ∧ K c l' = some r := by
  cases l with
  | nil => cases h
  | cons c l => exact ⟨c, l, rfl, h⟩
def d3Of (l : List SC) : Option (D3 × SC) :=
  nxI .i64 l fun cap l =>
  nxI .i64 l fun births l =>
  nxI .i64 l fun peak l =>
  nxI .i64 l fun faults l =>
  nxI .u64 l fun x0 l =>
  nxI .u64 l fun x1 l =>
  nxI .u64 l fun x2 l =>
  nxI .u64 l fun x3 l =>
  nxI .u64 l fun x4 l =>
  nxI .u64 l fun x5 l =>
  nxI .u64 l fun x6 l =>
  nxI .u64 l fun x7 l =>
  nxI .u64 l fun x8 l =>
  nxL l fun L l =>
  nxI .i64 l fun t0 l =>
  nxI .i64 l fun t1 l =>
  nxI .i64 l fun t2 l =>
  nxI .i64 l fun t3 l =>
  nxI .i64 l fun t4 l =>
  nxI .i64 l fun t5 l =>
  match l with
  | [] => some (⟨cap, births, peak, faults, x0, x1, x2, x3, x4, x5, x6, x7, x8, t0, t1, t2, t3, t4, t5⟩, L)
  | _ => none
theorem d3Of_sound {l : List SC} {x : D3} {L : SC} (h : d3Of l = some (x, L)) : (∀ ν, SC.denL ν l = SC.denL ν (d3C x L)) ∧ SC.namesL l = L.names := by
  unfold d3Of at h
  obtain ⟨cap, ccap, l, rfl, ⟨dcap, ncap⟩, h⟩ := nxI_some h
  obtain ⟨births, cbirths, l, rfl, ⟨dbirths, nbirths⟩, h⟩ := nxI_some h
  obtain ⟨peak, cpeak, l, rfl, ⟨dpeak, npeak⟩, h⟩ := nxI_some h
  obtain ⟨faults, cfaults, l, rfl, ⟨dfaults, nfaults⟩, h⟩ := nxI_some h
  obtain ⟨x0, cx0, l, rfl, ⟨dx0, nx0⟩, h⟩ := nxI_some h
  obtain ⟨x1, cx1, l, rfl, ⟨dx1, nx1⟩, h⟩ := nxI_some h
  obtain ⟨x2, cx2, l, rfl, ⟨dx2, nx2⟩, h⟩ := nxI_some h
  obtain ⟨x3, cx3, l, rfl, ⟨dx3, nx3⟩, h⟩ := nxI_some h
  obtain ⟨x4, cx4, l, rfl, ⟨dx4, nx4⟩, h⟩ := nxI_some h
  obtain ⟨x5, cx5, l, rfl, ⟨dx5, nx5⟩, h⟩ := nxI_some h
  obtain ⟨x6, cx6, l, rfl, ⟨dx6, nx6⟩, h⟩ := nxI_some h
  obtain ⟨x7, cx7, l, rfl, ⟨dx7, nx7⟩, h⟩ := nxI_some h
  obtain ⟨x8, cx8, l, rfl, ⟨dx8, nx8⟩, h⟩ := nxI_some h
  obtain ⟨cL, l, rfl, h⟩ := nxL_some h
  obtain ⟨t0, ct0, l, rfl, ⟨dt0, nt0⟩, h⟩ := nxI_some h
  obtain ⟨t1, ct1, l, rfl, ⟨dt1, nt1⟩, h⟩ := nxI_some h
  obtain ⟨t2, ct2, l, rfl, ⟨dt2, nt2⟩, h⟩ := nxI_some h
  obtain ⟨t3, ct3, l, rfl, ⟨dt3, nt3⟩, h⟩ := nxI_some h
  obtain ⟨t4, ct4, l, rfl, ⟨dt4, nt4⟩, h⟩ := nxI_some h
  obtain ⟨t5, ct5, l, rfl, ⟨dt5, nt5⟩, h⟩ := nxI_some h
  split at h <;> cases h
  refine ⟨fun ν => ?_, ?_⟩
  · simp only [d3C, SC.denL, SC.den, dcap, dbirths, dpeak, dfaults, dx0, dx1, dx2, dx3, dx4, dx5, dx6, dx7, dx8, dt0, dt1, dt2, dt3, dt4, dt5]
  · simp only [SC.namesL, ncap, nbirths, npeak, nfaults, nx0, nx1, nx2, nx3, nx4, nx5, nx6, nx7, nx8, nt0, nt1, nt2, nt3, nt4, nt5, List.nil_append, List.append_nil]

end Go.Proofs.Ytnkikhhiaecebaa

/- The document's arena: what its functions answer. -/
namespace Go.Proofs.Ytnkikhhiaecebaa
open Go Go.RowKit
set_option maxRecDepth 1000000
set_option maxHeartbeats 0
def XV : EXT where
  X := Empty
  den := fun _ _ x => nomatch x
  names := fun x => nomatch x
  ren := fun _ x => x
  law := fun _ _ _ x => nomatch x
  rlaw := fun _ _ _ x => nomatch x
structure Row3 (W : World) (a : Option Addr) (len : Nat) : Prop where
  sm : 0 < len → a.isSome = true
  at' : ∀ j, j < len → SeenL W (addOpt a (j * 2)) 0 [.int .u64, .sli]
  tot : sum3 (lens3 W a) len ≤ 1000000000000
  few : len ≤ 1000000
theorem BlkRow.row {W : World} {a : Option Addr} {len : Nat} {bs : List (Nat × List Nat)} (h : BlkRow W a len bs) (ht : tot3 bs ≤ 1000000000000) (hf : len ≤ 1000000) : Row3 W a len :=
  ⟨h.sm, fun _ hj => h.kinds hj, by rw [h.tot]; exact ht, hf⟩
def retI3 (W : World) (n : Int) (v : SV) (m : Mem XV) : Prop := match v with
  | .c (.int _ .i64 k _) => k = n ∧ seenOf m.hp = some W
  | _ => Stuck 671
structure UY3 (len : Nat) where
  i : Nat
  hi : i ≤ len
theorem used3_vc (W : World) (x : D3) (a : Option Addr) (len cp : Nat) : (callN Try.prog ([] : List (Smry Try.prog XV)) (fun _ _ => false) 100 20 102 [.agg (d3C x (.sliv a false len cp))] ⟨[(0, .seen W)], 100⟩ (.inv (liveL [2, 3, 5, 7, 8, 9]) ((List.range 1500).map (· + 1)) (UY3 len) (fun n y => ([(3, .c (.int false .i64 ((sum3 (lens3 W a) y.i : Nat) : Int))), (9, .c (.int false .i64 (y.i : Int)))], [])) (fun y => len - y.i) fun _ => .both .nil .nil) (fun v m _ => retI3 W (sum3 (lens3 W a) len : Nat) v m)) = (
 (∃ (y : UY3 len), a = a ∧ len = len ∧ cp = cp ∧ (↑len : Int) = (↑len : Int) ∧ W = W ∧ (↑(sum3 (lens3 W a) y.i) : Int) = (0 : Int) ∧ (↑y.i : Int) = (0 : Int) ∧ True) ∧ ∀ (y : UY3
 len) (ρ : Nat → Value), (decide ((↑y.i : Int) < (↑len : Int)) = true → ((0 : Int) ≤ (↑y.i : Int) ∧ (↑y.i : Int) < (↑len : Int) ∧ a.isSome = true) ∧ ((∃ (x : Addr), addOpt (addOpt a
 ((↑y.i : Int).toNat * 2)) 0 = some x ∧ W.cell? x = some (Value.int .u64 (seenInt .u64 W (addOpt (addOpt a ((↑y.i : Int).toNat * 2)) 0)))) ∧ (∃ (x : Addr), addOpt (addOpt a ((↑y.i :
 Int).toNat * 2)) (0 + 1) = some x ∧ W.cell? x = some (Value.slice (seenSli W (addOpt (addOpt a ((↑y.i : Int).toNat * 2)) (0 + 1))).fst (seenSli W (addOpt (addOpt a ((↑y.i :
 Int).toNat * 2)) 1)).snd.fst (seenSli W (addOpt (addOpt a ((↑y.i : Int).toNat * 2)) 1)).snd.snd)) ∧ True) ∧ ((-9223372036854775808 : Int) ≤ (↑(sum3 (lens3 W a) y.i) : Int) +
 (↑(seenSli W (addOpt (addOpt a ((↑y.i : Int).toNat * 2)) 1)).snd.fst : Int) ∧ (↑(sum3 (lens3 W a) y.i) : Int) + (↑(seenSli W (addOpt (addOpt a ((↑y.i : Int).toNat * 2)) 1)).snd.fst
 : Int) ≤ (9223372036854775807 : Int)) ∧ ((-9223372036854775808 : Int) ≤ (↑y.i : Int) + (1 : Int) ∧ (↑y.i : Int) + (1 : Int) ≤ (9223372036854775807 : Int)) ∧ ∃ (y' : UY3 len), len -
 y'.i < len - y.i ∧ a = a ∧ len = len ∧ cp = cp ∧ (↑len : Int) = (↑len : Int) ∧ W = W ∧ (↑(sum3 (lens3 W a) y'.i) : Int) = (↑(sum3 (lens3 W a) y.i) : Int) + (↑(seenSli W (addOpt
 (addOpt a ((↑y.i : Int).toNat * 2)) 1)).snd.fst : Int) ∧ (↑y'.i : Int) = (↑y.i : Int) + (1 : Int) ∧ True) ∧ (decide ((↑y.i : Int) < (↑len : Int)) = false → (↑(sum3 (lens3 W a) y.i)
 : Int) = (↑(sum3 (lens3 W a) len) : Int) ∧ some W = some W)) := by
  kernel_rfl
theorem used3_run (W : World) (x : D3) (a : Option Addr) (len cp : Nat) (hc : Row3 W a len) : Run (callN Try.prog ([] : List (Smry Try.prog XV)) (fun _ _ => false) 100 20 102 [.agg (d3C x (.sliv a false len cp))] ⟨[(0, .seen W)], 100⟩ (.inv (liveL [2, 3, 5, 7, 8, 9]) ((List.range 1500).map (· + 1)) (UY3 len) (fun n y => ([(3, .c (.int false .i64 ((sum3 (lens3 W a) y.i : Nat) : Int))), (9, .c (.int false .i64 (y.i : Int)))], [])) (fun y => len - y.i) fun _ => .both .nil .nil) (fun v m _ => retI3 W (sum3 (lens3 W a) len : Nat) v m)) := by
  constructor
  rw [used3_vc]
  obtain ⟨h1, h2, h4, h3⟩ := hc
  refine ⟨⟨⟨0, Nat.zero_le _⟩, ?_⟩, fun y ρ => ⟨fun hlt => ?_, fun hge => ?_⟩⟩
  · repeat' first | exact rfl | exact trivial | apply And.intro
  · have hlt' : y.i < len := by have := of_decide_eq_true hlt; omega
    have hk := h2 y.i hlt'
    have e1 : sum3 (lens3 W a) (y.i + 1) = sum3 (lens3 W a) y.i + (seenSli W (addOpt (addOpt a (y.i * 2)) 1)).2.1 := rfl
    have hm := sum3_mono (lens3 W a) (show y.i + 1 ≤ len from hlt')
    simp only [Int.toNat_natCast]
    refine ⟨⟨by omega, by omega, h1 (by omega)⟩, hk, ⟨by omega, by omega⟩, ⟨by omega, by omega⟩, ⟨y.i + 1, hlt'⟩, ?_⟩
    repeat' first | exact rfl | exact trivial | apply And.intro
    all_goals first
      | (show len - (y.i + 1) < len - y.i; omega)
      | (show ((y.i + 1 : Nat) : Int) = _; omega)
  · have hge' : y.i = len := by have := of_decide_eq_false hge; have := y.hi; omega
    rw [hge']
    exact ⟨rfl, rfl⟩
section
variable {E : EXT}
theorem seen_calls {E1 : EXT} {g : FuncId} {args : List SV} {T : List (Smry Try.prog E1)} {wr : FuncId → Nat → Bool} {LF k : Nat} {s : Scr E1} {W : World} {post : SV → Mem E1 → Prop}
    (run : Run (callN Try.prog T wr LF k g args ⟨[(0, .seen W)], 100⟩ s fun v m _ => post v m)) (hv : ∀ v m, post v m → ∃ W', seenOf m.hp = some W' ∧ v.names = []) (ha : ∀ x ∈ args, x.names = [])
    {hp : SH E} (hW : hp.get 0 = some (.seen W)) {ν : Nat → Nat} {w w0 : World} {R : Assn} (H : Sat w (hp.den ν * R)) (HK : Kept w0 w) :
    Calls Try.prog g (args.map (SV.den ν)).toArray w fun e w' => ∃ v m W', post v m ∧ seenOf m.hp = some W' ∧ e = .returned (v.den ν) ∧ Sat w' ((hp.set 0 (.seen W')).den ν * R) ∧ Kept w0 w' := by
  have H1 := H
  rw [SH.den_get ν hW, Assn.mul_assoc] at H1
  have H2 : Sat w ((⟨[(0, .seen W)], 100⟩ : Mem E1).hp.den ν * ((hp.del 0).den ν * R)) := by
    refine H1.cast ?_
    simp only [SH.den, SO.den]
    rw [Assn.mul_comm (seenA W) (1 : Assn), Assn.one_mul]
  refine (callN_ok namesOk mixed T wr LF k g args ⟨[(0, .seen W)], 100⟩ s _ run.out ν w _ w0 H2 HK).mono ?_
  rintro e w' ⟨v, m', s', ξ, hp', _, _, he, hs, hk⟩
  obtain ⟨W', hW', hn⟩ := hv v m' hp'
  obtain ⟨Q, hQ⟩ := seenOf_den (ν := ξ) hW'
  refine ⟨v, m', W', hp', hW', ?_, ?_, hk⟩
  · rw [he]
    congr 1
    exact SV.den_eq v (by rw [hn]; intro n h; cases h)
  · rw [SH.den_set ν hW, Assn.mul_assoc]
    rw [hQ, Assn.mul_assoc] at hs
    exact hs.right
theorem set_same {hp : SH E} {W : World} (ν : Nat → Nat) (h : hp.get 0 = some (.seen W)) : (hp.set 0 (.seen W)).den ν = hp.den ν := by rw [SH.den_set ν h, SH.den_get ν h]
def used3S : Smry Try.prog E where
  g := 102
  run := fun args m K => match args with
    | [.agg l] => match m.hp.get 0, d3Of l with
      | some (.seen W), some (x, L) => match L with
        | .nls => K (.c (.int false .i64 0)) m
        | .sliv a _ len cp => Row3 W a len ∧ K (.c (.int false .i64 (sum3 (lens3 W a) len : Nat))) m
        | _ => Stuck 672
      | _, _ => Stuck 673
    | _ => Stuck 674
  ok := fun args m K hr => by
    split at hr <;> try exact hr.elim
    split at hr <;> try exact hr.elim
    rename_i l _ _ W x L hW hl
    obtain ⟨hd, hn⟩ := d3Of_sound hl
    intro ν w R w0 H HK
    have key : ∀ a len cp, SC.denL ν l = SC.denL ν (d3C x (.sliv a false len cp)) → Row3 W a len → K (.c (.int false .i64 (sum3 (lens3 W a) len : Nat))) m → Calls Try.prog 102 ([SV.agg l].map (SV.den ν)).toArray w fun e w' => ∃ v m' μ, K v m' ∧ Agree m.nx ν μ ∧ m.nx ≤ m'.nx ∧ e = .returned (v.den μ) ∧ Sat w' (m'.hp.den μ * R) ∧ Kept w0 w' := by
      intro a len cp hd hc hr
      have ea : [SV.agg l].map (SV.den ν) = [SV.agg (d3C x (.sliv a false len cp))].map (SV.den ν) := by simp only [List.map_cons, List.map_nil, SV.den, hd]
      rw [ea]
      refine (seen_calls (used3_run W x a len cp hc) (fun v m h => ?_) (fun y hy => by simp only [List.mem_singleton] at hy; subst hy; rfl) hW H HK).mono ?_
      · unfold retI3 at h
        split at h
        · exact ⟨W, h.2, rfl⟩
        · exact h.elim
      · rintro e w' ⟨v, m', W', hv, hW', he, hs, hk⟩
        unfold retI3 at hv
        split at hv
        · obtain ⟨rfl, hv⟩ := hv
          rw [hW'] at hv
          cases hv
          rw [set_same _ hW] at hs
          exact ⟨_, m, ν, hr, Agree.refl _ _, Nat.le_refl _, he, hs, hk⟩
        · exact hv.elim
    split at hr <;> try exact hr.elim
    · exact key none 0 0 ((hd ν).trans (by simp only [d3C, SC.denL, SC.den])) ⟨fun h => absurd h (Nat.lt_irrefl 0), fun j h => absurd h (Nat.not_lt_zero j), Nat.zero_le _, Nat.zero_le _⟩ hr
    · rename_i a ll len cp
      exact key a len cp ((hd ν).trans (by simp only [d3C, SC.denL, SC.den])) hr.1 hr.2
def handle3S : Smry Try.prog E where
  g := 103
  run := fun args m K => match args with
    | [.c (.int _ .u64 a _), .c (.int _ .u64 b _)] => (0 ≤ a ∧ 0 ≤ b) ∧ K (.c (.int false .u64 ((handleF a.toNat b.toNat).1 : Nat))) m
    | _ => Stuck 675
  ok := fun args m K hr => by
    split at hr <;> try exact hr.elim
    rename_i l1 a b1 l2 b b2
    obtain ⟨⟨ha, hb⟩, hr⟩ := hr
    intro ν w R w0 H HK
    have e1 : ((([.c (.int l1 .u64 a b1), .c (.int l2 .u64 b b2)] : List SV).map (SV.den ν)).toArray) = #[.int .u64 (a.toNat : Nat), .int .u64 (b.toNat : Nat)] := by
      rw [Int.toNat_of_nonneg ha, Int.toNat_of_nonneg hb]; rfl
    rw [e1]
    refine (ref_handle_any a.toNat b.toNat w).mono ?_
    rintro e w' ⟨rfl, rfl⟩
    exact ⟨_, m, ν, hr, Agree.refl _ _, Nat.le_refl _, rfl, H, HK⟩
end
end Go.Proofs.Ytnkikhhiaecebaa

/- The document's arena: a block is laid. -/
namespace Go.Proofs.Ytnkikhhiaecebaa
open Go Go.RowKit
set_option maxRecDepth 1000000
set_option maxHeartbeats 0
structure LayOut (W : World) (x : D3) (a : Option Addr) (len cp : Nat) (bs : List (Nat × List Nat)) (ws : List Nat) (W' : World) (y : D3) (a' : Option Addr) (len' cp' : Nat) (h e : Int) : Prop where
  grow : Grow W W'
  out : ((ws.length = 0 ∨ 2048 < ws.length) ∧ e = 2 ∧ h = 0 ∧ y = x ∧ a' = a ∧ len' = len ∧ cp' = cp) ∨
    (¬ (ws.length = 0 ∨ 2048 < ws.length) ∧ x.cap < (tot3 bs + ws.length : Nat) ∧ e = 20 ∧ h = 0 ∧ y = x ∧ a' = a ∧ len' = len ∧ cp' = cp) ∨
    (¬ (ws.length = 0 ∨ 2048 < ws.length) ∧ (tot3 bs + ws.length : Nat) ≤ x.cap ∧ e = 0 ∧ h = ((handleF (x.births.toNat + 1) (gapG bs 0 + 1)).1 : Nat) ∧
      y = { x with births := x.births + 1, t0 := x.t0 + 1, peak := if x.peak < (tot3 bs + ws.length : Nat) then ((tot3 bs + ws.length : Nat) : Int) else x.peak } ∧
      BlkRow W' a' len' (lay3 bs ((handleF (x.births.toNat + 1) (gapG bs 0 + 1)).1, ws)) ∧ len' ≤ cp')
def docP (W : World) (x : D3) (a : Option Addr) (len cp : Nat) (bs : List (Nat × List Nat)) (ws : List Nat) (v : SV) (m : Mem XV) : Prop := match v with
  | .tup [(true, l), (false, [.int _ .u64 h _]), (false, [.int _ .i64 e _])] => match d3Of l, seenOf m.hp with
    | some (y, L), some W' => match L with
      | .sliv a' _ len' cp' => LayOut W x a len cp bs ws W' y a' len' cp' h e
      | .nls => LayOut W x a len cp bs ws W' y none 0 0 h e
      | _ => Stuck 661
    | _, _ => Stuck 660
  | _ => Stuck 662
structure LY3 (bs : List (Nat × List Nat)) (len : Nat) where
  i : Nat
  hi : i ≤ len
  hj : ∀ j, j < i → (blk3 bs j).1 % 65536 = j + 1
structure LZ3 (bs : List (Nat × List Nat)) (len : Nat) where
  i : Nat
  hi : i ≤ len
  hg : gapG bs 0 = i
def l3I {bs : List (Nat × List Nat)} {len : Nat} (n : Nat) (y : LY3 bs len) : List (Nat × SV) × List (Nat × SO XV) := ([(7, .c (.int false .i64 (y.i : Int)))], [])
def l3Z {bs : List (Nat × List Nat)} {len : Nat} (n : Nat) (y : LZ3 bs len) : List (Nat × SV) × List (Nat × SO XV) := ([(7, .c (.int false .i64 (y.i : Int)))], [])
theorem handleF_small (a b : Nat) : (handleF a b).1 < 18446744073709551616 := by
  unfold handleF
  split
  · show a * 65536 + b < _; omega
  · show 0 < _; omega
theorem of_beq {a b : Int} (h : (a == b) = true) : a = b := by simpa using h
def tbl3 : List (Smry Try.prog XV) := [used3S, handle3S]
def lay3Scr (bs : List (Nat × List Nat)) (len : Nat) : Scr XV := .both .nil (.both .nil (.both .nil (.cut 7 (liveL [1, 2, 4, 5, 6, 7, 8, 9, 10]) ((List.range 1500).map (· + 102)) (LZ3 bs len) l3Z (.inv (liveL [1, 2, 4, 5, 6, 7, 8, 9, 10]) ((List.range 1500).map (· + 102)) (LY3 bs len) l3I (fun y => len - y.i) fun _ => .both (.both .nil .nil) .nil) fun _ => .ghost 14 (frzG 102) (.both .nil .nil))))
structure Lay3Ok (W : World) (x : D3) (a : Option Addr) (len cp : Nat) (bs : List (Nat × List Nat)) (wa : Option Addr) (wl : Nat) : Prop where
  row : BlkRow W a len bs
  lc : len ≤ cp
  some : a.isSome = true
  few : len ≤ 65536
  tot : tot3 bs ≤ 1000000000
  ws : ∀ j, j < wl → Seen .u64 W (addOpt wa j)
  wsm : 0 < wl → wa.isSome = true
  wlen : wl ≤ 9223372036854775807
  cap : 0 ≤ x.cap ∧ x.cap ≤ 1000000000
  births : 0 ≤ x.births ∧ x.births ≤ 1000000000
  t0 : -1000000000 ≤ x.t0 ∧ x.t0 ≤ 1000000000
structure Lay3Nil (W : World) (x : D3) (wa : Option Addr) (wl : Nat) : Prop where
  ws : ∀ j, j < wl → Seen .u64 W (addOpt wa j)
  wsm : 0 < wl → wa.isSome = true
  wlen : wl ≤ 9223372036854775807
  cap : 0 ≤ x.cap ∧ x.cap ≤ 1000000000
  births : 0 ≤ x.births ∧ x.births ≤ 1000000000
  t0 : -1000000000 ≤ x.t0 ∧ x.t0 ≤ 1000000000
def lay3_1 {bs : List (Nat × List Nat)} {len : Nat} (y : LY3 bs len) : Prop := (-9223372036854775808 : Int) ≤ (↑y.i : Int) + (1 : Int) ∧ (↑y.i : Int) + (1 : Int) ≤
 (9223372036854775807 : Int)
def lay3_2 {bs : List (Nat × List Nat)} (x : D3) (a : Option Addr) (len cp : Nat) (y_1 : LZ3 bs len) (y : LY3 bs len) : Prop := x.cap = x.cap ∧ x.births = x.births ∧ x.peak = x.peak
 ∧ x.faults = x.faults ∧ x.x0 = x.x0 ∧ x.x1 = x.x1 ∧ x.x2 = x.x2 ∧ x.x3 = x.x3 ∧ x.x4 = x.x4 ∧ x.x5 = x.x5 ∧ x.x6 = x.x6 ∧ x.x7 = x.x7 ∧ x.x8 = x.x8 ∧ a = a ∧ len = len ∧ cp = cp ∧
 x.t0 = x.t0 ∧ x.t1 = x.t1 ∧ x.t2 = x.t2 ∧ x.t3 = x.t3 ∧ x.t4 = x.t4 ∧ x.t5 = x.t5 ∧ (↑y_1.i : Int) = (↑y.i : Int) ∧ True
theorem lay3_vc (W : World) (x : D3) (a : Option Addr) (len cp : Nat) (bs : List (Nat × List Nat)) (wa : Option Addr) (wl wc : Nat) : (callN Try.prog (tbl3 : List (Smry Try.prog XV)) (fun _ _ => false) 100 20 32 [.agg (d3C x (.sliv a false len cp)), .c (.sliv wa false wl wc)] ⟨[(0, .seen W)], 100⟩ (lay3Scr bs len) (fun v m _ => docP W x a len cp bs (words3 W wa wl) v m)) = (
 (((↑wl : Int) == (0 : Int)) = true → LayOut W x a len cp bs (words3 W wa wl) W (D3.mk x.cap x.births x.peak x.faults x.x0 x.x1 x.x2 x.x3 x.x4 x.x5 x.x6 x.x7 x.x8 x.t0 x.t1 x.t2 x.t3
 x.t4 x.t5) a len cp (0 : Int) (2 : Int)) ∧ (((↑wl : Int) == (0 : Int)) = false → (decide ((↑wl : Int) > (2048 : Int)) = true → LayOut W x a len cp bs (words3 W wa wl) W (D3.mk x.cap
 x.births x.peak x.faults x.x0 x.x1 x.x2 x.x3 x.x4 x.x5 x.x6 x.x7 x.x8 x.t0 x.t1 x.t2 x.t3 x.t4 x.t5) a len cp (0 : Int) (2 : Int)) ∧ (decide ((↑wl : Int) > (2048 : Int)) = false →
 (Row3 W a len ∧ x.cap = x.cap ∧ x.births = x.births ∧ x.peak = x.peak ∧ x.faults = x.faults ∧ x.x0 = x.x0 ∧ x.x1 = x.x1 ∧ x.x2 = x.x2 ∧ x.x3 = x.x3 ∧ x.x4 = x.x4 ∧ x.x5 = x.x5 ∧
 x.x6 = x.x6 ∧ x.x7 = x.x7 ∧ x.x8 = x.x8 ∧ a = a ∧ len = len ∧ cp = cp ∧ x.t0 = x.t0 ∧ x.t1 = x.t1 ∧ x.t2 = x.t2 ∧ x.t3 = x.t3 ∧ x.t4 = x.t4 ∧ x.t5 = x.t5 ∧ ((-9223372036854775808 :
 Int) ≤ (↑(sum3 (lens3 W a) len) : Int) + (↑wl : Int) ∧ (↑(sum3 (lens3 W a) len) : Int) + (↑wl : Int) ≤ (9223372036854775807 : Int)) ∧ (decide ((↑(sum3 (lens3 W a) len) : Int) + (↑wl
 : Int) > x.cap) = true → LayOut W x a len cp bs (words3 W wa wl) W (D3.mk x.cap x.births x.peak x.faults x.x0 x.x1 x.x2 x.x3 x.x4 x.x5 x.x6 x.x7 x.x8 x.t0 x.t1 x.t2 x.t3 x.t4 x.t5)
 a len cp (0 : Int) (20 : Int)) ∧ (decide ((↑(sum3 (lens3 W a) len) : Int) + (↑wl : Int) > x.cap) = false → ((∃ (y : LY3 bs len), wa = wa ∧ wl = wl ∧ wc = wc ∧ W = W ∧ x.cap = x.cap
 ∧ x.births = x.births ∧ x.peak = x.peak ∧ x.faults = x.faults ∧ x.x0 = x.x0 ∧ x.x1 = x.x1 ∧ x.x2 = x.x2 ∧ x.x3 = x.x3 ∧ x.x4 = x.x4 ∧ x.x5 = x.x5 ∧ x.x6 = x.x6 ∧ x.x7 = x.x7 ∧ x.x8
 = x.x8 ∧ a = a ∧ len = len ∧ cp = cp ∧ x.t0 = x.t0 ∧ x.t1 = x.t1 ∧ x.t2 = x.t2 ∧ x.t3 = x.t3 ∧ x.t4 = x.t4 ∧ x.t5 = x.t5 ∧ (↑y.i : Int) = (0 : Int) ∧ True) ∧ ∀ (y : LY3 bs len) (ρ :
 Nat → Value), (decide ((↑y.i : Int) < (↑len : Int)) = true → ((0 : Int) ≤ (↑y.i : Int) ∧ (↑y.i : Int) < (↑len : Int) ∧ a.isSome = true) ∧ (addOpt a ((↑y.i : Int).toNat * 2)).isSome
 = true ∧ (∃ (x : Addr), addOpt (addOpt a ((↑y.i : Int).toNat * 2)) #[Field.mk "H" 29 0 false "" "" 0, Field.mk "W" 42 1 false "" "" 8][0].offset = some x ∧ W.cell? x = some
 (Value.int .u64 (seenInt .u64 W (addOpt (addOpt a ((↑y.i : Int).toNat * 2)) 0)))) ∧ (lay3_1 y) ∧ ((0 : Int) ≤ (↑y.i : Int) + (1 : Int) ∧ (↑y.i : Int) + (1 : Int) <
 (18446744073709551616 : Int)) ∧ ((seenInt .u64 W (addOpt (addOpt a ((↑y.i : Int).toNat * 2)) 0) % (65536 : Int) == (↑y.i : Int) + (1 : Int)) = true → (lay3_1 y) ∧ ∃ (y' : LY3 bs
 len), len - y'.i < len - y.i ∧ wa = wa ∧ wl = wl ∧ wc = wc ∧ W = W ∧ x.cap = x.cap ∧ x.births = x.births ∧ x.peak = x.peak ∧ x.faults = x.faults ∧ x.x0 = x.x0 ∧ x.x1 = x.x1 ∧ x.x2 =
 x.x2 ∧ x.x3 = x.x3 ∧ x.x4 = x.x4 ∧ x.x5 = x.x5 ∧ x.x6 = x.x6 ∧ x.x7 = x.x7 ∧ x.x8 = x.x8 ∧ a = a ∧ len = len ∧ cp = cp ∧ x.t0 = x.t0 ∧ x.t1 = x.t1 ∧ x.t2 = x.t2 ∧ x.t3 = x.t3 ∧ x.t4
 = x.t4 ∧ x.t5 = x.t5 ∧ (↑y'.i : Int) = (↑y.i : Int) + (1 : Int) ∧ True) ∧ ((seenInt .u64 W (addOpt (addOpt a ((↑y.i : Int).toNat * 2)) 0) % (65536 : Int) == (↑y.i : Int) + (1 :
 Int)) = false → ∃ (y_1 : LZ3 bs len), wa = wa ∧ wl = wl ∧ wc = wc ∧ W = W ∧ lay3_2 x a len cp y_1 y)) ∧ (decide ((↑y.i : Int) < (↑len : Int)) = false → ∃ (y_1 : LZ3 bs len), wa = wa
 ∧ wl = wl ∧ wc = wc ∧ W = W ∧ lay3_2 x a len cp y_1 y)) ∧ ∀ (y : LZ3 bs len) (ρ : Nat → Value), ((-9223372036854775808 : Int) ≤ x.births + (1 : Int) ∧ x.births + (1 : Int) ≤
 (9223372036854775807 : Int)) ∧ ((0 : Int) ≤ x.births + (1 : Int) ∧ x.births + (1 : Int) < (18446744073709551616 : Int)) ∧ ((-9223372036854775808 : Int) ≤ (↑y.i : Int) + (1 : Int) ∧
 (↑y.i : Int) + (1 : Int) ≤ (9223372036854775807 : Int)) ∧ ((0 : Int) ≤ (↑y.i : Int) + (1 : Int) ∧ (↑y.i : Int) + (1 : Int) < (18446744073709551616 : Int)) ∧ ((0 : Int) ≤ x.births +
 (1 : Int) ∧ (0 : Int) ≤ (↑y.i : Int) + (1 : Int)) ∧ ((0 : Int) ≤ (↑y.i : Int) ∧ (↑y.i : Int) ≤ (↑cp : Int)) ∧ True ∧ (a.isSome = true ∧ ∀ (j : Nat), j < (↑y.i : Int).toNat → (∃ (x :
 Addr), addOpt (addOpt a (j * 2)) 0 = some x ∧ W.cell? x = some (Value.int .u64 (seenInt .u64 W (addOpt (addOpt a (j * 2)) 0)))) ∧ (∃ (x : Addr), addOpt (addOpt a (j * 2)) (0 + 1) =
 some x ∧ W.cell? x = some (Value.slice (seenSli W (addOpt (addOpt a (j * 2)) (0 + 1))).fst (seenSli W (addOpt (addOpt a (j * 2)) 1)).snd.fst (seenSli W (addOpt (addOpt a (j * 2))
 1)).snd.snd)) ∧ True) ∧ 0 + (↑y.i : Int).toNat ≤ 1000000000 ∧ ∀ (cap : Nat), 0 + (↑y.i : Int).toNat ≤ cap → True ∧ (wa.isSome = true ∧ ∀ (j : Nat), j < wl → Seen .u64 W (addOpt wa
 j)) ∧ 0 + wl ≤ 1000000000 ∧ ∀ (cap_1 : Nat), 0 + wl ≤ cap_1 → (cap = cap ∧ 0 + (↑y.i : Int).toNat ≤ 0 + (↑y.i : Int).toNat) ∧ True ∧ 0 + (↑y.i : Int).toNat + 1 ≤ 1000000000 ∧ ∀ (cap
 : Nat), 0 + (↑y.i : Int).toNat + 1 ≤ cap → ((0 : Int) ≤ (↑y.i : Int) ∧ (↑y.i : Int) ≤ (↑len : Int)) ∧ (cap = cap ∧ 0 + (↑y.i : Int).toNat + 1 = 0 + (↑y.i : Int).toNat + 1) ∧ ((if cp
 = (↑y.i : Int).toNat then a else addOpt a ((↑y.i : Int).toNat * 2)).isSome = true ∧ ∀ (j : Nat), j < len - (↑y.i : Int).toNat → (∃ (x : Addr), addOpt (addOpt (if cp = (↑y.i :
 Int).toNat then a else addOpt a ((↑y.i : Int).toNat * 2)) (j * 2)) 0 = some x ∧ W.cell? x = some (Value.int .u64 (seenInt .u64 W (addOpt (addOpt (if cp = (↑y.i : Int).toNat then a
 else addOpt a ((↑y.i : Int).toNat * 2)) (j * 2)) 0)))) ∧ (∃ (x : Addr), addOpt (addOpt (if cp = (↑y.i : Int).toNat then a else addOpt a ((↑y.i : Int).toNat * 2)) (j * 2)) (0 + 1) =
 some x ∧ W.cell? x = some (Value.slice (seenSli W (addOpt (addOpt (if cp = (↑y.i : Int).toNat then a else addOpt a ((↑y.i : Int).toNat * 2)) (j * 2)) (0 + 1))).fst (seenSli W
 (addOpt (addOpt (if cp = (↑y.i : Int).toNat then a else addOpt a ((↑y.i : Int).toNat * 2)) (j * 2)) 1)).snd.fst (seenSli W (addOpt (addOpt (if cp = (↑y.i : Int).toNat then a else
 addOpt a ((↑y.i : Int).toNat * 2)) (j * 2)) 1)).snd.snd)) ∧ True) ∧ 0 + (↑y.i : Int).toNat + 1 + (len - (↑y.i : Int).toNat) ≤ 1000000000 ∧ ∀ (cap : Nat), 0 + (↑y.i : Int).toNat + 1
 + (len - (↑y.i : Int).toNat) ≤ cap → ((-9223372036854775808 : Int) ≤ x.t0 + (1 : Int) ∧ x.t0 + (1 : Int) ≤ (9223372036854775807 : Int)) ∧ ∀ (W' : World) (a_8 : Option Addr), Grow W
 W' → a_8.isSome = true → 0 + wl ≤ cap_1 ∧ cap_1 ≤ 9223372036854775807 → (∀ (j : Nat), j < 0 + wl → CellAt W' a_8 j (Value.int .u64 (seenInt .u64 W (addOpt wa j)))) → ∀ (W'_1 :
 World) (a_13 : Option Addr), Grow W' W'_1 → a_13.isSome = true → 0 + (↑y.i : Int).toNat + 1 + (len - (↑y.i : Int).toNat) ≤ cap ∧ cap ≤ 9223372036854775807 → 0 + (↑y.i : Int).toNat <
 0 + (↑y.i : Int).toNat + 1 + (len - (↑y.i : Int).toNat) → (∀ (j : Nat), j < 0 + (↑y.i : Int).toNat + 1 + (len - (↑y.i : Int).toNat) → j ≠ 0 + (↑y.i : Int).toNat → ∀ (c : Nat) (u :
 Value), (if j < 0 + (↑y.i : Int).toNat + 1 then if j < 0 + (↑y.i : Int).toNat then seenVals W (addOpt a (j * 2)) 0 [Kd.int IntKind.u64, Kd.sli] else List.replicate (1 + 1) undef
 else seenVals W (addOpt (if cp = (↑y.i : Int).toNat then a else addOpt a ((↑y.i : Int).toNat * 2)) ((j - (0 + (↑y.i : Int).toNat + 1)) * 2)) 0 [Kd.int IntKind.u64, Kd.sli])[c]? =
 some u → CellAt W'_1 a_13 (j * 2 + c) u) → (∀ (c : Nat) (u : Value), [Value.int .u64 (↑(handleF (x.births + (1 : Int)).toNat ((↑y.i : Int) + (1 : Int)).toNat).fst : Int),
 Value.slice a_8 (0 + wl) cap_1][c]? = some u → CellAt W'_1 a_13 ((0 + (↑y.i : Int).toNat) * 2 + c) u) → Row3 W'_1 a_13 (0 + (↑y.i : Int).toNat + 1 + (len - (↑y.i : Int).toNat)) ∧
 (decide ((↑(sum3 (lens3 W'_1 a_13) (0 + (↑y.i : Int).toNat + 1 + (len - (↑y.i : Int).toNat))) : Int) > x.peak) = true → LayOut W x a len cp bs (words3 W wa wl) W'_1 (D3.mk x.cap
 (x.births + (1 : Int)) (↑(sum3 (lens3 W'_1 a_13) (0 + (↑y.i : Int).toNat + 1 + (len - (↑y.i : Int).toNat))) : Int) x.faults x.x0 x.x1 x.x2 x.x3 x.x4 x.x5 x.x6 x.x7 x.x8 (x.t0 + (1 :
 Int)) x.t1 x.t2 x.t3 x.t4 x.t5) a_13 (0 + (↑y.i : Int).toNat + 1 + (len - (↑y.i : Int).toNat)) cap (↑(handleF (x.births + (1 : Int)).toNat ((↑y.i : Int) + (1 : Int)).toNat).fst :
 Int) (0 : Int)) ∧ (decide ((↑(sum3 (lens3 W'_1 a_13) (0 + (↑y.i : Int).toNat + 1 + (len - (↑y.i : Int).toNat))) : Int) > x.peak) = false → LayOut W x a len cp bs (words3 W wa wl)
 W'_1 (D3.mk x.cap (x.births + (1 : Int)) x.peak x.faults x.x0 x.x1 x.x2 x.x3 x.x4 x.x5 x.x6 x.x7 x.x8 (x.t0 + (1 : Int)) x.t1 x.t2 x.t3 x.t4 x.t5) a_13 (0 + (↑y.i : Int).toNat + 1 +
 (len - (↑y.i : Int).toNat)) cap (↑(handleF (x.births + (1 : Int)).toNat ((↑y.i : Int) + (1 : Int)).toNat).fst : Int) (0 : Int)))) ∧ True))) := by
  kernel_rfl
theorem lay3_run (W : World) (x : D3) (a : Option Addr) (len cp : Nat) (bs : List (Nat × List Nat)) (wa : Option Addr) (wl wc : Nat) (hc : Lay3Ok W x a len cp bs wa wl) : Run (callN Try.prog (tbl3 : List (Smry Try.prog XV)) (fun _ _ => false) 100 20 32 [.agg (d3C x (.sliv a false len cp)), .c (.sliv wa false wl wc)] ⟨[(0, .seen W)], 100⟩ (lay3Scr bs len) (fun v m _ => docP W x a len cp bs (words3 W wa wl) v m)) := by
  constructor
  rw [lay3_vc]
  delta lay3_1 lay3_2
  obtain ⟨row, lc, hsm, hfew, htot, hws, hwsm, hwl, ⟨hc0, hc1⟩, ⟨hb0, hb1⟩, ht0, ht1⟩ := hc
  have R3 := row.row (Nat.le_trans htot (by omega)) (Nat.le_trans hfew (by omega))
  have et := row.tot
  have el := words3_len W wa wl
  have hW := words3_at hwsm hws
  refine ⟨fun h0 => ?_, fun h0 => ⟨fun h1 => ?_, fun h1 => ⟨⟨R3, ?_⟩, trivial⟩⟩⟩
  · have h0 : (wl : Int) = 0 := by simpa using h0
    exact ⟨Grow.refl W, .inl ⟨.inl (by omega), rfl, rfl, rfl, rfl, rfl, rfl⟩⟩
  · have h1 := of_decide_eq_true h1
    exact ⟨Grow.refl W, .inl ⟨.inr (by omega), rfl, rfl, rfl, rfl, rfl, rfl⟩⟩
  have h0 : ¬ (wl : Int) = 0 := by simpa using h0
  have h1 := of_decide_eq_false h1
  have hn : ¬ ((words3 W wa wl).length = 0 ∨ 2048 < (words3 W wa wl).length) := by omega
  repeat (refine ⟨rfl, ?_⟩)
  refine ⟨⟨by omega, by omega⟩, fun h2 => ?_, fun h2 => ⟨⟨⟨⟨0, Nat.zero_le _, fun j h => absurd h (Nat.not_lt_zero j)⟩, ?_⟩, fun y ρ => ⟨fun hlt => ?_, fun hge => ?_⟩⟩, fun y ρ => ?_⟩⟩
  · have h2 := of_decide_eq_true h2
    exact ⟨Grow.refl W, .inr (.inl ⟨hn, by omega, rfl, rfl, rfl, rfl, rfl, rfl⟩)⟩
  · repeat' first | exact rfl | exact trivial | apply And.intro
  · have hlt' : y.i < len := by have := of_decide_eq_true hlt; omega
    have hk := row.kinds hlt'
    have hh := row.handle hlt'
    have hs := row.small hlt'
    simp only [Int.toNat_natCast]
    refine ⟨⟨by omega, by omega, hsm⟩, by rw [addOpt, Option.isSome_map]; exact hsm, hk.1, ⟨by omega, by omega⟩, ⟨by omega, by omega⟩, fun heq => ⟨⟨by omega, by omega⟩, ⟨y.i + 1, hlt', fun j hj => ?_⟩, ?_⟩, fun hne => ⟨⟨y.i, y.hi, ?_⟩, ?_⟩⟩
    · by_cases e : j = y.i
      · subst e
        have heq := of_beq heq
        rw [hh] at heq
        omega
      · exact y.hj j (by omega)
    · repeat' first | exact rfl | exact trivial | apply And.intro
      all_goals first
        | (show len - (y.i + 1) < len - y.i; omega)
        | (show ((y.i + 1 : Nat) : Int) = _; omega)
    · have hne : ¬ seenInt .u64 W (addOpt (addOpt a (y.i * 2)) 0) % 65536 = (y.i : Int) + 1 := by simpa using hne
      rw [hh] at hne
      have := gapG_at bs 0 y.i (by rw [row.num]; exact y.hi) (fun j hj => by have := y.hj j hj; omega) (.inr (by omega))
      omega
    · repeat' first | exact rfl | exact trivial | apply And.intro
  · have hge' : y.i = len := by have := of_decide_eq_false hge; have := y.hi; omega
    refine ⟨⟨y.i, y.hi, ?_⟩, ?_⟩
    · have := gapG_at bs 0 y.i (by rw [row.num]; exact y.hi) (fun j hj => by have := y.hj j hj; omega) (.inl (by rw [row.num]; exact hge'))
      omega
    · repeat' first | exact rfl | exact trivial | apply And.intro
  have h2 := of_decide_eq_false h2
  have hyi := y.hi
  have hyg := y.hg
  have hsm2 : (if cp = y.i then a else addOpt a (y.i * 2)).isSome = true := by
    split
    · exact hsm
    · rw [addOpt, Option.isSome_map]; exact hsm
  simp only [Int.toNat_natCast, Nat.zero_add]
  refine ⟨⟨by omega, by omega⟩, ⟨by omega, by omega⟩, ⟨by omega, by omega⟩, ⟨by omega, by omega⟩, ⟨by omega, by omega⟩, ⟨by omega, by omega⟩, trivial, ⟨hsm, fun j hj => row.kinds (by omega)⟩, by omega, fun cap hcap => ⟨trivial, ⟨hwsm (by omega), hws⟩, by omega, fun cap1 hcap1 => ⟨⟨(by first | exact trivial | exact rfl), Nat.le_refl _⟩, trivial, by omega, fun cap2 hcap2 => ⟨⟨by omega, by omega⟩, ⟨(by first | exact trivial | exact rfl), (by first | exact trivial | exact rfl)⟩, ⟨hsm2, fun j hj => ?_⟩, by omega, fun cap3 hcap3 => ⟨⟨by omega, by omega⟩, fun W1 a1 g1 s1 c1 f1 W2 a2 g2 s2 c2 i2 f2 f3 => ?_⟩⟩⟩⟩⟩
  · have hne : ¬ cp = y.i := by omega
    show SeenL W (addOpt (if cp = y.i then a else addOpt a (y.i * 2)) (j * 2)) 0 [.int .u64, .sli]
    rw [if_neg hne, addOpt_2, show y.i * 2 + j * 2 = (y.i + j) * 2 by omega]
    exact row.kinds (by omega)
  have hw1 : WordsAt W1 a1 (words3 W wa wl) := ⟨fun _ => s1, fun j u hj => by
    have hjl : j < wl := by
      rcases Nat.lt_or_ge j wl with h' | h'
      · exact h'
      · rw [List.getElem?_eq_none (by omega)] at hj; cases hj
    have hu := (hW.at' j u hj)
    obtain ⟨x1, hx1, hcx⟩ := hu.1
    have hi := (CellAt.int (k := .u64) hu.1 (Int.natCast_nonneg _) (show (u : Int) ≤ 18446744073709551615 by omega)).2
    have := f1 j hjl
    rw [hi] at this
    exact ⟨this, hu.2⟩⟩
  have eb : (x.births + 1).toNat = x.births.toNat + 1 := by omega
  have ei : ((y.i : Int) + 1).toNat = y.i + 1 := by omega
  rw [eb, ei] at f3
  have f3' : ∀ c u, ([.int .u64 ((handleF (x.births.toNat + 1) (y.i + 1)).1 : Nat), .slice a1 (words3 W wa wl).length cap1] : List Value)[c]? = some u → CellAt W2 a2 (y.i * 2 + c) u := by rw [el]; exact f3
  have elen : y.i + 1 + (len - y.i) = len + 1 := by omega
  rw [elen] at f2 c2 ⊢
  have hput := row.put (g1.trans g2) hyi lc s2 (handleF_small (x.births.toNat + 1) (y.i + 1)) (hw1.grow g2) f2 f3'
  have hlay : BlkRow W2 a2 (len + 1) (lay3 bs ((handleF (x.births.toNat + 1) (gapG bs 0 + 1)).1, words3 W wa wl)) := by
    unfold lay3
    rw [hyg]
    exact hput
  have ht2 := lay3_tot bs ((handleF (x.births.toNat + 1) (gapG bs 0 + 1)).1, words3 W wa wl)
  simp only [el] at ht2
  rw [hlay.tot, ht2, eb, ei]
  refine ⟨hlay.row (by omega) (by omega), fun hp => ⟨g1.trans g2, .inr (.inr ⟨hn, by omega, rfl, by rw [hyg], ?_, hlay, c2.1⟩)⟩, fun hp => ⟨g1.trans g2, .inr (.inr ⟨hn, by omega, rfl, by rw [hyg], ?_, hlay, c2.1⟩)⟩⟩
  · have hp := of_decide_eq_true hp
    rw [el, if_pos (by omega)]
  · have hp := of_decide_eq_false hp
    rw [el, if_neg (by omega)]
def lay3nScr : Scr XV := .both .nil (.both .nil (.both .nil (.ghost 14 (frzG 102) (.both .nil .nil))))
theorem lay3n_vc (W : World) (x : D3) (wa : Option Addr) (wl wc : Nat) : (callN Try.prog (tbl3 : List (Smry Try.prog XV)) (fun _ _ => false) 100 20 32 [.agg (d3C x .nls), .c (.sliv wa false wl wc)] ⟨[(0, .seen W)], 100⟩ (lay3nScr) (fun v m _ => docP W x none 0 0 [] (words3 W wa wl) v m)) = (
 (((↑wl : Int) == (0 : Int)) = true → LayOut W x none 0 0 [] (words3 W wa wl) W (D3.mk x.cap x.births x.peak x.faults x.x0 x.x1 x.x2 x.x3 x.x4 x.x5 x.x6 x.x7 x.x8 x.t0 x.t1 x.t2 x.t3
 x.t4 x.t5) none 0 0 (0 : Int) (2 : Int)) ∧ (((↑wl : Int) == (0 : Int)) = false → (decide ((↑wl : Int) > (2048 : Int)) = true → LayOut W x none 0 0 [] (words3 W wa wl) W (D3.mk x.cap
 x.births x.peak x.faults x.x0 x.x1 x.x2 x.x3 x.x4 x.x5 x.x6 x.x7 x.x8 x.t0 x.t1 x.t2 x.t3 x.t4 x.t5) none 0 0 (0 : Int) (2 : Int)) ∧ (decide ((↑wl : Int) > (2048 : Int)) = false →
 (x.cap = x.cap ∧ x.births = x.births ∧ x.peak = x.peak ∧ x.faults = x.faults ∧ x.x0 = x.x0 ∧ x.x1 = x.x1 ∧ x.x2 = x.x2 ∧ x.x3 = x.x3 ∧ x.x4 = x.x4 ∧ x.x5 = x.x5 ∧ x.x6 = x.x6 ∧ x.x7
 = x.x7 ∧ x.x8 = x.x8 ∧ x.t0 = x.t0 ∧ x.t1 = x.t1 ∧ x.t2 = x.t2 ∧ x.t3 = x.t3 ∧ x.t4 = x.t4 ∧ x.t5 = x.t5 ∧ ((-9223372036854775808 : Int) ≤ (0 : Int) + (↑wl : Int) ∧ (0 : Int) + (↑wl
 : Int) ≤ (9223372036854775807 : Int)) ∧ (decide ((0 : Int) + (↑wl : Int) > x.cap) = true → LayOut W x none 0 0 [] (words3 W wa wl) W (D3.mk x.cap x.births x.peak x.faults x.x0 x.x1
 x.x2 x.x3 x.x4 x.x5 x.x6 x.x7 x.x8 x.t0 x.t1 x.t2 x.t3 x.t4 x.t5) none 0 0 (0 : Int) (20 : Int)) ∧ (decide ((0 : Int) + (↑wl : Int) > x.cap) = false → ((-9223372036854775808 : Int)
 ≤ x.births + (1 : Int) ∧ x.births + (1 : Int) ≤ (9223372036854775807 : Int)) ∧ ((0 : Int) ≤ x.births + (1 : Int) ∧ x.births + (1 : Int) < (18446744073709551616 : Int)) ∧ ((0 : Int)
 ≤ x.births + (1 : Int) ∧ (0 : Int) ≤ (1 : Int)) ∧ True ∧ True ∧ (wa.isSome = true ∧ ∀ (j : Nat), j < wl → Seen .u64 W (addOpt wa j)) ∧ 0 + wl ≤ 1000000000 ∧ ∀ (cap : Nat), 0 + wl ≤
 cap → True ∧ True ∧ 1 ≤ 1000000000 ∧ ∀ (cap_1 : Nat), 1 ≤ cap_1 → cap_1 = cap_1 ∧ ((-9223372036854775808 : Int) ≤ x.t0 + (1 : Int) ∧ x.t0 + (1 : Int) ≤ (9223372036854775807 : Int))
 ∧ ∀ (W' : World) (a : Option Addr), Grow W W' → a.isSome = true → 0 + wl ≤ cap ∧ cap ≤ 9223372036854775807 → (∀ (j : Nat), j < 0 + wl → CellAt W' a j (Value.int .u64 (seenInt .u64 W
 (addOpt wa j)))) → ∀ (W'_1 : World) (a_5 : Option Addr), Grow W' W'_1 → a_5.isSome = true → 1 ≤ cap_1 ∧ cap_1 ≤ 9223372036854775807 → (∀ (c : Nat) (u : Value), [Value.int .u64
 (↑(handleF (x.births + (1 : Int)).toNat (Int.ofNat (0 + 1)).toNat).fst : Int), Value.slice a (0 + wl) cap][c]? = some u → CellAt W'_1 a_5 c u) → Row3 W'_1 a_5 1 ∧ (decide ((↑(sum3
 (lens3 W'_1 a_5) 1) : Int) > x.peak) = true → LayOut W x none 0 0 [] (words3 W wa wl) W'_1 (D3.mk x.cap (x.births + (1 : Int)) (↑(sum3 (lens3 W'_1 a_5) 1) : Int) x.faults x.x0 x.x1
 x.x2 x.x3 x.x4 x.x5 x.x6 x.x7 x.x8 (x.t0 + (1 : Int)) x.t1 x.t2 x.t3 x.t4 x.t5) a_5 1 cap_1 (↑(handleF (x.births + (1 : Int)).toNat 1).fst : Int) (0 : Int)) ∧ (decide ((↑(sum3
 (lens3 W'_1 a_5) 1) : Int) > x.peak) = false → LayOut W x none 0 0 [] (words3 W wa wl) W'_1 (D3.mk x.cap (x.births + (1 : Int)) x.peak x.faults x.x0 x.x1 x.x2 x.x3 x.x4 x.x5 x.x6
 x.x7 x.x8 (x.t0 + (1 : Int)) x.t1 x.t2 x.t3 x.t4 x.t5) a_5 1 cap_1 (↑(handleF (x.births + (1 : Int)).toNat 1).fst : Int) (0 : Int)))) ∧ True))) := by
  kernel_rfl
theorem lay3n_run (W : World) (x : D3) (wa : Option Addr) (wl wc : Nat) (hc : Lay3Nil W x wa wl) : Run (callN Try.prog (tbl3 : List (Smry Try.prog XV)) (fun _ _ => false) 100 20 32 [.agg (d3C x .nls), .c (.sliv wa false wl wc)] ⟨[(0, .seen W)], 100⟩ (lay3nScr) (fun v m _ => docP W x none 0 0 [] (words3 W wa wl) v m)) := by
  constructor
  rw [lay3n_vc]
  obtain ⟨hws, hwsm, hwl, ⟨hc0, hc1⟩, ⟨hb0, hb1⟩, ht0, ht1⟩ := hc
  have el := words3_len W wa wl
  have hW := words3_at hwsm hws
  have et : tot3 [] = 0 := rfl
  refine ⟨fun h0 => ?_, fun h0 => ⟨fun h1 => ?_, fun h1 => ⟨⟨rfl, ?_⟩, trivial⟩⟩⟩
  · have h0 : (wl : Int) = 0 := by simpa using h0
    exact ⟨Grow.refl W, .inl ⟨.inl (by omega), rfl, rfl, rfl, rfl, rfl, rfl⟩⟩
  · have h1 := of_decide_eq_true h1
    exact ⟨Grow.refl W, .inl ⟨.inr (by omega), rfl, rfl, rfl, rfl, rfl, rfl⟩⟩
  have h0 : ¬ (wl : Int) = 0 := by simpa using h0
  have h1 := of_decide_eq_false h1
  have hn : ¬ ((words3 W wa wl).length = 0 ∨ 2048 < (words3 W wa wl).length) := by omega
  repeat (refine ⟨rfl, ?_⟩)
  refine ⟨⟨by omega, by omega⟩, fun h2 => ?_, fun h2 => ?_⟩
  · have h2 := of_decide_eq_true h2
    exact ⟨Grow.refl W, .inr (.inl ⟨hn, by omega, rfl, rfl, rfl, rfl, rfl, rfl⟩)⟩
  have h2 := of_decide_eq_false h2
  simp only [Int.toNat_natCast, Nat.zero_add]
  refine ⟨⟨by omega, by omega⟩, ⟨by omega, by omega⟩, ⟨by omega, by omega⟩, trivial, trivial, ⟨hwsm (by omega), hws⟩, by omega, fun cap1 hcap1 => ⟨trivial, trivial, by omega, fun cap3 hcap3 => ⟨(by first | exact trivial | exact rfl), ⟨by omega, by omega⟩, fun W1 a1 g1 s1 c1 f1 W2 a2 g2 s2 c2 f3 => ?_⟩⟩⟩
  have hw1 : WordsAt W1 a1 (words3 W wa wl) := ⟨fun _ => s1, fun j u hj => by
    have hjl : j < wl := by
      rcases Nat.lt_or_ge j wl with h' | h'
      · exact h'
      · rw [List.getElem?_eq_none (by omega)] at hj; cases hj
    have hu := (hW.at' j u hj)
    have hi := (CellAt.int (k := .u64) hu.1 (Int.natCast_nonneg _) (show (u : Int) ≤ 18446744073709551615 by omega)).2
    have := f1 j hjl
    rw [hi] at this
    exact ⟨this, hu.2⟩⟩
  have eb : (x.births + 1).toNat = x.births.toNat + 1 := by omega
  have ei : (Int.ofNat 1).toNat = 1 := rfl
  have ei2 : (1 : Int).toNat = 1 := rfl
  rw [eb] at f3
  have f3' : ∀ c u, ([.int .u64 ((handleF (x.births.toNat + 1) 1).1 : Nat), .slice a1 (words3 W wa wl).length cap1] : List Value)[c]? = some u → CellAt W2 a2 c u := by rw [el]; exact f3
  have hlay : BlkRow W2 a2 1 (lay3 [] ((handleF (x.births.toNat + 1) (gapG [] 0 + 1)).1, words3 W wa wl)) := BlkRow.first s2 (handleF_small (x.births.toNat + 1) 1) (hw1.grow g2) f3'
  have ht2 := lay3_tot [] ((handleF (x.births.toNat + 1) (gapG [] 0 + 1)).1, words3 W wa wl)
  simp only [el, et, Nat.zero_add] at ht2
  rw [hlay.tot, ht2, eb]
  refine ⟨hlay.row (by omega) (by omega), fun hp => ⟨g1.trans g2, .inr (.inr ⟨hn, by omega, rfl, rfl, ?_, hlay, c2.1⟩)⟩, fun hp => ⟨g1.trans g2, .inr (.inr ⟨hn, by omega, rfl, rfl, ?_, hlay, c2.1⟩)⟩⟩
  · have hp := of_decide_eq_true hp
    rw [el, et, Nat.zero_add, if_pos (by omega)]
  · have hp := of_decide_eq_false hp
    rw [el, et, Nat.zero_add, if_neg (by omega)]
structure Lay3Any (W : World) (x : D3) (a : Option Addr) (len cp : Nat) (bs : List (Nat × List Nat)) (wa : Option Addr) (wl : Nat) : Prop where
  row : BlkRow W a len bs
  lc : len ≤ cp
  non : a = none → cp = 0
  few : len ≤ 65536
  tot : tot3 bs ≤ 1000000000
  nil : Lay3Nil W x wa wl
section
variable {E : EXT}
def lay3Res (y : D3) (a : Option Addr) (len cp : Nat) (h e : Int) : SV := .tup [(true, d3C y (.sliv a false len cp)), (false, [.int false .u64 h]), (false, [.int false .i64 e])]
theorem docP_den {W : World} {x : D3} {a : Option Addr} {len cp : Nat} {bs : List (Nat × List Nat)} {ws : List Nat} {v : SV} {m : Mem XV} (h : docP W x a len cp bs ws v m) :
    ∃ W' y a' len' cp' h e, seenOf m.hp = some W' ∧ v.names = [] ∧ LayOut W x a len cp bs ws W' y a' len' cp' h e ∧ ∀ ν, v.den ν = (lay3Res y a' len' cp' h e).den ν := by
  unfold docP at h
  split at h <;> try exact h.elim
  rename_i l l1 hh b1 l2 ee b2
  split at h <;> try exact h.elim
  rename_i y L W' hl hs
  obtain ⟨hd, hn⟩ := d3Of_sound hl
  split at h <;> try exact h.elim
  · rename_i a' ll len' cp'
    refine ⟨W', y, a', len', cp', hh, ee, hs, ?_, h, fun ν => ?_⟩
    · simp only [SV.names, List.flatMap_cons, List.flatMap_nil, hn]; rfl
    · have e1 : SC.denL ν l = SC.denL ν (d3C y (.sliv a' false len' cp')) := (hd ν).trans (by simp only [d3C, SC.denL, SC.den])
      simp only [lay3Res, SV.den, List.map_cons, List.map_nil, partDen, e1, SC.den]
  · refine ⟨W', y, none, 0, 0, hh, ee, hs, ?_, h, fun ν => ?_⟩
    · simp only [SV.names, List.flatMap_cons, List.flatMap_nil, hn]; rfl
    · have e1 : SC.denL ν l = SC.denL ν (d3C y (.sliv none false 0 0)) := (hd ν).trans (by simp only [d3C, SC.denL, SC.den])
      simp only [lay3Res, SV.den, List.map_cons, List.map_nil, partDen, e1, SC.den]
theorem lay3_calls {W : World} {x : D3} {a : Option Addr} {len cp : Nat} {bs : List (Nat × List Nat)} {wa : Option Addr} {wl wc : Nat} (hc : Lay3Any W x a len cp bs wa wl) {hp : SH E} (hW : hp.get 0 = some (.seen W)) {ν : Nat → Nat} {w w0 : World} {R : Assn} (H : Sat w (hp.den ν * R)) (HK : Kept w0 w) :
    Calls Try.prog 32 ([SV.agg (d3C x (.sliv a false len cp)), .c (.sliv wa false wl wc)].map (SV.den ν)).toArray w fun e w' => ∃ W' y a' len' cp' h e', LayOut W x a len cp bs (words3 W wa wl) W' y a' len' cp' h e' ∧ e = .returned ((lay3Res y a' len' cp' h e').den ν) ∧ Sat w' ((hp.set 0 (.seen W')).den ν * R) ∧ Kept w0 w' := by
  obtain ⟨row, lc, non, few, tot, nil⟩ := hc
  have fin : ∀ (e : Ending) (w' : World), (∃ v m W', docP W x a len cp bs (words3 W wa wl) v m ∧ seenOf m.hp = some W' ∧ e = .returned (v.den ν) ∧ Sat w' ((hp.set 0 (.seen W')).den ν * R) ∧ Kept w0 w') → ∃ W' y a' len' cp' h e', LayOut W x a len cp bs (words3 W wa wl) W' y a' len' cp' h e' ∧ e = .returned ((lay3Res y a' len' cp' h e').den ν) ∧ Sat w' ((hp.set 0 (.seen W')).den ν * R) ∧ Kept w0 w' := by
    rintro e w' ⟨v, m, W', hv, hs, he, hsat, hk⟩
    obtain ⟨W2, y, a', len', cp', h, e', hs2, _, ho, hd⟩ := docP_den hv
    rw [hs2] at hs
    cases hs
    exact ⟨W', y, a', len', cp', h, e', ho, by rw [he, hd], hsat, hk⟩
  cases a with
  | none =>
    have hl : len = 0 := by
      rcases Nat.eq_zero_or_pos len with h | h
      · exact h
      · have := row.sm h; cases this
    have hcp := non rfl
    subst hl hcp
    have hbs : bs = [] := List.eq_nil_of_length_eq_zero row.num
    subst hbs
    have ea : [SV.agg (d3C x (.sliv none false 0 0)), .c (.sliv wa false wl wc)].map (SV.den ν) = [SV.agg (d3C x .nls), .c (.sliv wa false wl wc)].map (SV.den ν) := by simp only [List.map_cons, List.map_nil, SV.den, d3C, SC.denL, SC.den]
    rw [ea]
    refine (seen_calls (lay3n_run W x wa wl wc nil) (fun v m h => ?_) (fun y hy => ?_) hW H HK).mono fin
    · obtain ⟨W2, y, a', len', cp', h, e', hs2, hn, _⟩ := docP_den h
      exact ⟨W2, hs2, hn⟩
    · simp only [List.mem_cons, List.not_mem_nil, or_false] at hy; rcases hy with rfl | rfl <;> rfl
  | some a0 =>
    refine (seen_calls (lay3_run W x (some a0) len cp bs wa wl wc ⟨row, lc, rfl, few, tot, nil.ws, nil.wsm, nil.wlen, nil.cap, nil.births, nil.t0⟩) (fun v m h => ?_) (fun y hy => ?_) hW H HK).mono fin
    · obtain ⟨W2, y, a', len', cp', h, e', hs2, hn, _⟩ := docP_den h
      exact ⟨W2, hs2, hn⟩
    · simp only [List.mem_cons, List.not_mem_nil, or_false] at hy; rcases hy with rfl | rfl <;> rfl
def lay3S : Smry Try.prog E where
  g := 32
  run := fun args m K => match args with
    | [.agg l, .c (.sliv wa _ wl _)] => match m.hp.get 0, d3Of l with
      | some (.seen W), some (x, L) => match L with
        | .sliv a _ len cp => ∃ bs, Lay3Any W x a len cp bs wa wl ∧ ∀ W' y a' len' cp' h e, LayOut W x a len cp bs (words3 W wa wl) W' y a' len' cp' h e → K (lay3Res y a' len' cp' h e) ⟨m.hp.set 0 (.seen W'), m.nx⟩
        | .nls => Lay3Nil W x wa wl ∧ ∀ W' y a' len' cp' h e, LayOut W x none 0 0 [] (words3 W wa wl) W' y a' len' cp' h e → K (lay3Res y a' len' cp' h e) ⟨m.hp.set 0 (.seen W'), m.nx⟩
        | _ => Stuck 663
      | _, _ => Stuck 664
    | _ => Stuck 665
  ok := fun args m K hr => by
    split at hr <;> try exact hr.elim
    rename_i l wa lw wl wc
    split at hr <;> try exact hr.elim
    rename_i W x L hW hl
    obtain ⟨hd, hn⟩ := d3Of_sound hl
    intro ν w R w0 H HK
    have key : ∀ a len cp bs, SC.denL ν l = SC.denL ν (d3C x (.sliv a false len cp)) → Lay3Any W x a len cp bs wa wl → (∀ W' y a' len' cp' h e, LayOut W x a len cp bs (words3 W wa wl) W' y a' len' cp' h e → K (lay3Res y a' len' cp' h e) ⟨m.hp.set 0 (.seen W'), m.nx⟩) → Calls Try.prog 32 ([SV.agg l, .c (.sliv wa lw wl wc)].map (SV.den ν)).toArray w fun e w' => ∃ v m' μ, K v m' ∧ Agree m.nx ν μ ∧ m.nx ≤ m'.nx ∧ e = .returned (v.den μ) ∧ Sat w' (m'.hp.den μ * R) ∧ Kept w0 w' := by
      intro a len cp bs hd hc hr
      have ea : [SV.agg l, .c (.sliv wa lw wl wc)].map (SV.den ν) = [SV.agg (d3C x (.sliv a false len cp)), .c (.sliv wa false wl wc)].map (SV.den ν) := by simp only [List.map_cons, List.map_nil, SV.den, hd, SC.den]
      rw [ea]
      refine (lay3_calls hc hW H HK).mono ?_
      rintro e w' ⟨W', y, a', len', cp', h, e', ho, he, hs, hk⟩
      exact ⟨_, _, ν, hr W' y a' len' cp' h e' ho, Agree.refl _ _, Nat.le_refl _, he, hs, hk⟩
    split at hr <;> try exact hr.elim
    · rename_i a ll len cp
      obtain ⟨bs, hc, hr⟩ := hr
      exact key a len cp bs ((hd ν).trans (by simp only [d3C, SC.denL, SC.den])) hc hr
    · exact key none 0 0 [] ((hd ν).trans (by simp only [d3C, SC.denL, SC.den])) ⟨BlkRow.nil W none, Nat.le_refl _, fun _ => rfl, Nat.zero_le _, Nat.zero_le _, hr.1⟩ hr.2
end
end Go.Proofs.Ytnkikhhiaecebaa
