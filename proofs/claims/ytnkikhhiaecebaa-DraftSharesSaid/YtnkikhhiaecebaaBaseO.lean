/- Arguments by value, opened: an array of two uint64. -/
import Derived.WalkKit
import Derived.ProofKit
import Derived.OpenShut
import Derived.Below
import Derived.Test.YtnkikhhiaecebaaBasePl
import Derived.Test.YtnkikhhiaecebaaProg
import Derived.Test.YtnkikhhiaecebaaBaseB
set_option linter.all false
namespace Go.Proofs.Ytnkikhhiaecebaa
open Go.ChangeShapes Go.WideShapes Go.ChangeAt Go.RowKit

section
variable {H : Type} {enc : TypeId × Value → H} {P : Program} {w : World} {base : Nat} {spare : Nat → Bool} {held : Bool}
theorem okWide_array {n : Nat} {e t : TypeId} {r : Reach} {b0 : Nat} {v : Value} (ht : P.underlying t = some (.array n e)) (h : Value.okWide P w r b0 t v) : ∃ cs, v = .agg cs ∧ cs.size = P.cellsOf t := by
  unfold Value.okWide at h
  rw [ht] at h
  obtain ⟨cs, h1, h2, _⟩ := h
  exact ⟨cs, h1, h2⟩

theorem open_arr2 {r : Reach} {b0 : Nat} {t e : TypeId} {v : Value} {d : DataW H} {p : List MemPlace} (ht : P.underlying t = some (.array 2 e)) (he : P.underlying e = some (.int .u64)) (hc : P.cellsOf t = 2) (hce : P.cellsOf e = 1)
    (hv : Value.okWide P w r b0 t v) (h : DataW.Trod enc P w base spare held t v d p) : ∃ a b : Nat, v = .agg #[.int .u64 a, .int .u64 b] ∧ a < TW ∧ b < TW := by
  obtain ⟨cs, rfl, hsz⟩ := okWide_array ht hv
  obtain ⟨fuel, hf⟩ := h
  obtain ⟨c0, c1, rfl⟩ : ∃ c0 c1, cs = #[c0, c1] := by
    obtain ⟨l⟩ := cs
    match l, hsz.trans hc with
    | [c0, c1], _ => exact ⟨c0, c1, rfl⟩
  obtain ⟨xs, m, _, _, _, hl, hx⟩ := DataW.trod_array ht hf
  have h0 := hx 0 (by omega)
  have h1 := hx 1 (by omega)
  obtain ⟨x0, x1, rfl⟩ : ∃ x0 x1, xs = [x0, x1] := by
    match xs, hl with
    | [x0, x1], _ => exact ⟨x0, x1, rfl⟩
  simp [hce, Value.cells] at h0 h1
  obtain ⟨n0, e0, _, w0⟩ := DataW.trod_int he h0
  obtain ⟨n1, e1, _, w1⟩ := DataW.trod_int he h1
  simp at e0 e1
  subst e0 e1
  obtain ⟨a, rfl, ha⟩ := wf_u64 w0
  obtain ⟨b, rfl, hb⟩ := wf_u64 w1
  exact ⟨a, b, rfl, ha, hb⟩
end
end Go.Proofs.Ytnkikhhiaecebaa

/- Slices of integers that are handed in, opened. -/
namespace Go.Proofs.Ytnkikhhiaecebaa
open Go.ChangeShapes Go.WideShapes Go.ChangeAt Go.RowKit

theorem seenInt_of {k : IntKind} {W : World} {x : Addr} {n : Int} (hc : W.cell? x = some (.int k n)) (hw : (Lit.int k n).wf = true) : seenInt k W (some x) = n := by
  have hb : k.min ≤ n ∧ n ≤ k.max := by simpa [Lit.wf] using hw
  unfold seenInt
  simp only [hc]
  omega
theorem open_seen {H : Type} {enc : TypeId × Value → H} {P : Program} {w : World} {base b0 : Nat} {spare : Nat → Bool} {held : Bool} {r : Reach} {T e : TypeId} {k : IntKind} {v : Value} {d : DataW H} {p : List MemPlace} (hT : P.underlying T = some (.slice e)) (he : P.underlying e = some (.int k)) (hc : P.cellsOf e = 1)
    (hv : Value.okWide P w r b0 T v) (h : DataW.Trod enc P w base spare held T v d p) : ∃ (a : Option Addr) (len cap : Nat), v = .slice a len cap ∧ (0 < len → a.isSome = true) ∧ ∀ j, j < len → Seen k w (addOpt a j) := by
  obtain ⟨a, len, cap, rfl⟩ := okWide_slice hT hv
  obtain ⟨fuel, hf⟩ := h
  rcases open_ints hT he hc hf with ⟨hcs, _⟩ | ⟨x, l, c, zs, hcs, _, hl, hm, hz, _, hcell, hwz⟩
  · simp [Value.cells] at hcs
    obtain ⟨rfl, rfl, rfl⟩ := hcs
    exact ⟨none, 0, 0, rfl, fun h => by omega, fun j h => by omega⟩
  · simp [Value.cells] at hcs
    obtain ⟨rfl, rfl, rfl⟩ := hcs
    refine ⟨some x, len, cap, rfl, fun _ => rfl, fun j hj => ?_⟩
    have hlen : len ≤ zs.length := by rw [hz]; split <;> omega
    have h1 := hcell j (by omega)
    have h2 : zs.getD j 0 ∈ zs := by
      rw [List.getD_eq_getElem?_getD, List.getElem?_eq_getElem (by omega)]
      exact List.getElem_mem _
    exact ⟨x.add j, rfl, by rw [addOpt, Option.map_some, seenInt_of h1 (hwz _ h2)]; exact h1⟩
theorem open_seenL {H : Type} {enc : TypeId × Value → H} {P : Program} {w : World} {base b0 : Nat} {spare : Nat → Bool} {held : Bool} {r : Reach} {T e : TypeId} {k : IntKind} {v : Value} {d : DataW H} {p : List MemPlace} (hT : P.underlying T = some (.slice e)) (he : P.underlying e = some (.int k)) (hc : P.cellsOf e = 1)
    (hv : Value.okWide P w r b0 T v) (h : DataW.Trod enc P w base spare held T v d p) : ∃ (a : Option Addr) (len cap : Nat), v = .slice a len cap ∧ (0 < len → a.isSome = true) ∧ (∀ j, j < len → Seen k w (addOpt a j)) ∧ len ≤ maxLen := by
  obtain ⟨a, len, cap, rfl, h1, h2⟩ := open_seen hT he hc hv h
  obtain ⟨fuel, hf⟩ := h
  refine ⟨a, len, cap, rfl, h1, h2, ?_⟩
  rcases open_ints hT he hc hf with ⟨hcs, _⟩ | ⟨x, l, c, zs, hcs, _, hl, hm, _⟩
  · simp [Value.cells] at hcs
    obtain ⟨rfl, rfl, rfl⟩ := hcs
    exact Nat.zero_le _
  · simp [Value.cells] at hcs
    obtain ⟨rfl, rfl, rfl⟩ := hcs
    omega
theorem open_seenC {H : Type} {enc : TypeId × Value → H} {P : Program} {w : World} {base b0 : Nat} {spare : Nat → Bool} {held : Bool} {r : Reach} {T e : TypeId} {k : IntKind} {v : Value} {d : DataW H} {p : List MemPlace} (hT : P.underlying T = some (.slice e)) (he : P.underlying e = some (.int k)) (hc : P.cellsOf e = 1)
    (hv : Value.okWide P w r b0 T v) (h : DataW.Trod enc P w base spare held T v d p) : ∃ (a : Option Addr) (len cap : Nat), v = .slice a len cap ∧ (0 < len → a.isSome = true) ∧ (∀ j, j < len → Seen k w (addOpt a j)) ∧ len ≤ maxLen ∧ len ≤ cap := by
  obtain ⟨a, len, cap, rfl, h1, h2⟩ := open_seen hT he hc hv h
  obtain ⟨fuel, hf⟩ := h
  refine ⟨a, len, cap, rfl, h1, h2, ?_⟩
  rcases open_ints hT he hc hf with ⟨hcs, _⟩ | ⟨x, l, c, zs, hcs, _, hl, hm, _⟩
  · simp [Value.cells] at hcs
    obtain ⟨rfl, rfl, rfl⟩ := hcs
    exact ⟨Nat.zero_le _, Nat.le_refl _⟩
  · simp [Value.cells] at hcs
    obtain ⟨rfl, rfl, rfl⟩ := hcs
    exact ⟨by omega, by omega⟩
end Go.Proofs.Ytnkikhhiaecebaa

/- Arguments of whatever plain type, opened: numbers, flags, structs, arrays, slices, all the way down. No program in sight. -/
namespace Go.Proofs.Ytnkikhhiaecebaa
open Go.ChangeShapes Go.WideShapes Go.ChangeAt Go.RowKit

/-- What some cells, all the way down, are. -/
def Shape (P : Program) (W : World) : Nat → TypeId → List Value → Prop
  | 0, _, _ => False
  | d + 1, t, cs => match P.underlying t with
    | some (.int k) => ∃ n, cs = [.int k n] ∧ (Lit.int k n).wf = true
    | some .bool => ∃ b, cs = [.bool b]
    | some (.struct fs) => cs.length = P.cellsOf t ∧ ∀ (i : Nat) (f : Field), fs[i]? = some f → Shape P W d f.type ((cs.drop f.offset).take (P.cellsOf f.type))
    | some (.array n e) => cs.length = P.cellsOf t ∧ ∀ i, i < n → Shape P W d e ((cs.drop (i * P.cellsOf e)).take (P.cellsOf e))
    | some (.slice e) => ∃ (a : Option Addr) (len cap : Nat), cs = [.slice a len cap] ∧ (0 < len → a.isSome = true) ∧ len ≤ maxLen ∧
        ∀ j, j < len → ∃ es : List Value, (∀ i, i < es.length → ∃ x, addOpt (addOpt a (j * P.cellsOf e)) i = some x ∧ W.cell? x = es[i]?) ∧ Shape P W d e es
    | _ => True
section
variable {H : Type} {enc : TypeId × Value → H} {P : Program} {w : World} {base : Nat} {spare : Nat → Bool} {held : Bool}
theorem shape_of_trod : ∀ (d : Nat) (t : TypeId) (cs : List Value) (x : DataW H × List MemPlace), DataW.trod enc P w base spare held d t cs = some x → Shape P w d t cs
  | 0, t, cs, x, h => by simp [DataW.trod] at h
  | d + 1, t, cs, x, h => by
    unfold Shape
    split
    · rename_i k hu
      obtain ⟨n, rfl, _, hw⟩ := DataW.trod_int hu h
      exact ⟨n, rfl, hw⟩
    · rename_i hu
      obtain ⟨b, rfl, _⟩ := DataW.trod_bool hu h
      exact ⟨b, rfl⟩
    · rename_i fs hu
      obtain ⟨xs, n, hn, _, hl, hxs, hx⟩ := DataW.trod_struct hu h
      obtain rfl : n = d := by omega
      refine ⟨hl, fun i f hf => ?_⟩
      have h1 := hx i f hf
      have hi : i < xs.length := by
        rw [hxs]
        rcases Nat.lt_or_ge i fs.size with h' | h'
        · exact h'
        · rw [Array.getElem?_eq_none h'] at hf; cases hf
      rw [List.getElem?_eq_getElem hi] at h1
      exact shape_of_trod _ _ _ _ h1
    · rename_i m e hu
      obtain ⟨xs, n, hn, _, hl, hxs, hx⟩ := DataW.trod_array hu h
      obtain rfl : n = d := by omega
      refine ⟨hl, fun i hi => ?_⟩
      have h1 := hx i hi
      rw [List.getElem?_eq_getElem (by omega)] at h1
      exact shape_of_trod _ _ _ _ h1
    · rename_i e hu
      rcases DataW.trod_slice hu h with ⟨rfl, _⟩ | ⟨a, len, cap, elems, rest, n, hn, rfl, _, _, hlc, hcm, hlen, hel, _, _⟩
      · exact ⟨none, 0, 0, rfl, (fun h => by omega), Nat.zero_le _, fun j hj => by omega⟩
      · obtain rfl : n = d := by omega
        refine ⟨some a, len, cap, rfl, fun _ => rfl, Nat.le_trans hlc hcm, fun j hj => ?_⟩
        have h1 := hel j hj
        rw [List.getElem?_eq_getElem (by omega)] at h1
        obtain ⟨es, he, ht⟩ := Option.bind_eq_some_iff.1 h1
        obtain ⟨_, hl, hc⟩ := World.cells?_some he
        exact ⟨es, fun i hi => ⟨_, rfl, hc i (by omega)⟩, shape_of_trod _ _ _ _ ht⟩
    · trivial
end

/-- A cell is of its kind. -/
def fit1 : Kd → Value → Prop
  | .int k, v => ∃ n, v = .int k n ∧ (Lit.int k n).wf = true
  | .boo, v => ∃ b, v = .bool b
  | .sli, v => ∃ a n c, v = .slice a n c
def FitsL : List Kd → List Value → Prop
  | [], [] => True
  | k :: ks, v :: vs => fit1 k v ∧ FitsL ks vs
  | _, _ => False
theorem fits_cons {k : Kd} {ks : List Kd} {cs : List Value} (h : FitsL (k :: ks) cs) : ∃ v vs, cs = v :: vs ∧ fit1 k v ∧ FitsL ks vs := by
  cases cs with
  | nil => exact h.elim
  | cons v vs => exact ⟨v, vs, rfl, h.1, h.2⟩
theorem fits_nil {cs : List Value} (h : FitsL [] cs) : cs = [] := by
  cases cs with
  | nil => rfl
  | cons v vs => exact h.elim
theorem fits_len : ∀ {ks : List Kd} {cs : List Value}, FitsL ks cs → cs.length = ks.length
  | [], cs, h => by rw [fits_nil h]; rfl
  | k :: ks, cs, h => by
    obtain ⟨v, vs, rfl, _, h2⟩ := fits_cons h
    simp [fits_len h2]
theorem fits_app : ∀ {ks ls : List Kd} {cs ds : List Value}, FitsL ks cs → FitsL ls ds → FitsL (ks ++ ls) (cs ++ ds)
  | [], ls, cs, ds, h, k => by rw [fits_nil h]; exact k
  | x :: ks, ls, cs, ds, h, k => by
    obtain ⟨v, vs, rfl, h1, h2⟩ := fits_cons h
    exact ⟨h1, fits_app h2 k⟩
def flatFs (P : Program) (rec : TypeId → Option (List Kd)) : List Field → Nat → Option (List Kd)
  | [], _ => some []
  | f :: fs, o => bif Nat.beq f.offset o then (match rec f.type with
    | some a => bif Nat.beq (P.cellsOf f.type) a.length then (match flatFs P rec fs (o + a.length) with
      | some b => some (a ++ b)
      | none => none) else none
    | none => none) else none
def flatT (P : Program) : Nat → TypeId → Option (List Kd)
  | 0, _ => none
  | d + 1, t => match P.underlying t with
    | some (.int k) => some [.int k]
    | some .bool => some [.boo]
    | some (.slice _) => some [.sli]
    | some (.struct fs) => match flatFs P (flatT P d) fs.toList 0 with
      | some l => bif Nat.beq (P.cellsOf t) l.length then some l else none
      | none => none
    | some (.array n e) => match flatT P d e with
      | some l => bif Nat.beq (P.cellsOf e) l.length && Nat.beq (P.cellsOf t) (n * l.length) then some (kindsN l n) else none
      | none => none
    | _ => none
section
variable {P : Program} {W : World}
theorem flat_fs {rec : TypeId → Option (List Kd)} {cs : List Value} {d : Nat} (hrec : ∀ t ks cs, rec t = some ks → Shape P W d t cs → FitsL ks cs) : ∀ (L : List Field) (o : Nat) (l : List Kd),
    (∀ (i : Nat) (f : Field), L[i]? = some f → Shape P W d f.type ((cs.drop f.offset).take (P.cellsOf f.type))) → flatFs P rec L o = some l → FitsL l ((cs.drop o).take l.length)
  | [], o, l, _, h => by
    simp only [flatFs, Option.some.injEq] at h
    subst h
    simp [FitsL]
  | f :: L, o, l, hs, h => by
    unfold flatFs at h
    cases h1 : Nat.beq f.offset o <;> rw [h1] at h
    · cases h
    simp only [cond_true] at h
    have h1 := Nat.eq_of_beq_eq_true h1
    subst h1
    split at h <;> try cases h
    rename_i a ha
    cases h2 : Nat.beq (P.cellsOf f.type) a.length <;> rw [h2] at h
    · cases h
    simp only [cond_true] at h
    have h2 := Nat.eq_of_beq_eq_true h2
    split at h <;> try cases h
    rename_i b hb
    have k1 := hrec _ _ _ ha (hs 0 f rfl)
    rw [h2] at k1
    have k2 := flat_fs hrec L (f.offset + a.length) b (fun i g hg => hs (i + 1) g hg) hb
    have e : (cs.drop f.offset).take (a ++ b).length = (cs.drop f.offset).take a.length ++ (cs.drop (f.offset + a.length)).take b.length := by
      rw [List.length_append, List.take_add, List.drop_drop]
    rw [e]
    exact fits_app k1 k2
theorem kindsN_len (l : List Kd) : ∀ n, (kindsN l n).length = n * l.length
  | 0 => by simp [kindsN]
  | n + 1 => by simp only [kindsN, List.length_append, kindsN_len l n, Nat.succ_mul]; omega
theorem flat_arr {cs : List Value} {d : Nat} {e : TypeId} {l : List Kd} (hl : P.cellsOf e = l.length) (hf : ∀ cs, Shape P W d e cs → FitsL l cs) : ∀ (n i : Nat), (∀ j, j < i + n → Shape P W d e ((cs.drop (j * P.cellsOf e)).take (P.cellsOf e))) →
    FitsL (kindsN l n) ((cs.drop (i * P.cellsOf e)).take (kindsN l n).length)
  | 0, i, _ => by simp [kindsN, FitsL]
  | n + 1, i, h => by
    have k1 := hf _ (h i (by omega))
    have k2 := flat_arr hl hf n (i + 1) (fun j hj => h j (by omega))
    have e1 : (cs.drop (i * P.cellsOf e)).take (kindsN l (n + 1)).length = (cs.drop (i * P.cellsOf e)).take (P.cellsOf e) ++ (cs.drop ((i + 1) * P.cellsOf e)).take (kindsN l n).length := by
      simp only [kindsN, List.length_append]
      rw [← hl, List.take_add, List.drop_drop, Nat.succ_mul]
    rw [e1]
    exact fits_app k1 k2
theorem flat_fits : ∀ (D : Nat) (t : TypeId) (ks : List Kd), flatT P D t = some ks → ∀ (d : Nat) (cs : List Value), Shape P W d t cs → FitsL ks cs
  | 0, _, _, h, _, _, _ => by simp [flatT] at h
  | D + 1, t, ks, h, 0, cs, hs => hs.elim
  | D + 1, t, ks, h, d + 1, cs, hs => by
    unfold flatT at h
    unfold Shape at hs
    split at h <;> try cases h
    · rename_i k hu
      rw [hu] at hs
      obtain ⟨n, rfl, hw⟩ := hs
      exact ⟨⟨n, rfl, hw⟩, trivial⟩
    · rename_i hu
      rw [hu] at hs
      obtain ⟨b, rfl⟩ := hs
      exact ⟨⟨b, rfl⟩, trivial⟩
    · rename_i e hu
      rw [hu] at hs
      obtain ⟨a, len, cap, rfl, _⟩ := hs
      exact ⟨⟨a, len, cap, rfl⟩, trivial⟩
    · rename_i fs hu
      rw [hu] at hs
      obtain ⟨hl, hf⟩ := hs
      split at h <;> try cases h
      rename_i l hfl
      cases h2 : Nat.beq (P.cellsOf t) l.length <;> rw [h2] at h
      · cases h
      simp only [cond_true, Option.some.injEq] at h
      subst h
      have h2 := Nat.eq_of_beq_eq_true h2
      have := flat_fs (cs := cs) (d := d) (fun t ks cs h hs => flat_fits D t ks h d cs hs) fs.toList 0 l (fun i f hi => hf i f (by simpa using hi)) hfl
      rw [List.drop_zero, ← h2, ← hl, List.take_length] at this
      exact this
    · rename_i n e hu
      rw [hu] at hs
      obtain ⟨hl, hf⟩ := hs
      split at h <;> try cases h
      rename_i l hfl
      cases h2 : Nat.beq (P.cellsOf e) l.length && Nat.beq (P.cellsOf t) (n * l.length) <;> rw [h2] at h
      · cases h
      simp only [cond_true, Option.some.injEq] at h
      subst h
      simp only [Bool.and_eq_true] at h2
      have h3 := Nat.eq_of_beq_eq_true h2.1
      have h4 := Nat.eq_of_beq_eq_true h2.2
      have := flat_arr (cs := cs) h3 (fun cs hs => flat_fits D e l hfl d cs hs) n 0 (fun j hj => hf j (by omega))
      rw [Nat.zero_mul, List.drop_zero, kindsN_len, ← h4, ← hl, List.take_length] at this
      exact this

/-- At an address of the old memory such a value lies, all the way down. -/
def At (P : Program) (W : World) (t : TypeId) (a : Option Addr) : Prop := ∃ (d : Nat) (cs : List Value), (∀ i, i < cs.length → ∃ x, addOpt a i = some x ∧ W.cell? x = cs[i]?) ∧ Shape P W d t cs
theorem addOpt_zero (a : Option Addr) : addOpt a 0 = a := by
  cases a with
  | none => rfl
  | some x => simp [addOpt, Addr.add]
theorem addOpt_add (a : Option Addr) (i j : Nat) : addOpt (addOpt a i) j = addOpt a (i + j) := by
  cases a with
  | none => rfl
  | some x => simp [addOpt, Addr.add_add]
theorem seenK_fit {k : Kd} {a : Option Addr} {v : Value} (hf : fit1 k v) {x : Addr} (ha : a = some x) (hc : W.cell? x = some v) : SeenK W a k := by
  subst ha
  cases k with
  | int k =>
    obtain ⟨n, rfl, hw⟩ := hf
    exact ⟨x, rfl, by rw [seenInt_of hc hw]; exact hc⟩
  | boo =>
    obtain ⟨b, rfl⟩ := hf
    refine ⟨x, rfl, ?_⟩
    simp only [seenBoo, hc]
  | sli =>
    obtain ⟨b, n, c, rfl⟩ := hf
    refine ⟨x, rfl, ?_⟩
    simp only [seenSli, hc]
theorem seenL_fits {a : Option Addr} : ∀ {ks : List Kd} {cs : List Value} {i0 : Nat}, FitsL ks cs → (∀ i, i < cs.length → ∃ x, addOpt a (i0 + i) = some x ∧ W.cell? x = cs[i]?) → SeenL W a i0 ks
  | [], _, _, _, _ => trivial
  | k :: ks, cs, i0, h, hc => by
    obtain ⟨v, vs, rfl, h1, h2⟩ := fits_cons h
    obtain ⟨x, hx, hv⟩ := hc 0 (by simp)
    refine ⟨seenK_fit h1 hx hv, seenL_fits h2 fun i hi => ?_⟩
    have := hc (i + 1) (by simpa using hi)
    rw [show i0 + 1 + i = i0 + (i + 1) by omega]
    simpa using this
theorem at_flat {t : TypeId} {a : Option Addr} (D : Nat) {ks : List Kd} (hf : flatT P D t = some ks) (h : At P W t a) : SeenL W a 0 ks := by
  obtain ⟨d, cs, hc, hs⟩ := h
  exact seenL_fits (flat_fits D t ks hf d cs hs) fun i hi => by rw [Nat.zero_add]; exact hc i hi
theorem at_one {t : TypeId} {a : Option Addr} (D : Nat) {k : Kd} (hf : flatT P D t = some [k]) (h : At P W t a) : SeenK W a k := by
  have := (at_flat D hf h).1
  rwa [addOpt_zero] at this
theorem at_slice {t e : TypeId} {a : Option Addr} (hu : P.underlying t = some (.slice e)) (h : At P W t a) : SeenS W a ∧ (0 < (seenSli W a).2.1 → (seenSli W a).1.isSome = true) ∧ ∀ j, j < (seenSli W a).2.1 → At P W e (addOpt (seenSli W a).1 (j * P.cellsOf e)) := by
  obtain ⟨d, cs, hc, hs⟩ := h
  cases d with
  | zero => exact hs.elim
  | succ d =>
    unfold Shape at hs
    rw [hu] at hs
    obtain ⟨b, n, c, rfl, h1, _, h2⟩ := hs
    obtain ⟨x, hx, hv⟩ := hc 0 (by simp)
    rw [addOpt_zero] at hx
    subst hx
    have e1 : seenSli W (some x) = (b, n, c) := by
      simp only [List.getElem?_cons_zero] at hv
      simp only [seenSli, hv]
    rw [e1]
    refine ⟨⟨x, rfl, by rw [e1]; exact hv⟩, h1, fun j hj => ?_⟩
    obtain ⟨es, he, hsh⟩ := h2 j hj
    exact ⟨d, es, he, hsh⟩
theorem at_slen {t e : TypeId} {a : Option Addr} (hu : P.underlying t = some (.slice e)) (h : At P W t a) : (seenSli W a).2.1 ≤ maxLen := by
  obtain ⟨d, cs, hc, hs⟩ := h
  cases d with
  | zero => exact hs.elim
  | succ d =>
    unfold Shape at hs
    rw [hu] at hs
    obtain ⟨b, n, c, rfl, h1, h0, h2⟩ := hs
    obtain ⟨x, hx, hv⟩ := hc 0 (by simp)
    rw [addOpt_zero] at hx
    subst hx
    have e1 : seenSli W (some x) = (b, n, c) := by
      simp only [List.getElem?_cons_zero] at hv
      simp only [seenSli, hv]
    rw [e1]
    exact h0
theorem at_field {t : TypeId} {fs : Array Field} {a : Option Addr} (hu : P.underlying t = some (.struct fs)) {i : Nat} {f : Field} (hi : fs[i]? = some f) (h : At P W t a) : At P W f.type (addOpt a f.offset) := by
  obtain ⟨d, cs, hc, hs⟩ := h
  cases d with
  | zero => exact hs.elim
  | succ d =>
    unfold Shape at hs
    rw [hu] at hs
    refine ⟨d, _, fun j hj => ?_, hs.2 i f hi⟩
    simp only [List.length_take, List.length_drop] at hj
    obtain ⟨x, hx, hv⟩ := hc (f.offset + j) (by omega)
    refine ⟨x, by rw [addOpt_add]; exact hx, ?_⟩
    rw [List.getElem?_take, if_pos (by omega), List.getElem?_drop]
    exact hv
section
variable {H : Type} {enc : TypeId × Value → H} {base : Nat} {spare : Nat → Bool} {held : Bool} {r : Reach} {b0 : Nat} {v : Value} {dd : DataW H} {p : List MemPlace}
theorem open_sli {T e : TypeId} (hT : P.underlying T = some (.slice e)) (hv : Value.okWide P W r b0 T v) (h : DataW.Trod enc P W base spare held T v dd p) :
    ∃ (a : Option Addr) (len cap : Nat), v = .slice a len cap ∧ (0 < len → a.isSome = true) ∧ ∀ j, j < len → At P W e (addOpt a (j * P.cellsOf e)) := by
  obtain ⟨a, len, cap, rfl⟩ := okWide_slice hT hv
  obtain ⟨fuel, hf⟩ := h
  have hs := shape_of_trod _ _ _ _ hf
  cases fuel with
  | zero => exact hs.elim
  | succ d =>
    unfold Shape at hs
    rw [hT] at hs
    obtain ⟨a', len', cap', he, h1, _, h2⟩ := hs
    simp [Value.cells] at he
    obtain ⟨rfl, rfl, rfl⟩ := he
    refine ⟨a, len, cap, rfl, h1, fun j hj => ?_⟩
    obtain ⟨es, he, hsh⟩ := h2 j hj
    exact ⟨d, es, he, hsh⟩
theorem open_agg {T : TypeId} (D : Nat) {ks : List Kd} (hT : (∃ fs, P.underlying T = some (.struct fs)) ∨ ∃ n e, P.underlying T = some (.array n e)) (hf : flatT P D T = some ks) (hv : Value.okWide P W r b0 T v) (h : DataW.Trod enc P W base spare held T v dd p) :
    ∃ cs : List Value, v = .agg cs.toArray ∧ FitsL ks cs := by
  obtain ⟨cs, rfl⟩ : ∃ cs, v = .agg cs := by
    rcases hT with ⟨fs, hu⟩ | ⟨n, e, hu⟩
    · obtain ⟨cs, rfl, _⟩ := okWide_struct hu hv; exact ⟨cs, rfl⟩
    · obtain ⟨cs, rfl, _⟩ := okWide_array hu hv; exact ⟨cs, rfl⟩
  obtain ⟨fuel, hf'⟩ := h
  have hs := shape_of_trod _ _ _ _ hf'
  exact ⟨cs.toList, by simp, flat_fits D T ks hf _ _ hs⟩
end
end
theorem wf_lit64 {a : Int} (h : (Lit.int .u64 a).wf = true) : 0 ≤ a ∧ a ≤ 18446744073709551615 := by
  simpa [Lit.wf, IntKind.min, IntKind.max, IntKind.bits, IntKind.signed] using h
theorem wf_lit8 {a : Int} (h : (Lit.int .u8 a).wf = true) : 0 ≤ a ∧ a ≤ 255 := by
  simpa [Lit.wf, IntKind.min, IntKind.max, IntKind.bits, IntKind.signed] using h
theorem wf_liti {a : Int} (h : (Lit.int .i64 a).wf = true) : -9223372036854775808 ≤ a ∧ a ≤ 9223372036854775807 := by
  simpa [Lit.wf, IntKind.min, IntKind.max, IntKind.bits, IntKind.signed] using h
end Go.Proofs.Ytnkikhhiaecebaa

/- Slices of anything that are handed in: their lengths have bounds. -/
namespace Go.Proofs.Ytnkikhhiaecebaa
open Go.ChangeShapes Go.WideShapes Go.ChangeAt Go.RowKit
theorem open_sliL {P : Program} {W : World} {H : Type} {enc : TypeId × Value → H} {base : Nat} {spare : Nat → Bool} {held : Bool} {r : Reach} {b0 : Nat} {v : Value} {dd : DataW H} {p : List MemPlace} {T e : TypeId} (hT : P.underlying T = some (.slice e)) (hv : Value.okWide P W r b0 T v) (h : DataW.Trod enc P W base spare held T v dd p) :
    ∃ (a : Option Addr) (len cap : Nat), v = .slice a len cap ∧ (0 < len → a.isSome = true) ∧ (∀ j, j < len → At P W e (addOpt a (j * P.cellsOf e))) ∧ len ≤ maxLen := by
  obtain ⟨a, len, cap, rfl, h1, h2⟩ := open_sli hT hv h
  obtain ⟨fuel, hf⟩ := h
  refine ⟨a, len, cap, rfl, h1, h2, ?_⟩
  rcases DataW.trod_slice hT hf with ⟨hcs, _⟩ | ⟨x, l, c, elems, rest, n, _, hcs, _, _, hl, hm, _⟩
  · simp [Value.cells] at hcs
    obtain ⟨rfl, rfl, rfl⟩ := hcs
    exact Nat.zero_le _
  · simp [Value.cells] at hcs
    obtain ⟨rfl, rfl, rfl⟩ := hcs
    omega
end Go.Proofs.Ytnkikhhiaecebaa
