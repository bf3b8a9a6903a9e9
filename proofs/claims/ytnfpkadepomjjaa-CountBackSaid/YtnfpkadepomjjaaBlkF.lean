/- The first blocks of an arena (layer 3's statements), put with the old memory: plain facts. -/
import Derived.Test.YtnfpkadepomjjaaBlkA
import Derived.Test.YtnfpkadepomjjaaBaseDoc
import Derived.Test.YtnfpkadepomjjaaCntN
set_option linter.all false
namespace Go.Proofs.Ytnfpkadepomjjaa
open Go Go.RowKit

theorem row_frz {T : TypeId} {W w : World} {v : Value} {ws : List Nat} {R : Assn} (hb : ∀ x ∈ ws, x < TW) (h : Sat w (rowAt T v (u64s ws) * (seenA W * R))) :
    ∃ W', Grow W W' ∧ (∃ a c, v = .slice a ws.length c ∧ WordsAt W' a ws) ∧ Sat w (seenA W' * R) := by
  rcases rowAt_open h with ⟨rfl, h2, h3⟩ | ⟨g, cap, cur, rfl, h2, h3, h4, h5, h6⟩
  · have : ws = [] := by
      cases ws with
      | nil => rfl
      | cons x l => simp [u64s] at h2
    subst this
    exact ⟨W, Grow.refl W, ⟨none, 0, rfl, WordsAt.nil W none⟩, h3⟩
  · obtain ⟨W', hg, hv, hs⟩ := seenA_freeze (W := W) (h6.cast (by ac_rfl))
    have hlen : (u64s ws).length = ws.length := by simp [u64s]
    refine ⟨W', hg, ⟨some ⟨g, 0, none⟩, cap, by rw [hlen], ⟨fun _ => rfl, fun j u hj => ⟨⟨⟨g, j, none⟩, by simp [addOpt, Addr.add_mid], hv j _ ?_⟩, hb u (List.mem_of_getElem? hj)⟩⟩⟩, hs⟩
    have e : (u64s ws)[j]? = some (.int .u64 (u : Nat)) := by simp [u64s, hj]
    rw [← h5, List.getElem?_take] at e
    split at e
    · simpa using e
    · cases e
theorem rows_frz {w : World} {R : Assn} : ∀ {xs : List (Nat × List Nat × Value)} {W : World}, (∀ y ∈ xs, ∀ x ∈ y.2.1, x < TW) → Sat w (rowsP xs * (seenA W * R)) →
    ∃ W', Grow W W' ∧ (∀ y ∈ xs, ∃ a c, y.2.2 = .slice a y.2.1.length c ∧ WordsAt W' a y.2.1) ∧ Sat w (seenA W' * R)
  | [], W, _, h => ⟨W, Grow.refl W, fun y hy => (by cases hy), h.cast (by simp only [rowsP]; rw [Assn.one_mul])⟩
  | y :: xs, W, hb, h => by
    have h1 : Sat w (rowAt 25 y.2.2 (u64s y.2.1) * (seenA W * (rowsP xs * R))) := h.cast (by simp only [rowsP]; ac_rfl)
    obtain ⟨W1, g1, ⟨a, c, e, hw⟩, h2⟩ := row_frz (hb y (List.mem_cons_self ..)) h1
    obtain ⟨W2, g2, hr, h3⟩ := rows_frz (W := W1) (xs := xs) (fun z hz => hb z (List.mem_cons_of_mem _ hz)) (h2.cast (by ac_rfl))
    refine ⟨W2, g1.trans g2, fun z hz => ?_, h3⟩
    rcases List.mem_cons.1 hz with rfl | hz
    · exact ⟨a, c, e, hw.grow g2⟩
    · exact hr z hz
theorem bcells_get {xs : List (Nat × List Nat × Value)} {i : Nat} {y : Nat × List Nat × Value} (h : xs[i]? = some y) : (bcells xs)[i * 2]? = some (.int .u64 (y.1 : Nat)) ∧ (bcells xs)[i * 2 + 1]? = some y.2.2 := by
  induction xs generalizing i with
  | nil => simp at h
  | cons z xs ih =>
    have e : bcells (z :: xs) = .int .u64 z.1 :: z.2.2 :: bcells xs := rfl
    cases i with
    | zero =>
      simp only [List.getElem?_cons_zero, Option.some.injEq] at h
      subst h
      rw [e]
      exact ⟨rfl, rfl⟩
    | succ i =>
      simp only [List.getElem?_cons_succ] at h
      obtain ⟨h1, h2⟩ := ih h
      rw [e, show (i + 1) * 2 = i * 2 + 1 + 1 by omega]
      exact ⟨h1, h2⟩
theorem blk_frz {W w : World} {v : Value} {xs : List (Nat × List Nat × Value)} {R : Assn} (hh : ∀ y ∈ xs, y.1 < TW) (hr : ∀ y ∈ xs, ∃ a c, y.2.2 = .slice a y.2.1.length c ∧ WordsAt W a y.2.1)
    (h : Sat w (rowK 123 2 v xs.length (bcells xs) * (seenA W * R))) :
    ∃ W' a cap, Grow W W' ∧ v = .slice a xs.length cap ∧ BlkRow W' a xs.length (xs.map keyB) ∧ xs.length ≤ cap ∧ cap ≤ maxLen ∧ Sat w (seenA W' * R) := by
  obtain ⟨h0, ⟨rfl, h1, h2⟩ | ⟨g, cap, cur, rfl, h1, h2, h3, h4, h5⟩⟩ := rowK_open h
  · have : xs = [] := by
      cases xs with
      | nil => rfl
      | cons y l => simp at h1
    subst this
    exact ⟨W, none, 0, Grow.refl W, rfl, BlkRow.nil W none, Nat.le_refl _, Nat.zero_le _, h2⟩
  · obtain ⟨W', hg, hv, hs⟩ := seenA_freeze (W := W) (h5.cast (by ac_rfl))
    refine ⟨W', some ⟨g, 0, none⟩, cap, hg, rfl, ⟨by simp, fun _ => rfl, fun i b hi => ?_⟩, h1, h2, hs⟩
    rw [List.getElem?_map] at hi
    cases hx : xs[i]? with
    | none => rw [hx] at hi; cases hi
    | some y =>
      rw [hx] at hi
      simp only [Option.map_some, Option.some.injEq] at hi
      subst hi
      obtain ⟨e1, e2⟩ := bcells_get hx
      have hm := List.mem_of_getElem? hx
      obtain ⟨a, c, e3, hw⟩ := hr y hm
      have cell : ∀ (j : Nat) (u : Value), (bcells xs)[j]? = some u → CellAt W' (some ⟨g, 0, none⟩) j u := fun j u hj => by
        refine ⟨⟨g, j, none⟩, by simp [addOpt, Addr.add_mid], hv j u ?_⟩
        rw [← h4, List.getElem?_take] at hj
        split at hj
        · simpa using hj
        · cases hj
      refine ⟨cell _ _ e1, hh y hm, a, c, ?_, hw.grow hg⟩
      rw [e3] at e2
      exact cell _ _ e2
def prjUp {E : EXT} (I : XIn E) {H : Hid E} : HO E H → Option XO
  | .old e => I.prj e
  | _ => none
theorem prjUp_inj {E : EXT} (I : XIn E) {H : Hid E} : ∀ (e : HO E H) (x : XO), prjUp I e = some x → e = HO.old (I.inj x)
  | .old e, x, h => by rw [I.prj_inj e x h]
  | .obj _ _, x, h => by cases h
  | .all _ _ _ _ _, x, h => by cases h
  | .rest _ _ _ _ _, x, h => by cases h
def xUp {E : EXT} (I : XIn E) (H : Hid E) : XIn (E.hid H) := ⟨fun x => HO.old (I.inj x), prjUp I, fun ν b x => I.den ν b x, prjUp_inj I⟩
theorem set_del {E : EXT} {n : Nat} {p : SO E} : ∀ {h : SH E}, (h.set n p).del n = h.del n
  | [] => rfl
  | (i, q) :: l => by
    simp only [SH.set, SH.del]
    by_cases e : i = n
    · simp only [if_pos e, SH.del]
    · simp only [if_neg e, SH.del]; rw [set_del (h := l)]
theorem set_get {E : EXT} {n : Nat} {o p : SO E} : ∀ {h : SH E}, h.get n = some o → (h.set n p).get n = some p
  | [], e => by cases e
  | (i, q) :: l, e => by
    simp only [SH.get] at e
    simp only [SH.set]
    split at e
    · rename_i e'; simp only [if_pos e', SH.get]
    · rename_i e'; simp only [if_neg e', SH.get]; exact set_get e
def blkPairs (A : Ar) : List (Nat × List Nat) := A.bs.map fun b => (b.h, b.ws)
/-- The first blocks of an arena: by their numbers. -/
def blocksF {E : EXT} (I : XIn E) : Smry Try.prog E where
  g := 62
  run := fun args m K => match args with
    | [.c (.ptr n 0), .c (.int _ .i64 most _)] => match (m.hp.del 0).get n with
      | some (.ext e) => match I.prj e with
        | some (.ar A) => match m.hp.get 0 with
          | some (.seen W) => A.s.back.length ≤ 70000 ∧ ∀ (W' : World) (a : Option Addr) (cap : Nat) (bs L : List (Nat × List Nat)), Grow W W' → ArInv A → L = allOf A → bs = L.take most.toNat → BlkRow W' a bs.length bs → (bs.length ≤ cap ∧ cap ≤ maxLen) →
              K (.c (.sliv a false bs.length cap)) ⟨m.hp.set 0 (.seen W'), m.nx⟩
          | _ => Stuck 640
        | _ => Stuck 641
      | _ => Stuck 642
    | _ => Stuck 643
  ok := fun args m K hr => by
    split at hr <;> try exact hr.elim
    rename_i n _ most _
    split at hr <;> try exact hr.elim
    rename_i e hn
    split at hr <;> try exact hr.elim
    rename_i A he
    have he := I.prj_inj _ _ he
    subst he
    split at hr <;> try exact hr.elim
    rename_i W h0
    obtain ⟨hbk, hk⟩ := hr
    intro ν w R w0 H HK
    have H1 := H
    rw [SH.den_get ν h0, SH.den_get ν hn, Assn.mul_assoc, Assn.mul_assoc] at H1
    have H2 : Sat w (arAt (ν n) A * (seenA W * (((m.hp.del 0).del n).den ν * R))) := H1.cast (by
      show seenA W * (E.den ν (ν n) (I.inj (.ar A)) * _) = _
      rw [I.den]
      show seenA W * (arAt (ν n) A * _) = _
      ac_rfl)
    obtain ⟨_, _, hi, _⟩ := arAt_open H2
    refine (blocks_keep (ν n) A most w H2 hbk).mono ?_
    rintro e w' ⟨hk', v, xs, rfl, hxs, hok, hs⟩
    have hmem : ∀ y ∈ xs, keyB y ∈ allOf A := fun y hy => by
      have : keyB y ∈ xs.map keyB := List.mem_map_of_mem hy
      rw [hxs] at this
      exact List.mem_of_mem_take this
    have hall : ∀ p ∈ allOf A, ∃ b ∈ A.bs, p = (b.h, b.ws) := fun p hp => by
      unfold allOf numsOf at hp
      simp only [List.mem_map] at hp
      obtain ⟨z, hz, rfl⟩ := hp
      rw [(List.mergeSort_perm _ _).mem_iff] at hz
      simp only [List.mem_map] at hz
      obtain ⟨b, hb, rfl⟩ := hz
      exact ⟨b, hb, by simp only [blkOf, find_n hi.apart hb]⟩
    have hsm : ∀ y ∈ xs, y.1 < TW ∧ ∀ x ∈ y.2.1, x < TW := fun y hy => by
      obtain ⟨b, hb, e⟩ := hall _ (hmem y hy)
      have e1 : y.1 = b.h := congrArg Prod.fst e
      have e2 : y.2.1 = b.ws := congrArg Prod.snd e
      obtain ⟨r1, r2, r3, r4, r5, r6, r7⟩ := hi.range b hb
      have h1 := hi.births
      have h2 := hi.hmax
      refine ⟨by rw [e1]; unfold TW; omega, by rw [e2]; exact hi.words b hb⟩
    obtain ⟨W1, g1, hr1, hs1⟩ := rows_frz (W := W) (fun y hy => (hsm y hy).2) (hs.cast (Q := rowsP xs * (seenA W * (rowK 123 2 v xs.length (bcells xs) * (arAt (ν n) A * (((m.hp.del 0).del n).den ν * R))))) (by ac_rfl))
    obtain ⟨W2, a, cap, g2, rfl, hrow, hc1, hc2, hs2⟩ := blk_frz (W := W1) (fun y hy => (hsm y hy).1) hr1 (hs1.cast (Q := rowK 123 2 v xs.length (bcells xs) * (seenA W1 * (arAt (ν n) A * (((m.hp.del 0).del n).den ν * R)))) (by ac_rfl))
    have hlen : (xs.map keyB).length = xs.length := List.length_map _
    refine ⟨_, _, ν, hk W2 a cap (xs.map keyB) (allOf A) (g1.trans g2) hi rfl hxs (by rw [hlen]; exact hrow) (by rw [hlen]; exact ⟨hc1, hc2⟩), Agree.refl _ _, Nat.le_refl _, by rw [hlen]; rfl, ?_, HK.trans hk'⟩
    rw [SH.den_get ν (set_get h0), set_del, SH.den_get ν hn, Assn.mul_assoc, Assn.mul_assoc]
    refine hs2.cast ?_
    show _ = seenA W2 * (E.den ν (ν n) (I.inj (.ar A)) * _)
    rw [I.den]
    rfl
end Go.Proofs.Ytnfpkadepomjjaa
