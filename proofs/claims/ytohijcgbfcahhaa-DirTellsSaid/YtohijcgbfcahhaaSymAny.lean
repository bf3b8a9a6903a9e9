/- The executor: a region in whichever order is sound. -/
import Derived.Test.YtohijcgbfcahhaaSymRun
namespace Go.Proofs.Ytohijcgbfcahhaa
open Go Go.RowKit

section
variable {E : EXT} {P : Program}

theorem Sat.top (w : World) : Sat w (1 * 1) := ⟨Part.none, ⟨Part.none, Part.none, Part.apart_none _, rfl, rfl, rfl⟩, fun _ _ h => by cases h⟩
theorem SH.get_del {h : SH E} {n m : Nat} (hne : m ≠ n) : (h.del n).get m = h.get m := by
  induction h with
  | nil => rfl
  | cons p h ih =>
    obtain ⟨k, o⟩ := p
    simp only [SH.del]
    split
    · rename_i hk
      subst hk
      simp [SH.get, Ne.symm hne]
    · simp only [SH.get]
      rw [ih]
def nodupB : List Nat → Bool
  | [] => true
  | x :: l => !(l.contains x) && nodupB l
theorem subEq_sat {ν : Nat → Nat} {w : World} : ∀ {h0 h : SH E} {R : Assn}, (∀ p ∈ h0, h.get p.1 = some p.2) → nodupB (List.map (fun p => p.1) h0) = true → Sat w (h.den ν * R) → Sat w (h0.den ν * R)
  | [], h, R, _, _, H => by
    simp only [SH.den]
    rw [Assn.one_mul]
    exact H.right
  | (n, o) :: h0, h, R, hs, hn, H => by
    simp only [List.map_cons, nodupB, Bool.and_eq_true, Bool.not_eq_true'] at hn
    rw [SH.den_get ν (hs (n, o) List.mem_cons_self), Assn.mul_assoc] at H
    simp only [SH.den]
    have hd : ∀ p ∈ h0, (h.del n).get p.1 = some p.2 := fun p hp => by
      rw [SH.get_del]
      · exact hs p (List.mem_cons_of_mem _ hp)
      · intro e
        have h1 := hn.1
        simp at h1
        exact h1 p.2 (by rw [← e]; exact hp)
    have H' : Sat w ((h.del n).den ν * (o.den ν (ν n) * R)) := H.cast (by ac_rfl)
    have := subEq_sat hd hn.2 H'
    exact this.cast (by ac_rfl)
theorem subH_sat {h0 h : SH E} {q : Prop} (hs : subH h0 h q) (hn : nodupB (List.map (fun p => p.1) h0) = true) {ν : Nat → Nat} {w : World} {R : Assn} (H : Sat w (h.den ν * R)) : Sat w (h0.den ν * R) := by
  obtain ⟨⟨h1, e1, e2, e3⟩, _⟩ := subH_img hs
  rw [← e3]
  exact subEq_sat e2 (by rw [e1]; exact hn) H

/-- What is shown of a state in a region: whichever order, from what is listed. -/
def AnyOk (P : Program) (ops : Array Oper) (n : Nat) (ν0 : Nat → Nat) (w0 : World) (R : Assn) (K : KO E) (h0 : SH E) (fuel L : Nat) (f : SF) (m : Mem E) : Prop :=
  n ≤ m.nx → ∀ (ν : Nat → Nat) (w : World), Agree n ν0 ν → Sat w (m.hp.den ν * R) → Kept w0 w →
      ((∃ i o, ops[i]? = some o ∧ isLoad o = true ∧ (listedOf ops.size L).getD i true = false) → Sat w (h0.den ν0 * R)) →
      wpAnyL P .any ops (QR K n ν0 R w0) (fun w => Sat w (h0.den ν0 * R)) (loose ops) fuel (listedOf ops.size L) (actOf ν f) w
section
variable {call : CallF E} {wr : Nat → Bool} {ops : Array Oper} {base top n : Nat} {ν0 : Nat → Nat} {w0 : World} {R : Assn} {K : KO E} {h0 : SH E}
theorem stepB_sound (hsel : Region.noSelect ops = true) (hlt : h0.names.all (fun m => Nat.blt m n) = true) {fuel L : Nat} {f : SF} {m : Mem E} {s : Scr E} {rec : Nat → SF → Mem E → Scr E → Prop} {other : Prop}
    (hL : ∀ k, ops.size ≤ k → hasB L k = false) (IH : ∀ L f m s, rec L f m s → (∀ k, ops.size ≤ k → hasB L k = false) → AnyOk P ops n ν0 w0 R K h0 fuel L f m)
    (h : stepB P call wr ops base top h0 (digest ops) L f m s K rec other) (ho : other → AnyOk P ops n ν0 w0 R K h0 (fuel + 1) L f m) : AnyOk P ops n ν0 w0 R K h0 (fuel + 1) L f m := by
  intro hn ν w ag H HK hS
  have hden : h0.den ν = h0.den ν0 := (SH.den_eq h0 (names_lt hlt ag)).symm
  have hLi : ∀ i, i < ops.size → ∀ k, ops.size ≤ k → hasB (orB i L) k = false := fun i hi k hk => by
    rw [hasB_orB, hL k hk]
    simp
    omega
  -- one that is taken first
  have take : ∀ i (p : Prop) v, i ∈ Region.ready .any ops (listedOf ops.size L) → (∀ oi, ops[i]? = some oi → ∀ (j : Nat) (oj : Oper), ops[j]? = some oj → j ≠ i → (listedOf ops.size L).getD j true = false → (∀ e ∈ oj.after, Region.binds .any e = true → e.on ≠ i) → oi.apart ops oj = true) →
      (∃ q, takeV P wr ops h0 f i = some (q, v) ∧ q.getD True = p) → p →
      rec (orB i L) (setP f ops i v) m s →
      wpAnyL P .any ops (QR K n ν0 R w0) (fun w => Sat w (h0.den ν0 * R)) (loose ops) (fuel + 1) (listedOf ops.size L) (actOf ν f) w := by
    rintro i p v hr hfree ⟨q, ht, hq⟩ hp h
    unfold takeV at ht
    split at ht <;> try cases ht
    rename_i o ho
    have hi : i < ops.size := (Array.getElem?_eq_some_iff.1 ho).1
    have hset : setP f ops i v = f.set o.dst v := by simp [setP, ho]
    rw [hset] at h
    have hS' : (∃ j o, ops[j]? = some o ∧ isLoad o = true ∧ (listedOf ops.size (orB i L)).getD j true = false) → Sat w (h0.den ν0 * R) := by
      rintro ⟨j, oj, hj, hl, hun⟩
      refine hS ⟨j, oj, hj, hl, ?_⟩
      rw [← listedOf_set hi] at hun
      by_cases hji : i = j
      · subst hji
        simp [hi, listedOf] at hun
      · rw [getD_set_ne true hji] at hun; exact hun
    have IH := IH (orB i L) (f.set o.dst v) m s h (hLi i hi) hn ν w ag H HK hS'
    rw [← actOf_put, ← listedOf_set hi] at IH
    have hQ : ∀ c a w, QR K n ν0 R w0 (.panic c) (a.put o.dst (v.den ν)) w → QR K n ν0 R w0 (.panic c) a w := fun _ _ _ h => h
    have hfr := hfree o ho
    split at ht
    · rename_i hw
      simp only [Option.some.injEq, Prod.mk.injEq] at ht
      obtain ⟨_, rfl⟩ := ht
      exact wpAnyL_pure ho (Region.noSelect_spec hsel) hQ fuel _ _ w hfr hr (.inr ⟨wantedS_sound hw ν, rfl⟩) IH
    · rename_i hw
      have hgives : (evalOp P (wr (o.dst.getD 0)) f (bif isLoad o then h0 else []) o).gives v := by
        split at ht
        · rename_i u he
          simp only [Option.some.injEq, Prod.mk.injEq] at ht
          obtain ⟨_, rfl⟩ := ht
          rw [he]; rfl
        · rename_i p' u he
          simp only [Option.some.injEq, Prod.mk.injEq] at ht
          obtain ⟨rfl, rfl⟩ := ht
          rw [he]
          simp only [Option.getD_some] at hq
          subst hq
          exact ⟨hp, rfl⟩
        · cases ht
      cases hl : isLoad o <;> rw [hl] at hgives
      · simp only [cond_false] at hgives
        refine wpAnyL_pure ho (Region.noSelect_spec hsel) hQ fuel _ _ w hfr hr (.inl ⟨wantedS_sound hw ν, fun w' _ => ?_⟩) IH
        exact evalOp_sound (R := 1) hgives (Sat.top w')
      · simp only [cond_true] at hgives
        have hun := (mem_ready.1 hr).1
        refine wpAnyL_load ho (Region.noSelect_spec hsel) hQ ?_ fuel _ _ w hfr hr (.inl ⟨wantedS_sound hw ν, fun w' hw' => ?_⟩) (hS ⟨i, o, ho, hl, hun⟩) IH
        · intro j oj hj hji hno
          unfold loose
          rw [hj]
          simp only [List.any_eq_true, List.mem_range]
          refine ⟨i, hi, ?_⟩
          rw [ho]
          simp only [hl, Bool.true_and, Bool.and_eq_true, Bool.not_eq_true', beq_eq_false_iff_ne, ne_eq]
          refine ⟨fun e => hji e.symm, ?_⟩
          unfold waitsB
          rw [Array.any_eq_false]
          intro k hk hcon
          simp only [Bool.and_eq_true, beq_iff_eq] at hcon
          exact hno _ (Array.getElem_mem hk) hcon.1 hcon.2
        · rw [← hden] at hw'
          exact evalOp_sound hgives hw'
    · cases ht
  unfold stepB at h
  split at h
  · rename_i i v ht
    obtain ⟨j, d, hd, hij, hr, hcf, ht⟩ := firstD_mem ht
    rw [Nat.zero_add] at hij
    subst hij
    exact take i True v (readyB_ready hL hd hr) (fun oi hoi => conf_free hd hoi hcf) ⟨none, ht, rfl⟩ trivial h
  · rename_i i p v ht
    obtain ⟨j, d, hd, hij, hr, hcf, ht⟩ := firstD_mem ht
    rw [Nat.zero_add] at hij
    subst hij
    exact take i p v (readyB_ready hL hd hr) (fun oi hoi => conf_free hd hoi hcf) ⟨some p, ht, rfl⟩ h.1 h.2
  · exact ho h hn ν w ag H HK hS
theorem goB_sound (hc : CallOk P call) (hf : NamesOk P) (hb : n ≤ base) (hnd : nodupB (List.map (fun p => p.1) h0) = true) (hlt : h0.names.all (fun m => Nat.blt m n) = true) {fuel L : Nat} {f : SF} {m : Mem E} {s : Scr E} {rec : Nat → SF → Mem E → Scr E → Prop}
    (hL : ∀ k, ops.size ≤ k → hasB L k = false) (IH : ∀ L f m s, rec L f m s → (∀ k, ops.size ≤ k → hasB L k = false) → AnyOk P ops n ν0 w0 R K h0 fuel L f m)
    (h : goB P call wr ops base top h0 (digest ops) L f m s K rec) : AnyOk P ops n ν0 w0 R K h0 (fuel + 1) L f m := by
  intro hn ν w ag H HK hS
  have hLi : ∀ i, i < ops.size → ∀ k, ops.size ≤ k → hasB (orB i L) k = false := fun i hi k hk => by
    rw [hasB_orB, hL k hk]
    simp
    omega
  unfold goB at h
  have hmem : ∀ j, j ∈ Region.ready .any ops (listedOf ops.size L) → j ∈ readyD L (digest ops) 0 := fun j hj => ready_readyD hj
  split at h
  · rename_i hr
    exact ⟨fun _ => ⟨f, m, s, ν, h, ag, hn, rfl, H, HK⟩, fun i hi => by have := hmem i hi; rw [hr] at this; cases this⟩
  · rename_i i l hr
    have hne : Region.ready .any ops (listedOf ops.size L) ≠ [] := fun e => by
      have h1 : i ∈ readyD L (digest ops) 0 := by rw [hr]; exact List.mem_cons_self
      obtain ⟨j, d, hd, hij, hrb⟩ := readyD_mem.1 h1
      rw [Nat.zero_add] at hij
      subst hij
      have := readyB_ready hL hd hrb
      rw [e] at this
      cases this
    refine ⟨fun e => absurd e hne, fun j hj => ?_⟩
    have hV : (fun i => match ops[i]? with
      | some o => guardE ops f s o
          (fun f s => opE P call wr f m s (base + i) top o fun f m s => bif (((digest ops)[i]?).map Dg.lo).getD true then subH h0 m.hp (rec (orB i L) f m s) else rec (orB i L) f m s)
          (fun f s => rec (orB i L) (f.set o.dst .und) m s)
      | none => Stuck 371) j := by
      have hj' := hmem j hj
      rw [hr] at hj'
      cases hj' with
      | head => exact h.1
      | tail _ hm => exact restP_mem h.1 h.2 j hm
    clear h
    simp only at hV
    obtain ⟨hun, oj, hoj, hall⟩ := mem_ready.1 hj
    have hjs : j < ops.size := (Array.getElem?_eq_some_iff.1 hoj).1
    have hlo : (((digest ops)[j]?).map Dg.lo).getD true = loose ops j := by
      rw [digest_get hoj]
      simp only [Option.map_some, Option.getD_some, Dg.lo]
      exact loose_has hoj
    rw [hlo] at hV
    simp only [hoj] at hV
    rw [listedOf_set hjs]
    -- what is known of the loads behind it
    have next : ∀ w', (loose ops j = true → Sat w' (h0.den ν0 * R)) → (∃ i o, ops[i]? = some o ∧ isLoad o = true ∧ (listedOf ops.size (orB j L)).getD i true = false) → Sat w' (h0.den ν0 * R) := by
      rintro w' hJ ⟨k, ok, hk, hl, hkun⟩
      refine hJ ?_
      have hi : k < ops.size := (Array.getElem?_eq_some_iff.1 hk).1
      rw [listedOf_getD, if_pos hi, hasB_orB] at hkun
      simp only [Bool.or_eq_false_iff, decide_eq_false_iff_not] at hkun
      unfold loose
      rw [hoj]
      simp only [List.any_eq_true, List.mem_range]
      refine ⟨k, hi, ?_⟩
      rw [hk]
      simp only [hl, Bool.true_and, Bool.and_eq_true, Bool.not_eq_true', beq_eq_false_iff_ne, ne_eq]
      refine ⟨fun e => hkun.1 e.symm, ?_⟩
      unfold waitsB
      rw [Array.any_eq_false]
      intro e he hcon
      simp only [Bool.and_eq_true, beq_iff_eq] at hcon
      have h1 := hall _ (Array.getElem_mem he) hcon.1
      rw [hcon.2, listedOf_getD, if_pos hi, hkun.2] at h1
      cases h1
    unfold wpOp
    simp only [hoj]
    obtain ⟨f', s', hf', hg | hg⟩ := guardE_sound hV ν
    · rw [if_pos hg.1, ← hf']
      refine .inl (Oper.wp_mono (fun a w' hgood => ?_) (opE_sound hc hf hn (Nat.le_trans hb (Nat.le_add_right _ _)) hg.2 H HK _))
      obtain ⟨f2, m2, s2, μ, k, ag2, hn2, rfl, H2, HK2⟩ := hgood
      have ag3 := ag.trans ag2 (Nat.le_refl _)
      have hden2 : h0.den μ = h0.den ν0 := (SH.den_eq h0 (names_lt hlt ag3)).symm
      cases hJ : loose ops j <;> rw [hJ] at k
      · simp only [cond_false] at k
        exact ⟨(fun _ h => by cases h), IH _ f2 m2 s2 k (hLi j hjs) hn2 μ w' ag3 H2 HK2 (next w' (fun h => by rw [hJ] at h; cases h))⟩
      · simp only [cond_true] at k
        have hS2 : Sat w' (h0.den ν0 * R) := by
          rw [← hden2]
          exact subH_sat k hnd H2
        exact ⟨fun _ _ => hS2, IH _ f2 m2 s2 (subH_img k).2 (hLi j hjs) hn2 μ w' ag3 H2 HK2 (next w' fun _ => hS2)⟩
    · rw [if_neg (by simp [hg.1])]
      refine ⟨fun h _ => h, ?_⟩
      rw [← hf', ← SV.den_und ν, actOf_put]
      refine IH _ _ m s' hg.2 (hLi j hjs) hn ν w ag H HK ?_
      rintro ⟨k, ok, hk, hl, hkun⟩
      refine hS ⟨k, ok, hk, hl, ?_⟩
      have hi : k < ops.size := (Array.getElem?_eq_some_iff.1 hk).1
      rw [listedOf_getD, if_pos hi, hasB_orB] at hkun
      simp only [Bool.or_eq_false_iff] at hkun
      rw [listedOf_getD, if_pos hi]
      exact hkun.2
end
theorem anyE_sound {call : CallF E} (hc : CallOk P call) (hf : NamesOk P) {wr : Nat → Bool} {ops : Array Oper} (hsel : Region.noSelect ops = true) {base top n : Nat} (hb : n ≤ base) {ν0 : Nat → Nat} {w0 : World} {R : Assn} {K : KO E} {h0 : SH E}
    (hnd : nodupB (List.map (fun p => p.1) h0) = true) (hlt : h0.names.all (fun m => Nat.blt m n) = true) :
    ∀ (fuel L : Nat) (f : SF) (m : Mem E) (s : Scr E), anyE P call wr ops base top h0 (digest ops) fuel L f m s K → (∀ k, ops.size ≤ k → hasB L k = false) → AnyOk P ops n ν0 w0 R K h0 fuel L f m
  | 0, L, f, m, s, h, hL => by
    intro hn ν w ag H HK hS
    simp only [anyE] at h
    split at h
    · rename_i hr
      refine ⟨?_, f, m, s, ν, h, ag, hn, rfl, H, HK⟩
      cases hl : Region.ready .any ops (listedOf ops.size L) with
      | nil => rfl
      | cons x l =>
        have := ready_readyD (i := x) (by rw [hl]; exact List.mem_cons_self)
        rw [hr] at this
        cases this
    · exact h.elim
  | fuel + 1, L, f, m, s, h, hL => by
    simp only [anyE] at h
    rw [outN_eq] at h
    have IH : ∀ L f m s, anyE P call wr ops base top h0 (digest ops) fuel L f m s K → (∀ k, ops.size ≤ k → hasB L k = false) → AnyOk P ops n ν0 w0 R K h0 fuel L f m := anyE_sound hc hf hsel hb hnd hlt fuel
    refine stepB_sound hsel hlt hL IH h fun h => ?_
    split at h
    · rename_i t q hg
      have hat := firstG_at hg
      intro hn ν w ag H HK hS
      rcases onTest_sound h with ⟨hq, s', h'⟩ | ⟨hq, s', h'⟩ <;> subst hq <;> rw [← actOf_lit hat] <;>
        exact stepB_sound hsel hlt hL IH h' (goB_sound hc hf hb hnd hlt hL IH) hn ν w ag H HK hS
    · exact goB_sound hc hf hb hnd hlt hL IH h
end
end Go.Proofs.Ytohijcgbfcahhaa
