/- A chain that is laid entry by entry: what it lists. -/
import Derived.Test.YtcmoffcaiepgbaaHeadT
import Derived.Test.YtcmoffcaiepgbaaBaseG
import Derived.Test.YtcmoffcaiepgbaaQuadM
import Derived.Test.YtcmoffcaiepgbaaBaseC
import Derived.Test.YtcmoffcaiepgbaaBaseS
import Derived.Test.YtcmoffcaiepgbaaBaseQ
set_option linter.all false
namespace Go.Proofs.Ytcmoffcaiepgbaa
open Go Go.RowKit
set_option maxRecDepth 100000
theorem hwds_app {ks : List (Nat × List Nat)} {h : Nat} {ws : List Nat} {c : Nat} (hc : hwds ks c ≠ []) : hwds (ks ++ [(h, ws)]) c = hwds ks c := by
  unfold hwds at hc ⊢
  rw [List.find?_append]
  cases hf : ks.find? (fun b => b.1 == c) with
  | none => rw [hf] at hc; exact absurd rfl hc
  | some b => rfl
theorem hwds_new {ks : List (Nat × List Nat)} {h : Nat} {ws : List Nat} (hk : ∀ b ∈ ks, b.1 < h) : hwds (ks ++ [(h, ws)]) h = ws := by
  unfold hwds
  rw [List.find?_append]
  have : ks.find? (fun b => b.1 == h) = none := List.find?_eq_none.2 fun b hb e => by
    have := hk b hb
    have e := eq_of_beq e
    omega
  rw [this]
  simp
theorem enOk_ne {ws : List Nat} (h : enOkF ws.length (wsF ws) = true) : ws ≠ [] := by
  rintro rfl
  cases h
/-- What is listed stays listed when a block more is laid. -/
theorem chain_keep {ks : List (Nat × List Nat)} {h : Nat} {ws : List Nat} {r : List Ent} : ∀ (m c : Nat) (l : List Ent), chainF ks m c l = some r → chainF (ks ++ [(h, ws)]) m c l = some r
  | 0, c, l, hc => by cases hc
  | m + 1, c, l, hc => by
    unfold chainF at hc ⊢
    by_cases h0 : c = 0
    · rw [if_pos h0] at hc ⊢; exact hc
    · rw [if_neg h0] at hc ⊢
      by_cases h1 : enOkF (hwds ks c).length (wsF (hwds ks c)) = true ∧ l.length < 1000
      · rw [if_pos h1] at hc
        have e := hwds_app (h := h) (ws := ws) (enOk_ne h1.1)
        have e2 : entE (ks ++ [(h, ws)]) c = entE ks c := by unfold entE; rw [e]
        rw [e, if_pos h1, e2]
        exact chain_keep m _ _ hc
      · rw [if_neg h1] at hc; cases hc
/-- The entries of the last k of n. -/
def entsH (S N : Nat → Int) (n : Nat) : Nat → List Ent
  | 0 => []
  | k + 1 => ((k + 1) * 65537, S (n - 1 - k), N (n - 1 - k), ((k * 65537 : Nat) : Int)) :: entsH S N n k
theorem entsH_len (S N : Nat → Int) (n : Nat) : ∀ k, (entsH S N n k).length = k
  | 0 => rfl
  | k + 1 => by simp [entsH, entsH_len S N n k]
theorem entsH_get (S N : Nat → Int) (n : Nat) (d : Ent) : ∀ k i, i < k → k ≤ n → (entsH S N n k).getD i d = ((k - i) * 65537, S (n - k + i), N (n - k + i), (((k - i - 1) * 65537 : Nat) : Int))
  | 0, i, h, _ => absurd h (Nat.not_lt_zero i)
  | k + 1, 0, _, hn => by
    have e : n - (k + 1) + 0 = n - 1 - k := by omega
    rw [e]
    rfl
  | k + 1, i + 1, h, hn => by
    have ih := entsH_get S N n d k i (by omega) (by omega)
    have e : n - (k + 1) + (i + 1) = n - k + i := by omega
    have e2 : k + 1 - (i + 1) = k - i := by omega
    rw [e, e2, ← ih]
    rfl
/-- An arena with the last k of n entries. -/
structure HC (S N : Nat → Int) (n : Nat) (A : Ar) (k : Nat) : Prop where
  cap : A.cap = 60000
  used : A.used = 3 * k
  back : A.s.back = []
  births : A.births = k
  high : A.s.high = k
  hs : ∀ b ∈ blksOf A, b.1 < (k + 1) * 65537
  ch : ∀ m l, l.length + k ≤ 1000 → chainF (blksOf A) (m + k + 1) (k * 65537) l = some (l ++ entsH S N n k)
theorem HC.new (S N : Nat → Int) (n : Nat) : HC S N n (Ar.new 60000) 0 := by
  refine ⟨rfl, rfl, rfl, rfl, rfl, (fun b hb => by cases hb), ?_⟩
  intro m l _
  rw [Nat.zero_mul]
  unfold chainF
  rw [if_pos rfl, entsH, List.append_nil]
theorem blksOf_lay (A : Ar) (ws : List Nat) (v : Value) : blksOf (A.lay ws v) = blksOf A ++ [(layH A, ws)] := by
  simp [blksOf, Ar.lay]
section
variable {S N : Nat → Int} {n k : Nat} {A : Ar}
theorem HC.layH (h : HC S N n A k) : layH A = (k + 1) * 65537 := by
  unfold Go.Proofs.Ytcmoffcaiepgbaa.layH
  rw [h.births, h.high]
  omega
theorem entB_slot {s t x : Int} (h : entB s t x = true) : 0 ≤ s ∧ s ≤ 254 := by
  unfold entB at h
  simp only [Bool.and_eq_true, decide_eq_true_eq] at h
  exact h.2.1
theorem HC.lay (h : HC S N n A k) (hk : k < n) (hn : n ≤ 200) (ho : entB (S (n - 1 - k)) (N (n - 1 - k)) ((k * 65537 : Nat) : Int) = true) (hN : 0 ≤ N (n - 1 - k)) (v : Value) :
    HC S N n (A.lay [(S (n - 1 - k)).toNat, (N (n - 1 - k)).toNat, k * 65537] v) (k + 1) := by
  have hS := entB_slot ho
  have hl := h.layH
  refine ⟨h.cap, ?_, ?_, ?_, ?_, ?_, ?_⟩
  · show A.used + 3 = _
    rw [h.used]; omega
  · exact h.back
  · show A.births + 1 = _
    rw [h.births]
  · show A.s.high + 1 = _
    rw [h.high]
  · intro b hb
    rw [blksOf_lay] at hb
    rcases List.mem_append.1 hb with hb | hb
    · have := h.hs b hb
      exact Nat.lt_of_lt_of_le this (Nat.mul_le_mul_right _ (Nat.le_succ _))
    · have e := List.mem_singleton.1 hb
      subst e
      show Go.Proofs.Ytcmoffcaiepgbaa.layH A < _
      rw [hl]; omega
  · intro m l hm
    rw [blksOf_lay, hl]
    have hw : hwds (blksOf A ++ [((k + 1) * 65537, [(S (n - 1 - k)).toNat, (N (n - 1 - k)).toNat, k * 65537])]) ((k + 1) * 65537) = [(S (n - 1 - k)).toNat, (N (n - 1 - k)).toNat, k * 65537] := hwds_new h.hs
    have es : (((S (n - 1 - k)).toNat : Nat) : Int) = S (n - 1 - k) := Int.toNat_of_nonneg hS.1
    have en : (((N (n - 1 - k)).toNat : Nat) : Int) = N (n - 1 - k) := Int.toNat_of_nonneg hN
    have esm : smF (S (n - 1 - k)) = S (n - 1 - k) := if_neg (by omega)
    have ho2 : enOkF 3 (wsF [(S (n - 1 - k)).toNat, (N (n - 1 - k)).toNat, k * 65537]) = true := by
      show entB (smF (((S (n - 1 - k)).toNat : Nat) : Int)) (((N (n - 1 - k)).toNat : Nat) : Int) ((k * 65537 : Nat) : Int) = true
      rw [es, en, esm]
      exact ho
    have hX : enXF 3 (wsF [(S (n - 1 - k)).toNat, (N (n - 1 - k)).toNat, k * 65537]) = ((k * 65537 : Nat) : Int) := if_pos ho2
    have hSS : enSF 3 (wsF [(S (n - 1 - k)).toNat, (N (n - 1 - k)).toNat, k * 65537]) = S (n - 1 - k) := by
      refine (if_pos ho2).trans ?_
      show smF (((S (n - 1 - k)).toNat : Nat) : Int) = _
      rw [es, esm]
    have hNN : enNF 3 (wsF [(S (n - 1 - k)).toNat, (N (n - 1 - k)).toNat, k * 65537]) = N (n - 1 - k) := (if_pos ho2).trans en
    have hE : entE (blksOf A ++ [((k + 1) * 65537, [(S (n - 1 - k)).toNat, (N (n - 1 - k)).toNat, k * 65537])]) ((k + 1) * 65537) = ((k + 1) * 65537, S (n - 1 - k), N (n - 1 - k), ((k * 65537 : Nat) : Int)) := by
      unfold entE
      rw [hw]
      show ((k + 1) * 65537, enSF 3 _, enNF 3 _, enXF 3 _) = _
      rw [hX, hSS, hNN]
    have hst : chainF (blksOf A ++ [((k + 1) * 65537, [(S (n - 1 - k)).toNat, (N (n - 1 - k)).toNat, k * 65537])]) (m + (k + 1) + 1) ((k + 1) * 65537) l =
        chainF (blksOf A ++ [((k + 1) * 65537, [(S (n - 1 - k)).toNat, (N (n - 1 - k)).toNat, k * 65537])]) (m + (k + 1)) (k * 65537) (l ++ [((k + 1) * 65537, S (n - 1 - k), N (n - 1 - k), ((k * 65537 : Nat) : Int))]) := by
      rw [show m + (k + 1) + 1 = (m + (k + 1)) + 1 from rfl]
      rw [chainF]
      rw [if_neg (by omega), hw, hE]
      show (if enOkF 3 _ = true ∧ l.length < 1000 then chainF _ _ (enXF 3 _).toNat _ else none) = _
      rw [if_pos ⟨ho2, by omega⟩, hX, Int.toNat_natCast]
    rw [hst]
    have := chain_keep (h := (k + 1) * 65537) (ws := [(S (n - 1 - k)).toNat, (N (n - 1 - k)).toNat, k * 65537]) _ _ _ (h.ch m (l ++ [((k + 1) * 65537, S (n - 1 - k), N (n - 1 - k), ((k * 65537 : Nat) : Int))]) (by simp; omega))
    rw [show m + (k + 1) = m + k + 1 by omega, this]
    simp [entsH]
/-- All that is laid is listed. -/
theorem HC.chain (h : HC S N n A k) (hk : k ≤ 200) : chain A (k * 65537) = some (entsH S N n k) := by
  have := h.ch (1000 - k) [] (by simp; omega)
  rw [show 1000 - k + k + 1 = 1001 by omega] at this
  unfold Go.Proofs.Ytcmoffcaiepgbaa.chain
  rw [this]
  rfl
end
end Go.Proofs.Ytcmoffcaiepgbaa

/- What the executor knows of entries behind a cursor, told by functions. -/
namespace Go.Proofs.Ytcmoffcaiepgbaa
open Go Go.RowKit
def hlistX : Smry Try.prog XE where
  g := 46
  run := fun args m K => match args with
    | [.c (.ptr n 0), .c (.int _ .u64 cur _)] => match m.hp.get n with
      | some (.ext (.ar A)) => (0 ≤ cur ∧ cur < 18446744073709551616) ∧ A.s.back.length ≤ 70000 ∧
          (chain A cur.toNat = none → K (.tup [(false, [.nls]), okB false]) m) ∧
          (chain A cur.toNat = some [] → K (.tup [(false, [.nls]), okB true]) m) ∧
          (∀ l, chain A cur.toNat = some l → ∀ cap, l.length ≤ cap →
            bif newOk m (.vals 77 3 l.length cap (entV l)) then
              K (.tup [(false, [.sli m.nx 3 true 0 false l.length cap]), okB true]) (withNew m (.vals 77 3 l.length cap (entV l))) else Stuck 840)
      | _ => Stuck 841
    | _ => Stuck 842
  ok := fun args m K hr => by
    split at hr <;> try exact hr.elim
    rename_i n _ cur _
    split at hr <;> try exact hr.elim
    rename_i A hA
    obtain ⟨⟨hr0, hr1⟩, hb, k0, k1, k2⟩ := hr
    obtain ⟨z, rfl⟩ : ∃ z : Nat, cur = z := ⟨cur.toNat, by omega⟩
    simp only [Int.toNat_natCast] at *
    refine gives_rowK hA (T := 77) (k := 3) (cnt := ((chain A z).getD []).length) (xs := ecells ((chain A z).getD [])) (bo := (chain A z).isSome) (fun ν w R H => (hlist_calls (ν n) A z w H (by unfold TW; omega) hb).mono fun e w' h => hlist_bo h) ?_ ?_ ?_
    · intro h
      cases hc : chain A z with
      | none => exact k0 hc
      | some l => rw [hc] at h; cases h
    · intro h hl
      cases hc : chain A z with
      | none => rw [hc] at h; cases h
      | some l =>
        rw [hc] at hl
        have : l = [] := List.length_eq_zero_iff.1 hl
        subst this
        exact k1 hc
    · intro h cap hcap
      cases hc : chain A z with
      | none => rw [hc] at h; cases h
      | some l =>
        rw [hc] at hcap
        simp only [Option.getD_some] at hcap ⊢
        have hk := k2 l hc cap hcap
        cases hn : newOk m (SO.vals 77 3 l.length cap (entV l) : SO XE) <;> rw [hn] at hk
        · exact hk.elim
        refine ⟨_, false, fun ν b w R H => ?_, hn, hk⟩
        simp only [SO.den]
        rw [Assn.mul_assoc]
        exact Sat.mk_pure_mul (fun i _ => rfl) H
def hhandlesX : Smry Try.prog XE where
  g := 47
  run := fun args m K => match args with
    | [.c (.ptr n 0), .c (.int _ .u64 cur _)] => match m.hp.get n with
      | some (.ext (.ar A)) => (0 ≤ cur ∧ cur < 18446744073709551616) ∧ A.s.back.length ≤ 70000 ∧
          (chain A cur.toNat = none → K (.tup [(false, [.nls]), okB false]) m) ∧
          (chain A cur.toNat = some [] → K (.tup [(false, [.nls]), okB true]) m) ∧
          (∀ l, chain A cur.toNat = some l → ∀ cap, l.length ≤ cap →
            bif newOk m (.ints 25 .u64 l.length cap (entC l)) then
              K (.tup [(false, [.sli m.nx 1 true 0 false l.length cap]), okB true]) (withNew m (.ints 25 .u64 l.length cap (entC l))) else Stuck 840)
      | _ => Stuck 841
    | _ => Stuck 842
  ok := fun args m K hr => by
    split at hr <;> try exact hr.elim
    rename_i n _ cur _
    split at hr <;> try exact hr.elim
    rename_i A hA
    obtain ⟨⟨hr0, hr1⟩, hb, k0, k1, k2⟩ := hr
    obtain ⟨z, rfl⟩ : ∃ z : Nat, cur = z := ⟨cur.toNat, by omega⟩
    simp only [Int.toNat_natCast] at *
    refine gives_rowK hA (T := 25) (k := 1) (cnt := ((chain A z).getD []).length) (xs := ccells ((chain A z).getD [])) (bo := (chain A z).isSome) (fun ν w R H => (hhandles_calls (ν n) A z w H (by unfold TW; omega) hb).mono fun e w' h => hhandles_bo h) ?_ ?_ ?_
    · intro h
      cases hc : chain A z with
      | none => exact k0 hc
      | some l => rw [hc] at h; cases h
    · intro h hl
      cases hc : chain A z with
      | none => rw [hc] at h; cases h
      | some l =>
        rw [hc] at hl
        have : l = [] := List.length_eq_zero_iff.1 hl
        subst this
        exact k1 hc
    · intro h cap hcap
      cases hc : chain A z with
      | none => rw [hc] at h; cases h
      | some l =>
        rw [hc] at hcap
        simp only [Option.getD_some] at hcap ⊢
        have hk := k2 l hc cap hcap
        cases hn : newOk m (SO.ints 25 .u64 l.length cap (entC l) : SO XE) <;> rw [hn] at hk
        · exact hk.elim
        refine ⟨_, false, fun ν b w R H => ?_, hn, hk⟩
        simp only [SO.den]
        exact H
theorem chainF_len {ks : List (Nat × List Nat)} : ∀ (m c : Nat) (l r : List Ent), chainF ks m c l = some r → l.length ≤ r.length ∧ (c ≠ 0 → l.length < r.length)
  | 0, _, _, _, h => by cases h
  | m + 1, c, l, r, h => by
    unfold chainF at h
    by_cases h0 : c = 0
    · rw [if_pos h0] at h
      have := Option.some.inj h
      subst this
      exact ⟨Nat.le_refl _, fun e => absurd h0 e⟩
    · rw [if_neg h0] at h
      split at h
      · have h2 := (chainF_len m _ _ _ h).1
        have e : (l ++ [entE ks c]).length = l.length + 1 := by simp
        rw [e] at h2
        exact ⟨by omega, fun _ => h2⟩
      · cases h
theorem chain_pos {A : Ar} {cur : Nat} (h : cur ≠ 0) : chain A cur ≠ some [] := fun e => by
  have := (chainF_len _ _ _ _ e).2 h
  exact absurd this (Nat.not_lt_zero _)
/-- The same; of a cursor that is no numeral, known to be no nought. -/
def hlistC : Smry Try.prog XE where
  g := 46
  run := fun args m K => match args with
    | [.c (.ptr n 0), .c (.int false .u64 cur _)] => match m.hp.get n with
      | some (.ext (.ar A)) => (0 < cur ∧ cur < 18446744073709551616) ∧ A.s.back.length ≤ 70000 ∧
          (chain A cur.toNat = none → K (.tup [(false, [.nls]), okB false]) m) ∧
          (∀ l, chain A cur.toNat = some l → ∀ cap, l.length ≤ cap →
            bif newOk m (.vals 77 3 l.length cap (entV l)) then
              K (.tup [(false, [.sli m.nx 3 true 0 false l.length cap]), okB true]) (withNew m (.vals 77 3 l.length cap (entV l))) else Stuck 840)
      | _ => Stuck 841
    | _ => hlistX.run args m K
  ok := fun args m K hr => by
    split at hr
    · rename_i n cur bd
      split at hr <;> try exact hr.elim
      rename_i A hA
      obtain ⟨⟨h0, h1⟩, hb, k0, k2⟩ := hr
      refine hlistX.ok _ _ _ ?_
      show (match m.hp.get n with | some (.ext (.ar A)) => _ | _ => _)
      rw [hA]
      exact ⟨⟨by omega, h1⟩, hb, k0, fun e => absurd e (chain_pos (by omega)), k2⟩
    · exact hlistX.ok _ _ _ hr
def hhandlesC : Smry Try.prog XE where
  g := 47
  run := fun args m K => match args with
    | [.c (.ptr n 0), .c (.int false .u64 cur _)] => match m.hp.get n with
      | some (.ext (.ar A)) => (0 < cur ∧ cur < 18446744073709551616) ∧ A.s.back.length ≤ 70000 ∧
          (chain A cur.toNat = none → K (.tup [(false, [.nls]), okB false]) m) ∧
          (∀ l, chain A cur.toNat = some l → ∀ cap, l.length ≤ cap →
            bif newOk m (.ints 25 .u64 l.length cap (entC l)) then
              K (.tup [(false, [.sli m.nx 1 true 0 false l.length cap]), okB true]) (withNew m (.ints 25 .u64 l.length cap (entC l))) else Stuck 840)
      | _ => Stuck 841
    | _ => hhandlesX.run args m K
  ok := fun args m K hr => by
    split at hr
    · rename_i n cur bd
      split at hr <;> try exact hr.elim
      rename_i A hA
      obtain ⟨⟨h0, h1⟩, hb, k0, k2⟩ := hr
      refine hhandlesX.ok _ _ _ ?_
      show (match m.hp.get n with | some (.ext (.ar A)) => _ | _ => _)
      rw [hA]
      exact ⟨⟨by omega, h1⟩, hb, k0, fun e => absurd e (chain_pos (by omega)), k2⟩
    · exact hhandlesX.ok _ _ _ hr
end Go.Proofs.Ytcmoffcaiepgbaa

/- Two slices of words, compared. -/
namespace Go.Proofs.Ytcmoffcaiepgbaa
open Go Go.RowKit
set_option maxRecDepth 1000000
set_option maxHeartbeats 0
def weqF (n1 : Nat) (f : Nat → Int) (n2 : Nat) (g : Nat → Int) : Int := if n1 = n2 ∧ ∀ i, i < n1 → f i = g i then 1 else 0
theorem weqF_one {n1 n2 : Nat} {f g : Nat → Int} (h : n1 = n2) (he : ∀ i, i < n1 → f i = g i) : weqF n1 f n2 g = 1 := if_pos ⟨h, he⟩
theorem weqF_len {n1 n2 : Nat} {f g : Nat → Int} (h : n1 ≠ n2) : weqF n1 f n2 g = 0 := if_neg fun e => h e.1
theorem weqF_at {n1 n2 : Nat} {f g : Nat → Int} {i : Nat} (hi : i < n1) (h : f i ≠ g i) : weqF n1 f n2 g = 0 := if_neg fun e => h (e.2 i hi)
abbrev WY (n : Nat) (f g : Nat → Int) : Type := {i : Nat // i ≤ n ∧ ∀ j, j < i → f j = g j}
def wordsL (n : Nat) (f g : Nat → Int) : Scr XE := .inv (liveL [0, 1, 4, 12, 13]) [] (WY n f g) (fun _ y => ([(13, .c (.int false .i64 (y.1 : Int)))], [])) (fun y => n - y.1) (fun _ => .nil)
theorem rowAt_head' {w : World} {T : TypeId} {n cap g : Nat} {xs : List Value} {Q : Assn} (hx : xs.length = n) (H : Sat w (rowHead g T 1 n cap xs * Q)) : Sat w (rowAt T (.slice (some ⟨g, 0, none⟩) n cap) xs * Q) := head_rowAt hx H
def wsM (b : Nat) (n c : Nat) (f : Nat → Int) : Nat × SO XE := (b, .ints 25 .u64 n c f)
abbrev Wd (n : Nat) (f : Nat → Int) : Prop := ∀ i, i < n → 0 ≤ f i ∧ f i ≤ 18446744073709551615
/-- What the executor leaves to be shown of roundelay/roundelaylaw04.Words, written out. -/
theorem wNN_vc (f g : Nat → Int) : (callN Try.prog ([] : List (Smry Try.prog XE)) (fun _ _ => false) 100 20 39 [.c .nls, .c .nls] ⟨[], 100⟩ (.nil) (fun v m _ => outM (.c (.int false .i64 (weqF 0 f 0 g))) [] v m)) = (
    weqF (0 : Nat) f (0 : Nat) g = (1 : Int) ∧ True) := by
  kernel_rfl
theorem wNN_run (f g : Nat → Int) (hc : True) : Run (callN Try.prog ([] : List (Smry Try.prog XE)) (fun _ _ => false) 100 20 39 [.c .nls, .c .nls] ⟨[], 100⟩ (.nil) (fun v m _ => outM (.c (.int false .i64 (weqF 0 f 0 g))) [] v m)) := by
  constructor
  rw [wNN_vc]
  repeat' first
    | with_reducible apply And.intro
    | with_reducible exact trivial
    | with_reducible assumption
    | with_reducible exact Eq.refl _
    | (intro (K : KO XE); simp only [eq_self, true_and, and_true, forall_const, true_implies, and_imp]; intros; (repeat' first | with_reducible apply And.intro | with_reducible assumption); done)
    | (intro hh; first | with_reducible have hq := of_decide_eq_true hh | with_reducible have hq := of_decide_eq_false hh | with_reducible have hq := beq_eq_false_iff_ne.1 hh | with_reducible have hq := bne_iff_ne.1 hh | with_reducible have hq := bne_eq_false_iff_eq.1 hh | skip)

  all_goals first
    | exact weqF_one rfl (fun i hi => absurd hi (Nat.not_lt_zero i))
    | skip
/-- What the executor leaves to be shown of roundelay/roundelaylaw04.Words, written out. -/
theorem wNS_vc (f : Nat → Int) (n c : Nat) (g : Nat → Int) : (callN Try.prog ([] : List (Smry Try.prog XE)) (fun _ _ => false) 100 20 39 [.c .nls, .c (.sli 1 1 true 0 false n c)] ⟨[wsM 1 n c g], 100⟩ (.nil) (fun v m _ => outM (.c (.int false .i64 (weqF 0 f n g))) [wsM 1 n c g] v m)) = (
    (((0 : Int) != (↑n : Int)) = true → weqF (0 : Nat) f n g = (0 : Int) ∧ (n = n ∧ c = c ∧ ∀ (i : Nat), i < n → g i = g i) ∧ True) ∧ (((0 : Int) != (↑n : Int)) = false → weqF (0 : Nat)
    f n g = (1 : Int) ∧ (n = n ∧ c = c ∧ ∀ (i : Nat), i < n → g i = g i) ∧ True)) := by
  kernel_rfl
theorem wNS_run (f : Nat → Int) (n c : Nat) (g : Nat → Int) (hc : Wd n g) : Run (callN Try.prog ([] : List (Smry Try.prog XE)) (fun _ _ => false) 100 20 39 [.c .nls, .c (.sli 1 1 true 0 false n c)] ⟨[wsM 1 n c g], 100⟩ (.nil) (fun v m _ => outM (.c (.int false .i64 (weqF 0 f n g))) [wsM 1 n c g] v m)) := by
  constructor
  rw [wNS_vc]
  repeat' first
    | with_reducible apply And.intro
    | with_reducible exact trivial
    | with_reducible assumption
    | with_reducible exact Eq.refl _
    | (intro (K : KO XE); simp only [eq_self, true_and, and_true, forall_const, true_implies, and_imp]; intros; (repeat' first | with_reducible apply And.intro | with_reducible assumption); done)
    | (intro hh; first | with_reducible have hq := of_decide_eq_true hh | with_reducible have hq := of_decide_eq_false hh | with_reducible have hq := beq_eq_false_iff_ne.1 hh | with_reducible have hq := bne_iff_ne.1 hh | with_reducible have hq := bne_eq_false_iff_eq.1 hh | skip)

  all_goals first
    | exact weqF_one (by omega) (fun i hi => absurd hi (Nat.not_lt_zero i))
    | exact weqF_len (by omega)
    | skip
/-- What the executor leaves to be shown of roundelay/roundelaylaw04.Words, written out. -/
theorem wSN_vc (n c : Nat) (f g : Nat → Int) : (callN Try.prog ([] : List (Smry Try.prog XE)) (fun _ _ => false) 100 20 39 [.c (.sli 0 1 true 0 false n c), .c .nls] ⟨[wsM 0 n c f], 100⟩ (.both .nil (.f .nil)) (fun v m _ => outM (.c (.int false .i64 (weqF n f 0 g))) [wsM 0 n c f] v m)) = (
    (((↑n : Int) != (0 : Int)) = true → weqF n f (0 : Nat) g = (0 : Int) ∧ (n = n ∧ c = c ∧ ∀ (i : Nat), i < n → f i = f i) ∧ True) ∧ (((↑n : Int) != (0 : Int)) = false → decide ((0 :
    Int) < (↑n : Int)) = false ∧ weqF n f (0 : Nat) g = (1 : Int) ∧ (n = n ∧ c = c ∧ ∀ (i : Nat), i < n → f i = f i) ∧ True)) := by
  kernel_rfl
theorem wSN_run (n c : Nat) (f g : Nat → Int) (hc : Wd n f) : Run (callN Try.prog ([] : List (Smry Try.prog XE)) (fun _ _ => false) 100 20 39 [.c (.sli 0 1 true 0 false n c), .c .nls] ⟨[wsM 0 n c f], 100⟩ (.both .nil (.f .nil)) (fun v m _ => outM (.c (.int false .i64 (weqF n f 0 g))) [wsM 0 n c f] v m)) := by
  constructor
  rw [wSN_vc]
  repeat' first
    | with_reducible apply And.intro
    | with_reducible exact trivial
    | with_reducible assumption
    | with_reducible exact Eq.refl _
    | (intro (K : KO XE); simp only [eq_self, true_and, and_true, forall_const, true_implies, and_imp]; intros; (repeat' first | with_reducible apply And.intro | with_reducible assumption); done)
    | (intro hh; first | with_reducible have hq := of_decide_eq_true hh | with_reducible have hq := of_decide_eq_false hh | with_reducible have hq := beq_eq_false_iff_ne.1 hh | with_reducible have hq := bne_iff_ne.1 hh | with_reducible have hq := bne_eq_false_iff_eq.1 hh | skip)

  all_goals first
    | exact weqF_one (by omega) (fun i hi => by omega)
    | exact weqF_len (by omega)
    | exact decide_eq_false (by omega)
    | skip
/-- What the executor leaves to be shown of roundelay/roundelaylaw04.Words, written out. -/
theorem wSS_vc (n c : Nat) (f : Nat → Int) (k d : Nat) (g : Nat → Int) : (callN Try.prog ([] : List (Smry Try.prog XE)) (fun _ _ => false) 100 20 39 [.c (.sli 0 1 true 0 false n c), .c (.sli 1 1 true 0 false k d)] ⟨[wsM 0 n c f, wsM 1 k d g], 100⟩ (.both .nil (wordsL n f g)) (fun v m _ => outM (.c (.int false .i64 (weqF n f k g))) [wsM 0 n c f, wsM 1 k d g] v m)) = (
    (((↑n : Int) != (↑k : Int)) = true → weqF n f k g = (0 : Int) ∧ (n = n ∧ c = c ∧ ∀ (i : Nat), i < n → f i = f i) ∧ (k = k ∧ d = d ∧ ∀ (i : Nat), i < k → g i = g i) ∧ True) ∧ (((↑n :
    Int) != (↑k : Int)) = false → (∃ (y : WY n f g), (0 : Nat) = (0 : Nat) ∧ n = n ∧ c = c ∧ (0 : Nat) = (0 : Nat) ∧ k = k ∧ d = d ∧ (↑n : Int) = (↑n : Int) ∧ n = n ∧ c = c ∧ f = f ∧ k
    = k ∧ d = d ∧ g = g ∧ (↑y.val : Int) = (0 : Int) ∧ True) ∧ ∀ (y : WY n f g) (ρ : Nat → Value), (decide ((↑y.val : Int) < (↑n : Int)) = true → ((0 : Int) ≤ (↑y.val : Int) ∧ (↑y.val :
    Int) < (↑n : Int)) ∧ addO true (0 : Nat) (↑y.val : Int).toNat < n ∧ ((0 : Int) ≤ (↑y.val : Int) ∧ (↑y.val : Int) < (↑k : Int)) ∧ addO true (0 : Nat) (↑y.val : Int).toNat < k ∧ ((f
    (addO true (0 : Nat) (↑y.val : Int).toNat) != g (addO true (0 : Nat) (↑y.val : Int).toNat)) = true → weqF n f k g = (0 : Int) ∧ (n = n ∧ c = c ∧ ∀ (i : Nat), i < n → f i = f i) ∧ (k
    = k ∧ d = d ∧ ∀ (i : Nat), i < k → g i = g i) ∧ True) ∧ ((f (addO true (0 : Nat) (↑y.val : Int).toNat) != g (addO true (0 : Nat) (↑y.val : Int).toNat)) = false →
    ((-9223372036854775808 : Int) ≤ (↑y.val : Int) + (1 : Int) ∧ (↑y.val : Int) + (1 : Int) ≤ (9223372036854775807 : Int)) ∧ ∃ (y' : WY n f g), n - y'.val < n - y.val ∧ (0 : Nat) = (0 :
    Nat) ∧ n = n ∧ c = c ∧ (0 : Nat) = (0 : Nat) ∧ k = k ∧ d = d ∧ (↑n : Int) = (↑n : Int) ∧ n = n ∧ c = c ∧ f = f ∧ k = k ∧ d = d ∧ g = g ∧ (↑y'.val : Int) = (↑y.val : Int) + (1 : Int)
    ∧ True)) ∧ (decide ((↑y.val : Int) < (↑n : Int)) = false → weqF n f k g = (1 : Int) ∧ (n = n ∧ c = c ∧ ∀ (i : Nat), i < n → f i = f i) ∧ (k = k ∧ d = d ∧ ∀ (i : Nat), i < k → g i =
    g i) ∧ True))) := by
  kernel_rfl
theorem wSS_run (n c : Nat) (f : Nat → Int) (k d : Nat) (g : Nat → Int) (hc : Wd n f ∧ Wd k g ∧ n ≤ 1000000000) : Run (callN Try.prog ([] : List (Smry Try.prog XE)) (fun _ _ => false) 100 20 39 [.c (.sli 0 1 true 0 false n c), .c (.sli 1 1 true 0 false k d)] ⟨[wsM 0 n c f, wsM 1 k d g], 100⟩ (.both .nil (wordsL n f g)) (fun v m _ => outM (.c (.int false .i64 (weqF n f k g))) [wsM 0 n c f, wsM 1 k d g] v m)) := by
  constructor
  rw [wSS_vc]
  obtain ⟨h1, h2, h3⟩ := hc
  refine ⟨fun hh => ⟨weqF_len (by have := bne_iff_ne.1 hh; omega), ⟨rfl, rfl, fun _ _ => rfl⟩, ⟨rfl, rfl, fun _ _ => rfl⟩, trivial⟩, fun hh => ?_⟩
  have e : n = k := by have := bne_eq_false_iff_eq.1 hh; omega
  subst e
  refine ⟨⟨⟨0, Nat.zero_le _, fun j hj => absurd hj (Nat.not_lt_zero j)⟩, rfl, rfl, rfl, rfl, rfl, rfl, rfl, rfl, rfl, rfl, rfl, rfl, rfl, rfl, trivial⟩, fun y ρ => ⟨fun hi => ?_, fun hi => ?_⟩⟩
  · have hi := of_decide_eq_true hi
    have hy : y.1 < n := by omega
    have ha : addO true 0 (y.1 : Int).toNat = y.1 := by rw [addO_eq]; omega
    rw [ha]
    refine ⟨⟨by omega, by omega⟩, hy, ⟨by omega, by omega⟩, hy, fun hne => ⟨weqF_at hy (bne_iff_ne.1 hne), ⟨rfl, rfl, fun _ _ => rfl⟩, ⟨rfl, rfl, fun _ _ => rfl⟩, trivial⟩, fun heq => ⟨⟨by omega, by omega⟩, ⟨y.1 + 1, hy, fun j hj => ?_⟩, ?_, rfl, rfl, rfl, rfl, rfl, rfl, rfl, rfl, rfl, rfl, rfl, rfl, rfl, ?_, trivial⟩⟩
    · rcases Nat.lt_or_ge j y.1 with hl | hl
      · exact y.2.2 j hl
      · have : j = y.1 := by omega
        subst this
        exact bne_eq_false_iff_eq.1 heq
    · show n - (y.1 + 1) < n - y.1
      omega
    · show ((y.1 + 1 : Nat) : Int) = _
      omega
  · have hi := of_decide_eq_false hi
    have hy := y.2.1
    exact ⟨weqF_one rfl (fun i hin => y.2.2 i (by omega)), ⟨rfl, rfl, fun _ _ => rfl⟩, ⟨rfl, rfl, fun _ _ => rfl⟩, trivial⟩
theorem words_calls (v1 v2 : Value) (n k : Nat) (f g : Nat → Int) (hf : Wd n f) (hg : Wd k g) (hn : n ≤ 1000000000) (w : World) {R : Assn} (H : Sat w (rowAt 25 v1 (intsOf .u64 n f) * (rowAt 25 v2 (intsOf .u64 k g) * R))) :
    Calls Try.prog 39 #[v1, v2] w fun e w' => e = .returned (.int .i64 (weqF n f k g)) ∧ Sat w' (rowAt 25 v1 (intsOf .u64 n f) * (rowAt 25 v2 (intsOf .u64 k g) * R)) ∧ Kept w w' := by
  have lf : (intsOf .u64 n f).length = n := by simp [intsOf]
  have lg : (intsOf .u64 k g).length = k := by simp [intsOf]
  have nilz : ∀ {v : Value} {m : Nat} {h : Nat → Int} {w : World} {Q : Assn}, v = .slice none 0 0 → Sat w (rowAt 25 v (intsOf .u64 m h) * Q) → m = 0 := by
    intro v m h w Q e HH
    subst e
    rcases rowAt_open HH with ⟨_, hz, _⟩ | ⟨_, _, _, he, _⟩
    · have : (intsOf .u64 m h).length = 0 := by rw [hz]; rfl
      simpa [intsOf] using this
    · cases he
  have res : ∀ ξ : Nat → Nat, (SV.c (.int false .i64 (weqF n f k g)) : SV).den ξ = .int .i64 (weqF n f k g) := fun _ => rfl
  by_cases z1 : v1 = .slice none 0 0
  · have hn0 := nilz z1 H
    subst hn0
    by_cases z2 : v2 = .slice none 0 0
    · have hk0 := nilz z2 (H.cast (Q := rowAt 25 v2 (intsOf .u64 k g) * (rowAt 25 v1 (intsOf .u64 0 f) * R)) (by ac_rfl))
      subst hk0
      subst z1 z2
      have H1 : Sat w ((⟨[], 100⟩ : Mem XE).hp.den (fun _ => 0) * (rowAt 25 (.slice none 0 0) (intsOf .u64 0 f) * (rowAt 25 (.slice none 0 0) (intsOf .u64 0 g) * R))) := by
        simp only [SH.den]
        rw [Assn.one_mul]
        exact H
      have h := callN_ok namesOk mixed _ _ _ _ _ _ _ _ _ (wNN_run f g trivial).out (fun _ => 0) w _ w H1 (Kept.refl w)
      refine Calls.mono (h : Calls Try.prog 39 #[.slice none 0 0, .slice none 0 0] w _) ?_
      rintro e w' ⟨r, m', s', ξ, hv, _, _, he, hs, hk⟩
      obtain ⟨κ, _, hd, hs2⟩ := outM_sound hv hs
      refine ⟨by rw [he, hd]; rfl, ?_, hk⟩
      simp only [SH.den] at hs2
      rw [Assn.one_mul] at hs2
      exact hs2
    · have H0 := H.cast (Q := rowAt 25 v2 (intsOf .u64 k g) * (rowAt 25 v1 (intsOf .u64 0 f) * R)) (by ac_rfl)
      rw [rowAt_rowK, lg] at H0
      obtain ⟨b, cap, rfl, hcap, H2⟩ := rowK_head H0 z2
      subst z1
      have H1 : Sat w ((⟨[wsM 1 k cap g], 100⟩ : Mem XE).hp.den (fun _ => b) * (rowAt 25 (.slice none 0 0) (intsOf .u64 0 f) * R)) := by
        simp only [wsM, SH.den, SO.den]
        rw [Assn.mul_comm _ (1 : Assn), Assn.one_mul]
        exact H2
      have h := callN_ok namesOk mixed _ _ _ _ _ _ _ _ _ (wNS_run f k cap g hg).out (fun _ => b) w _ w H1 (Kept.refl w)
      have ea : (List.map (SV.den fun _ => b) [.c .nls, .c (.sli 1 1 true 0 false k cap)]).toArray = #[.slice none 0 0, .slice (some ⟨b, 0, none⟩) k cap] := by simp [SV.den, SC.den]
      rw [ea] at h
      refine h.mono ?_
      rintro e w' ⟨r, m', s', ξ, hv, ag, _, he, hs, hk⟩
      obtain ⟨κ, ag2, hd, hs2⟩ := outM_sound hv hs
      refine ⟨by rw [he, hd]; rfl, ?_, hk⟩
      simp only [wsM, SH.den, SO.den] at hs2
      rw [Assn.mul_comm _ (1 : Assn), Assn.one_mul, ag2 1 (by decide), ag 1 (show 1 < 100 by decide)] at hs2
      exact (rowAt_head' lg hs2).cast (by ac_rfl)
  · rw [rowAt_rowK, lf] at H
    obtain ⟨a, cap, rfl, hcap, H2⟩ := rowK_head H z1
    by_cases z2 : v2 = .slice none 0 0
    · have hk0 := nilz z2 (H2.cast (Q := rowAt 25 v2 (intsOf .u64 k g) * (rowHead a 25 1 n cap (intsOf .u64 n f) * R)) (by ac_rfl))
      subst hk0
      subst z2
      have H1 : Sat w ((⟨[wsM 0 n cap f], 100⟩ : Mem XE).hp.den (fun _ => a) * (rowAt 25 (.slice none 0 0) (intsOf .u64 0 g) * R)) := by
        simp only [wsM, SH.den, SO.den]
        rw [Assn.mul_comm _ (1 : Assn), Assn.one_mul]
        exact H2
      have h := callN_ok namesOk mixed _ _ _ _ _ _ _ _ _ (wSN_run n cap f g hf).out (fun _ => a) w _ w H1 (Kept.refl w)
      have ea : (List.map (SV.den fun _ => a) [.c (.sli 0 1 true 0 false n cap), .c .nls]).toArray = #[.slice (some ⟨a, 0, none⟩) n cap, .slice none 0 0] := by simp [SV.den, SC.den]
      rw [ea] at h
      refine h.mono ?_
      rintro e w' ⟨r, m', s', ξ, hv, ag, _, he, hs, hk⟩
      obtain ⟨κ, ag2, hd, hs2⟩ := outM_sound hv hs
      refine ⟨by rw [he, hd]; rfl, ?_, hk⟩
      simp only [wsM, SH.den, SO.den] at hs2
      rw [Assn.mul_comm _ (1 : Assn), Assn.one_mul, ag2 0 (by decide), ag 0 (show 0 < 100 by decide)] at hs2
      exact rowAt_head' lf hs2
    · have H3 := H2.cast (Q := rowAt 25 v2 (intsOf .u64 k g) * (rowHead a 25 1 n cap (intsOf .u64 n f) * R)) (by ac_rfl)
      rw [rowAt_rowK, lg] at H3
      obtain ⟨b, cap2, rfl, hcap2, H4⟩ := rowK_head H3 z2
      have H1 : Sat w ((⟨[wsM 0 n cap f, wsM 1 k cap2 g], 100⟩ : Mem XE).hp.den (fun i => if i = 0 then a else b) * R) := by
        exact (H4.cast (Q := (rowHead a 25 1 n cap (intsOf .u64 n f) * (rowHead b 25 1 k cap2 (intsOf .u64 k g) * 1)) * R) (by rw [Assn.mul_comm _ (1 : Assn), Assn.one_mul]; ac_rfl))
      have h := callN_ok namesOk mixed _ _ _ _ _ _ _ _ _ (wSS_run n cap f k cap2 g ⟨hf, hg, hn⟩).out (fun i => if i = 0 then a else b) w _ w H1 (Kept.refl w)
      have ea : (List.map (SV.den fun i => if i = 0 then a else b) [.c (.sli 0 1 true 0 false n cap), .c (.sli 1 1 true 0 false k cap2)]).toArray = #[.slice (some ⟨a, 0, none⟩) n cap, .slice (some ⟨b, 0, none⟩) k cap2] := by simp [SV.den, SC.den]
      rw [ea] at h
      refine h.mono ?_
      rintro e w' ⟨r, m', s', ξ, hv, ag, _, he, hs, hk⟩
      obtain ⟨κ, ag2, hd, hs2⟩ := outM_sound hv hs
      refine ⟨by rw [he, hd]; rfl, ?_, hk⟩
      simp only [wsM, SH.den, SO.den] at hs2
      have a0 : ξ 0 = a := ag 0 (show 0 < 100 by decide)
      have a1 : ξ 1 = b := ag 1 (show 1 < 100 by decide)
      rw [ag2 0 (by decide), a0, ag2 1 (by decide), a1, Assn.mul_comm _ (1 : Assn), Assn.one_mul] at hs2
      have h5 := rowAt_head' lf (hs2.cast (Q := rowHead a 25 1 n cap (intsOf .u64 n f) * (rowHead b 25 1 k cap2 (intsOf .u64 k g) * R)) (by ac_rfl))
      exact (rowAt_head' lg (h5.cast (Q := rowHead b 25 1 k cap2 (intsOf .u64 k g) * (rowAt 25 (.slice (some ⟨a, 0, none⟩) n cap) (intsOf .u64 n f) * R)) (by ac_rfl))).cast (by ac_rfl)
end Go.Proofs.Ytcmoffcaiepgbaa

/- What the executor knows of two slices of words, compared. -/
namespace Go.Proofs.Ytcmoffcaiepgbaa
open Go Go.RowKit
def boW (n : Nat) (f : Nat → Int) (k : Nat) (g : Nat → Int) (K : SV → MX → Prop) (m : MX) : Prop :=
  (weqF n f k g = 1 → K (.c (.int true .i64 1)) m) ∧ (weqF n f k g = 0 → K (.c (.int true .i64 0)) m)
def z0 (_ : Nat) : Int := 0
theorem boW_ok {n k : Nat} {f g : Nat → Int} {K : SV → MX → Prop} {m : MX} (h : boW n f k g K m) : K (.c (.int true .i64 (weqF n f k g))) m := by
  have h2 : weqF n f k g = 1 ∨ weqF n f k g = 0 := by unfold weqF; split <;> simp
  rcases h2 with e | e
  · rw [e]; exact h.1 e
  · rw [e]; exact h.2 e
theorem gives_words {args : List SV} {m : MX} {K : SV → MX → Prop} {n k : Nat} {f g : Nat → Int} (v1 v2 : (Nat → Nat) → Value) (Q : (Nat → Nat) → Assn)
    (ha : ∀ ν, (args.map (SV.den ν)).toArray = #[v1 ν, v2 ν])
    (hd : ∀ ν w R, Sat w (m.hp.den ν * R) → Sat w (rowAt 25 (v1 ν) (intsOf .u64 n f) * (rowAt 25 (v2 ν) (intsOf .u64 k g) * (Q ν * R))))
    (hd' : ∀ ν w R, Sat w (rowAt 25 (v1 ν) (intsOf .u64 n f) * (rowAt 25 (v2 ν) (intsOf .u64 k g) * (Q ν * R))) → Sat w (m.hp.den ν * R))
    (hf : Wd n f) (hg : Wd k g) (hn : n ≤ 1000000000) (hk : boW n f k g K m) : Gives Try.prog 39 args m K := fun ν w R w0 H HK => by
  rw [ha]
  refine (words_calls (v1 ν) (v2 ν) n k f g hf hg hn w (hd ν w R H)).mono fun e w' ⟨he, hs, hk'⟩ => ?_
  exact ⟨_, m, ν, boW_ok hk, Agree.refl _ _, Nat.le_refl _, by rw [he]; rfl, hd' ν w' R hs, HK.trans hk'⟩
theorem row_get {ν : Nat → Nat} {h : SH XE} {s n cap : Nat} {f : Nat → Int} (hs : h.get s = some (.ints 25 .u64 n cap f)) {w : World} {R : Assn} (H : Sat w (h.den ν * R)) :
    Sat w (rowAt 25 (.slice (some ⟨ν s, 0, none⟩) n cap) (intsOf .u64 n f) * ((h.del s).den ν * R)) := by
  rw [SH.den_get ν hs, Assn.mul_assoc] at H
  exact head_rowAt (by simp [intsOf]) H
theorem row_put {ν : Nat → Nat} {h : SH XE} {s n cap : Nat} {f : Nat → Int} (hs : h.get s = some (.ints 25 .u64 n cap f)) {w : World} {R : Assn}
    (H : Sat w (rowAt 25 (.slice (some ⟨ν s, 0, none⟩) n cap) (intsOf .u64 n f) * ((h.del s).den ν * R))) : Sat w (h.den ν * R) := by
  rw [SH.den_get ν hs, Assn.mul_assoc]
  exact rowAt_head (by simp [intsOf]) H
def wordsX : Smry Try.prog XE where
  g := 39
  run := fun args m K => match args with
    | [.c .nls, .c .nls] => boW 0 z0 0 z0 K m
    | [.c .nls, .c (.sli t 1 _ 0 _ k d)] => match m.hp.get t with
      | some (.ints T .u64 k' d' g) => if T = 25 then k' = k ∧ d' = d ∧ (∀ i, i < k' → 0 ≤ g i ∧ g i ≤ 18446744073709551615) ∧ boW 0 z0 k' g K m else Stuck 880
      | _ => Stuck 881
    | [.c (.sli s 1 _ 0 _ n c), .c .nls] => match m.hp.get s with
      | some (.ints T .u64 n' c' f) => if T = 25 then n' = n ∧ c' = c ∧ n' ≤ 1000000000 ∧ (∀ i, i < n' → 0 ≤ f i ∧ f i ≤ 18446744073709551615) ∧ boW n' f 0 z0 K m else Stuck 880
      | _ => Stuck 881
    | [.c (.sli s 1 _ 0 _ n c), .c (.sli t 1 _ 0 _ k d)] => match m.hp.get s with
      | some (.ints T .u64 n' c' f) => match (m.hp.del s).get t with
        | some (.ints T' .u64 k' d' g) => if T = 25 then (if T' = 25 then n' = n ∧ c' = c ∧ k' = k ∧ d' = d ∧ n' ≤ 1000000000 ∧ (∀ i, i < n' → 0 ≤ f i ∧ f i ≤ 18446744073709551615) ∧ (∀ i, i < k' → 0 ≤ g i ∧ g i ≤ 18446744073709551615) ∧ boW n' f k' g K m else Stuck 880) else Stuck 880
        | _ => Stuck 882
      | _ => Stuck 881
    | _ => Stuck 883
  ok := fun args m K hr => by
    split at hr <;> try exact hr.elim
    · refine gives_words (n := 0) (k := 0) (f := z0) (g := z0) (fun _ => .slice none 0 0) (fun _ => .slice none 0 0) (fun ν => m.hp.den ν) (fun ν => by simp [SV.den, SC.den]) (fun ν w R H => ?_) (fun ν w R H => H.right.right) (fun i hi => absurd hi (Nat.not_lt_zero i)) (fun i hi => absurd hi (Nat.not_lt_zero i)) (by decide) hr
      exact rowAt_nil (T := 25) (rowAt_nil (T := 25) H)
    · rename_i t _ _ k d
      split at hr <;> try exact hr.elim
      rename_i T k' d' g hS
      split at hr <;> try exact hr.elim
      rename_i hT
      subst hT
      obtain ⟨rfl, rfl, hg, hk⟩ := hr
      refine gives_words (n := 0) (k := k') (f := z0) (g := g) (fun _ => .slice none 0 0) (fun ν => .slice (some ⟨ν t, 0, none⟩) k' d') (fun ν => (m.hp.del t).den ν) (fun ν => by simp [SV.den, SC.den]) (fun ν w R H => ?_) (fun ν w R H => ?_) (fun i hi => absurd hi (Nat.not_lt_zero i)) hg (Nat.zero_le _) hk
      · exact rowAt_nil (T := 25) (row_get hS H)
      · exact row_put hS H.right
    · rename_i s _ _ n c
      split at hr <;> try exact hr.elim
      rename_i T n' c' f hS
      split at hr <;> try exact hr.elim
      rename_i hT
      subst hT
      obtain ⟨rfl, rfl, hn, hf, hk⟩ := hr
      refine gives_words (n := n') (k := 0) (f := f) (g := z0) (fun ν => .slice (some ⟨ν s, 0, none⟩) n' c') (fun _ => .slice none 0 0) (fun ν => (m.hp.del s).den ν) (fun ν => by simp [SV.den, SC.den]) (fun ν w R H => ?_) (fun ν w R H => ?_) hf (fun i hi => absurd hi (Nat.not_lt_zero i)) hn hk
      · have H1 := row_get hS H
        exact (rowAt_nil (T := 25) H1).cast (by ac_rfl)
      · have H1 := H.cast (Q := rowAt 25 (.slice none 0 0) (intsOf .u64 0 z0) * (rowAt 25 (.slice (some ⟨ν s, 0, none⟩) n' c') (intsOf .u64 n' f) * ((m.hp.del s).den ν * R))) (by ac_rfl)
        exact row_put hS H1.right
    · rename_i s _ _ n c t _ _ k d
      split at hr <;> try exact hr.elim
      rename_i T n' c' f hS
      split at hr <;> try exact hr.elim
      rename_i T' k' d' g hT'
      split at hr <;> try exact hr.elim
      rename_i hT
      subst hT
      split at hr <;> try exact hr.elim
      rename_i hT2
      subst hT2
      obtain ⟨rfl, rfl, rfl, rfl, hn, hf, hg, hk⟩ := hr
      refine gives_words (n := n') (k := k') (f := f) (g := g) (fun ν => .slice (some ⟨ν s, 0, none⟩) n' c') (fun ν => .slice (some ⟨ν t, 0, none⟩) k' d') (fun ν => ((m.hp.del s).del t).den ν) (fun ν => by simp [SV.den, SC.den]) (fun ν w R H => ?_) (fun ν w R H => ?_) hf hg hn hk
      · have H1 := row_get hS H
        have H2 := H1.cast (Q := (m.hp.del s).den ν * (rowAt 25 (.slice (some ⟨ν s, 0, none⟩) n' c') (intsOf .u64 n' f) * R)) (by ac_rfl)
        exact (row_get hT' H2).cast (by ac_rfl)
      · have H2 := H.cast (Q := rowAt 25 (.slice (some ⟨ν t, 0, none⟩) k' d') (intsOf .u64 k' g) * (((m.hp.del s).del t).den ν * (rowAt 25 (.slice (some ⟨ν s, 0, none⟩) n' c') (intsOf .u64 n' f) * R))) (by ac_rfl)
        exact row_put hS ((row_put hT' H2).cast (by ac_rfl))
end Go.Proofs.Ytcmoffcaiepgbaa
