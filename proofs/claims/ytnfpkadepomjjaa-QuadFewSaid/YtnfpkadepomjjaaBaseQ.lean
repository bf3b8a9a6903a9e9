/- What the executor knows of trees of an arena's blocks: their keys, their nodes. -/
import Derived.Test.YtnfpkadepomjjaaBaseS
import Derived.Test.YtnfpkadepomjjaaQuadE
import Derived.Test.YtnfpkadepomjjaaBaseC
set_option linter.all false
namespace Go.Proofs.Ytnfpkadepomjjaa
open Go Go.RowKit

/-- A call that reads an arena and hands back a row of its own, or nothing, and a flag. -/
theorem gives_rowK {g : FuncId} {args : List SV} {m : MX} {K : SV → MX → Prop} {n : Nat} {A : Ar} (hA : m.hp.get n = some (arO A)) {T : TypeId} {k cnt : Nat} {xs : List Value} {bo : Bool}
    (hc : ∀ ν w R, Sat w (arAt (ν n) A * R) → Calls Try.prog g (args.map (SV.den ν)).toArray w fun e w' => Kept w w' ∧
      ((bo = false ∧ e = .returned (.tuple #[.slice none 0 0, .bool false]) ∧ Sat w' (arAt (ν n) A * R)) ∨ (bo = true ∧ ∃ v, e = .returned (.tuple #[v, .bool true]) ∧ Sat w' (rowK T k v cnt xs * (arAt (ν n) A * R)))))
    (h0 : bo = false → K (.tup [(false, [.nls]), okB false]) m) (h1 : bo = true → cnt = 0 → K (.tup [(false, [.nls]), okB true]) m)
    (h2 : bo = true → ∀ cap, cnt ≤ cap → ∃ (o : SO XE) (ll : Bool), (∀ ν b w R, Sat w (rowHead b T k cnt cap xs * R) → Sat w (o.den ν b * R)) ∧ newOk m o = true ∧ K (.tup [(false, [.sli m.nx k true 0 ll cnt cap]), okB true]) (withNew m o)) :
    Gives Try.prog g args m K := fun ν w R w0 H HK => by
  rw [SH.den_get ν hA, Assn.mul_assoc] at H
  refine (hc ν w _ H).mono ?_
  rintro e w' ⟨hk', ⟨hb, he, hs⟩ | ⟨hb, v, he, hs⟩⟩
  · refine ⟨_, m, ν, h0 hb, Agree.refl _ _, Nat.le_refl _, by rw [he]; rfl, ?_, HK.trans hk'⟩
    rw [SH.den_get ν hA, Assn.mul_assoc]
    exact hs
  · by_cases hv : v = .slice none 0 0
    · subst hv
      obtain ⟨_, hz⟩ := rowK_open hs
      have hcnt : cnt = 0 := by
        rcases hz with ⟨_, h, _⟩ | ⟨_, _, _, h, _⟩
        · exact h
        · cases h
      refine ⟨_, m, ν, h1 hb hcnt, Agree.refl _ _, Nat.le_refl _, by rw [he]; rfl, ?_, HK.trans hk'⟩
      rw [SH.den_get ν hA, Assn.mul_assoc]
      exact hs.right
    · obtain ⟨b, cap, rfl, hcap, hs2⟩ := rowK_head hs hv
      obtain ⟨o, ll, ho, hn, hk⟩ := h2 hb cap hcap
      refine ⟨_, _, upd ν m.nx b, hk, Agree.upd (Nat.le_refl _) _, Nat.le_succ _, ?_, withNew_sat hn ?_, HK.trans hk'⟩
      · rw [he]
        simp [SV.den, SC.den, SC.denL, partDen, okB, upd_same]
      · refine (ho ν b w' _ hs2).cast ?_
        rw [SH.den_get ν hA, Assn.mul_assoc]
        rfl
def pairF (l : List (Int × Int)) (i : Nat) : List Value := [.int .i64 (l.getD i (0, 0)).1, .int .i64 (l.getD i (0, 0)).2]
theorem pcells_vals (l : List (Int × Int)) : pcells l = valsOf l.length (pairF l) := by
  unfold pcells valsOf
  rw [Go.Deep.flatMap_by_index l (0, 0)]
  rfl
theorem u64s_ints (l : List Nat) : u64s l = intsOf .u64 l.length fun i => ((l.getD i 0 : Nat) : Int) := by
  unfold u64s intsOf
  rw [Go.Deep.map_by_index l 0]
def pairC : List (Int × Int) → List SC
  | [] => []
  | (a, b) :: l => .int true .i64 a :: .int true .i64 b :: pairC l
theorem pairC_den (ν : Nat → Nat) : ∀ l, SC.denL ν (pairC l) = pcells l
  | [] => rfl
  | (a, b) :: l => by
    have := pairC_den ν l
    simp only [pairC, SC.denL, SC.den, this]
    rfl
def natC : List Nat → List SC
  | [] => []
  | a :: l => .int true .u64 (a : Int) :: natC l
theorem natC_den (ν : Nat → Nat) : ∀ l, SC.denL ν (natC l) = u64s l
  | [] => rfl
  | a :: l => by
    have := natC_den ν l
    simp only [natC, SC.denL, SC.den, this]
    rfl
/-- The keys and values of a tree. -/
def listX : Smry Try.prog XE where
  g := 53
  run := fun args m K => match args with
    | [.c (.ptr n 0), .c (.int _ .u64 root _)] => match m.hp.get n with
      | some (.ext (.ar A)) => (0 ≤ root ∧ root < 18446744073709551616) ∧ A.s.back.length ≤ 70000 ∧
          ((tree A root.toNat).1 = false → K (.tup [(false, [.nls]), okB false]) m) ∧
          ((tree A root.toNat).1 = true → (tree A root.toNat).2.pairs.length = 0 → K (.tup [(false, [.nls]), okB true]) m) ∧
          ((tree A root.toNat).1 = true → ∀ cap, (tree A root.toNat).2.pairs.length ≤ cap →
            bif newOk m (.vals 110 2 (tree A root.toNat).2.pairs.length cap (pairF (tree A root.toNat).2.pairs)) then
              K (.tup [(false, [.sli m.nx 2 true 0 false (tree A root.toNat).2.pairs.length cap]), okB true]) (withNew m (.vals 110 2 (tree A root.toNat).2.pairs.length cap (pairF (tree A root.toNat).2.pairs))) else Stuck 840)
      | _ => Stuck 841
    | _ => Stuck 842
  ok := fun args m K hr => by
    split at hr <;> try exact hr.elim
    rename_i n _ root _
    split at hr <;> try exact hr.elim
    rename_i A hA
    obtain ⟨⟨hr0, hr1⟩, hb, k0, k1, k2⟩ := hr
    obtain ⟨z, rfl⟩ : ∃ z : Nat, root = z := ⟨root.toNat, by omega⟩
    simp only [Int.toNat_natCast] at *
    refine gives_rowK hA (T := 110) (k := 2) (cnt := (tree A z).2.pairs.length) (xs := pcells (tree A z).2.pairs) (bo := (tree A z).1) (fun ν w R H => list_calls (ν n) A z w H (by unfold TW; omega) hb) k0 k1 fun h cap hcap => ?_
    have hk := k2 h cap hcap
    cases hn : newOk m (SO.vals 110 2 (tree A z).2.pairs.length cap (pairF (tree A z).2.pairs) : SO XE) <;> rw [hn] at hk
    · exact hk.elim
    refine ⟨_, false, fun ν b w R H => ?_, hn, hk⟩
    simp only [SO.den]
    rw [Assn.mul_assoc, ← pcells_vals]
    exact Sat.mk_pure_mul (fun i _ => rfl) H
/-- The nodes of a tree. -/
def handlesX : Smry Try.prog XE where
  g := 54
  run := fun args m K => match args with
    | [.c (.ptr n 0), .c (.int _ .u64 root _)] => match m.hp.get n with
      | some (.ext (.ar A)) => (0 ≤ root ∧ root < 18446744073709551616) ∧ A.s.back.length ≤ 70000 ∧
          ((tree A root.toNat).1 = false → K (.tup [(false, [.nls]), okB false]) m) ∧
          ((tree A root.toNat).1 = true → (tree A root.toNat).2.hs.length = 0 → K (.tup [(false, [.nls]), okB true]) m) ∧
          ((tree A root.toNat).1 = true → ∀ cap, (tree A root.toNat).2.hs.length ≤ cap →
            bif newOk m (.ints 25 .u64 (tree A root.toNat).2.hs.length cap (fun i => (((tree A root.toNat).2.hs.getD i 0 : Nat) : Int))) then
              K (.tup [(false, [.sli m.nx 1 true 0 false (tree A root.toNat).2.hs.length cap]), okB true]) (withNew m (.ints 25 .u64 (tree A root.toNat).2.hs.length cap (fun i => (((tree A root.toNat).2.hs.getD i 0 : Nat) : Int)))) else Stuck 840)
      | _ => Stuck 841
    | _ => Stuck 842
  ok := fun args m K hr => by
    split at hr <;> try exact hr.elim
    rename_i n _ root _
    split at hr <;> try exact hr.elim
    rename_i A hA
    obtain ⟨⟨hr0, hr1⟩, hb, k0, k1, k2⟩ := hr
    obtain ⟨z, rfl⟩ : ∃ z : Nat, root = z := ⟨root.toNat, by omega⟩
    simp only [Int.toNat_natCast] at *
    refine gives_rowK hA (T := 25) (k := 1) (cnt := (tree A z).2.hs.length) (xs := u64s (tree A z).2.hs) (bo := (tree A z).1) (fun ν w R H => handles_calls (ν n) A z w H (by unfold TW; omega) hb) k0 k1 fun h cap hcap => ?_
    have hk := k2 h cap hcap
    cases hn : newOk m (SO.ints 25 .u64 (tree A z).2.hs.length cap (fun i => (((tree A z).2.hs.getD i 0 : Nat) : Int)) : SO XE) <;> rw [hn] at hk
    · exact hk.elim
    refine ⟨_, false, fun ν b w R H => ?_, hn, hk⟩
    simp only [SO.den]
    rw [← u64s_ints]
    exact H
/-- The same, of trees that are known: all is reckoned. -/
def listN : Smry Try.prog XE where
  g := 53
  run := fun args m K => match args with
    | [.c (.ptr n 0), .c (.int _ .u64 root _)] => match m.hp.get n with
      | some (.ext (.ar A)) => bif leI 0 root && (leI root 18446744073709551615 && Nat.ble A.s.back.length 70000) then (match tree A root.toNat with
        | (true, ⟨p :: ps, _⟩) => knL (fun l => outN (p :: ps).length fun k => ∀ cap, k ≤ cap → bif newOk m (.row 110 2 k cap l) then K (.tup [(false, [.sli m.nx 2 true 0 true k cap]), okB true]) (withNew m (.row 110 2 k cap l)) else Stuck 843) (pairC (p :: ps))
        | (true, ⟨[], _⟩) => Stuck 844
        | (false, _) => K (.tup [(false, [.nls]), okB false]) m) else Stuck 845
      | _ => Stuck 841
    | _ => Stuck 842
  ok := fun args m K hr => by
    split at hr <;> try exact hr.elim
    rename_i n _ root _
    split at hr <;> try exact hr.elim
    rename_i A hA
    cases hc : leI 0 root && (leI root 18446744073709551615 && Nat.ble A.s.back.length 70000) <;> rw [hc] at hr
    · exact hr.elim
    simp only [Bool.and_eq_true, Nat.ble_eq] at hc
    have h1 := leI_le hc.1
    have h2 := leI_le hc.2.1
    have hb := hc.2.2
    obtain ⟨z, rfl⟩ : ∃ z : Nat, root = z := ⟨root.toNat, by omega⟩
    simp only [Int.toNat_natCast, cond_true] at *
    refine gives_rowK hA (T := 110) (k := 2) (cnt := (tree A z).2.pairs.length) (xs := pcells (tree A z).2.pairs) (bo := (tree A z).1) (fun ν w R H => list_calls (ν n) A z w H (by unfold TW; omega) hb) ?_ ?_ ?_
    all_goals
      split at hr <;> try exact hr.elim
    · rename_i h; intro e; rw [h] at e; cases e
    · intro; exact hr
    · rename_i h; intro _ e; rw [h] at e; simp at e
    · rename_i h; intro e; rw [h] at e; cases e
    · rename_i p ps hs h
      rw [h]
      intro _ cap hcap
      obtain ⟨r, hk, hl, hd⟩ := knL_of hr
      simp only [outN_eq] at hk
      have hk := hk cap hcap
      cases hn : newOk m (SO.row 110 2 (p :: ps).length cap r : SO XE) <;> rw [hn] at hk
      · exact hk.elim
      refine ⟨_, true, fun ν b w R H => ?_, hn, hk⟩
      simp only [SO.den]
      rw [hd, pairC_den]
      exact H
    · rename_i h; intro e; rw [h] at e; cases e
def handlesN : Smry Try.prog XE where
  g := 54
  run := fun args m K => match args with
    | [.c (.ptr n 0), .c (.int _ .u64 root _)] => match m.hp.get n with
      | some (.ext (.ar A)) => bif leI 0 root && (leI root 18446744073709551615 && Nat.ble A.s.back.length 70000) then (match tree A root.toNat with
        | (true, ⟨_, p :: ps⟩) => knL (fun l => outN (p :: ps).length fun k => ∀ cap, k ≤ cap → bif newOk m (.row 25 1 k cap l) then K (.tup [(false, [.sli m.nx 1 true 0 true k cap]), okB true]) (withNew m (.row 25 1 k cap l)) else Stuck 843) (natC (p :: ps))
        | (true, ⟨_, []⟩) => Stuck 844
        | (false, _) => K (.tup [(false, [.nls]), okB false]) m) else Stuck 845
      | _ => Stuck 841
    | _ => Stuck 842
  ok := fun args m K hr => by
    split at hr <;> try exact hr.elim
    rename_i n _ root _
    split at hr <;> try exact hr.elim
    rename_i A hA
    cases hc : leI 0 root && (leI root 18446744073709551615 && Nat.ble A.s.back.length 70000) <;> rw [hc] at hr
    · exact hr.elim
    simp only [Bool.and_eq_true, Nat.ble_eq] at hc
    have h1 := leI_le hc.1
    have h2 := leI_le hc.2.1
    have hb := hc.2.2
    obtain ⟨z, rfl⟩ : ∃ z : Nat, root = z := ⟨root.toNat, by omega⟩
    simp only [Int.toNat_natCast, cond_true] at *
    refine gives_rowK hA (T := 25) (k := 1) (cnt := (tree A z).2.hs.length) (xs := u64s (tree A z).2.hs) (bo := (tree A z).1) (fun ν w R H => handles_calls (ν n) A z w H (by unfold TW; omega) hb) ?_ ?_ ?_
    all_goals
      split at hr <;> try exact hr.elim
    · rename_i h; intro e; rw [h] at e; cases e
    · intro; exact hr
    · rename_i h; intro _ e; rw [h] at e; simp at e
    · rename_i h; intro e; rw [h] at e; cases e
    · rename_i hs p ps h
      rw [h]
      intro _ cap hcap
      obtain ⟨r, hk, hl, hd⟩ := knL_of hr
      simp only [outN_eq] at hk
      have hk := hk cap hcap
      cases hn : newOk m (SO.row 25 1 (p :: ps).length cap r : SO XE) <;> rw [hn] at hk
      · exact hk.elim
      refine ⟨_, true, fun ν b w R H => ?_, hn, hk⟩
      simp only [SO.den]
      rw [hd, natC_den]
      exact H
    · rename_i h; intro e; rw [h] at e; cases e
end Go.Proofs.Ytnfpkadepomjjaa

/- What small functions of package quad hand back. -/
namespace Go.Proofs.Ytnfpkadepomjjaa
open Go Go.RowKit
set_option maxRecDepth 1000000
set_option maxHeartbeats 0
/-- A key's digit. -/
def dgF (key level : Int) : Int := if (key < 0 ∨ 255 < key) ∨ (level < 0 ∨ 4 ≤ level) then 0 else key / ((2 ^ (2 * (3 - level)).toNat : Nat) : Int) % 4
theorem dgF_bd (key level : Int) : 0 ≤ dgF key level ∧ dgF key level ≤ 3 := by
  unfold dgF; split <;> omega
def digOuts (key level : Int) : List (Out XE) := [Out.one (.c (.int false .i64 (dgF key level) (.w 0 3 (dgF_bd key level))))]
/-- What the executor leaves to be shown of roundelay/quad.Digit, written out. -/
theorem dig_vc (key level : Int) : (callN Try.prog ([] : List (Smry Try.prog XE)) (fun _ _ => false) 100 20 124 [.c (.int false .i64 key), .c (.int false .i64 level)] ⟨[], 100⟩ (bN 4) (fun v m _ => nthO (digOuts key level) ((fun _ => 0) v) v m)) = (
    (decide (key < (0 : Int)) = true → ∃ (z : Un), True ∧ dgF key level = (0 : Int) ∧ True) ∧ (decide (key < (0 : Int)) = false → (decide (key > (255 : Int)) = true → ∃ (z : Un), True ∧
    dgF key level = (0 : Int) ∧ True) ∧ (decide (key > (255 : Int)) = false → (decide (level < (0 : Int)) = true → ∃ (z : Un), True ∧ dgF key level = (0 : Int) ∧ True) ∧ (decide (level
    < (0 : Int)) = false → (decide (level ≥ (4 : Int)) = true → ∃ (z : Un), True ∧ dgF key level = (0 : Int) ∧ True) ∧ (decide (level ≥ (4 : Int)) = false → ((-9223372036854775808 :
    Int) ≤ (3 : Int) - level ∧ (3 : Int) - level ≤ (9223372036854775807 : Int)) ∧ ((-9223372036854775808 : Int) ≤ (2 : Int) * ((3 : Int) - level) ∧ (2 : Int) * ((3 : Int) - level) ≤
    (9223372036854775807 : Int)) ∧ ((0 : Int) ≤ (2 : Int) * ((3 : Int) - level) ∧ (2 : Int) * ((3 : Int) - level) ≤ (64 : Int)) ∧ ((0 : Int) ≤ key / (↑((2 : Nat) ^ ((2 : Int) * ((3 :
    Int) - level)).toNat) : Int) ∧ (-9223372036854775808 : Int) ≤ key / (↑((2 : Nat) ^ ((2 : Int) * ((3 : Int) - level)).toNat) : Int) ∧ key / (↑((2 : Nat) ^ ((2 : Int) * ((3 : Int) -
    level)).toNat) : Int) ≤ (9223372036854775807 : Int)) ∧ ∃ (z : Un), True ∧ dgF key level = key / (↑((2 : Nat) ^ ((2 : Int) * ((3 : Int) - level)).toNat) : Int) % (4 : Int) ∧ True))))) := by
  kernel_rfl
theorem dig_run (key level : Int) (hc : True) : Run (callN Try.prog ([] : List (Smry Try.prog XE)) (fun _ _ => false) 100 20 124 [.c (.int false .i64 key), .c (.int false .i64 level)] ⟨[], 100⟩ (bN 4) (fun v m _ => nthO (digOuts key level) ((fun _ => 0) v) v m)) := by
  constructor
  rw [dig_vc]
  repeat' first
    | with_reducible apply And.intro
    | with_reducible exact trivial
    | (intro h; first | have := of_decide_eq_true h | have := of_decide_eq_false h)
    | with_reducible refine Exists.intro Un.mk ?_
  all_goals first
    | omega
    | (unfold dgF; rw [if_pos (by omega)])
    | (unfold dgF; rw [if_neg (by omega)]; done)
    | exact Int.ediv_nonneg (by omega) (Int.natCast_nonneg _)
    | exact Int.le_trans (by decide) (Int.ediv_nonneg (by omega) (Int.natCast_nonneg _))
    | exact Int.le_trans (Int.ediv_le_self _ (by omega)) (by omega)
    | skip
def digS : Smry Try.prog XE := outS 124 (fun args => match args with
  | [.c (.int _ .i64 key _), .c (.int _ .i64 level _)] => some ([.c (.int false .i64 key), .c (.int false .i64 level)], True, digOuts key level)
  | _ => none)
  ⟨(by intro args na c os h ν; split at h <;> first | (cases h; rfl) | cases h), (by intro args na c os h hc; split at h <;> first | (cases h; exact ⟨([] : List (Smry Try.prog XE)), _, _, _, _, _, dig_run _ _ hc⟩) | cases h)⟩
/-- The greatest digit, up to a most, whose word isn't nothing. -/
def grF (n : Nat → Int) : Nat → Option Nat
  | 0 => none
  | k + 1 => if n k = 0 then grF n k else some k
def nodeN (a b c d : Int) (i : Nat) : Int := [a, b, c, d].getD i 0
def grOf (a b c d most : Int) : Option Nat := grF (nodeN a b c d) (min most 3 + 1).toNat
theorem grF_lt (n : Nat → Int) : ∀ (k : Nat) (g : Nat), grF n k = some g → g < k
  | 0, g, h => by simp [grF] at h
  | k + 1, g, h => by
    unfold grF at h
    split at h
    · exact Nat.lt_succ_of_lt (grF_lt n k g h)
    · simp only [Option.some.injEq] at h; omega
theorem grOf_bd (a b c d most : Int) : (0 : Int) ≤ (((grOf a b c d most).getD 0 : Nat) : Int) ∧ (((grOf a b c d most).getD 0 : Nat) : Int) ≤ 3 := by
  cases h : grOf a b c d most with
  | none => simp
  | some g => have := grF_lt _ _ _ h; simp only [Option.getD_some]; omega
def grOuts (a b c d most : Int) : List (Out XE) := [Out.one (.tup [(false, [.int false .i64 (((grOf a b c d most).getD 0 : Nat) : Int) (.w 0 3 (grOf_bd a b c d most))]), (false, [.boo false (grOf a b c d most).isSome])])]
def grY (a b c d most : Int) : Type := {j : Int // j ≤ 3 ∧ grF (nodeN a b c d) (j + 1).toNat = grOf a b c d most}
/-- What the executor leaves to be shown of roundelay/roundelayref07.Digit, written out. -/
theorem rdig_vc (key level : Int) : (callN Try.prog ([] : List (Smry Try.prog XE)) (fun _ _ => false) 100 20 182 [.c (.int false .i64 key), .c (.int false .i64 level)] ⟨[], 100⟩ (bF 7) (fun v m _ => nthO (digOuts key level) ((fun _ => 0) v) v m)) = (
    (decide (key < (0 : Int)) = true → ∃ (z : Un), True ∧ dgF key level = (0 : Int) ∧ True) ∧ (decide (key < (0 : Int)) = false → (decide (key > (255 : Int)) = true → ∃ (z : Un), True ∧
    dgF key level = (0 : Int) ∧ True) ∧ (decide (key > (255 : Int)) = false → (decide (level < (0 : Int)) = true → ∃ (z : Un), True ∧ dgF key level = (0 : Int) ∧ True) ∧ (decide (level
    < (0 : Int)) = false → (decide (level > (3 : Int)) = true → ∃ (z : Un), True ∧ dgF key level = (0 : Int) ∧ True) ∧ (decide (level > (3 : Int)) = false → (decide (level < (3 : Int))
    = true → ((0 : Int) ≤ key ∧ (0 : Int) < (4 : Int) ∧ (-9223372036854775808 : Int) ≤ key ∧ key ≤ (9223372036854775807 : Int)) ∧ ((-9223372036854775808 : Int) ≤ level + (1 : Int) ∧
    level + (1 : Int) ≤ (9223372036854775807 : Int)) ∧ (decide (level + (1 : Int) < (3 : Int)) = true → ((0 : Int) ≤ key / (4 : Int) ∧ (0 : Int) < (4 : Int) ∧ (-9223372036854775808 :
    Int) ≤ key / (4 : Int) ∧ key / (4 : Int) ≤ (9223372036854775807 : Int)) ∧ ((-9223372036854775808 : Int) ≤ level + (1 : Int) + (1 : Int) ∧ level + (1 : Int) + (1 : Int) ≤
    (9223372036854775807 : Int)) ∧ (decide (level + (1 : Int) + (1 : Int) < (3 : Int)) = true → ((0 : Int) ≤ key / (4 : Int) / (4 : Int) ∧ (0 : Int) < (4 : Int) ∧ (-9223372036854775808
    : Int) ≤ key / (4 : Int) / (4 : Int) ∧ key / (4 : Int) / (4 : Int) ≤ (9223372036854775807 : Int)) ∧ ((-9223372036854775808 : Int) ≤ level + (1 : Int) + (1 : Int) + (1 : Int) ∧ level
    + (1 : Int) + (1 : Int) + (1 : Int) ≤ (9223372036854775807 : Int)) ∧ decide (level + (1 : Int) + (1 : Int) + (1 : Int) < (3 : Int)) = false ∧ ((0 : Int) ≤ key / (4 : Int) / (4 :
    Int) / (4 : Int) ∧ (0 : Int) < (4 : Int)) ∧ ∃ (z : Un), True ∧ dgF key level = key / (4 : Int) / (4 : Int) / (4 : Int) % (4 : Int) ∧ True) ∧ (decide (level + (1 : Int) + (1 : Int) <
    (3 : Int)) = false → ((0 : Int) ≤ key / (4 : Int) / (4 : Int) ∧ (0 : Int) < (4 : Int)) ∧ ∃ (z : Un), True ∧ dgF key level = key / (4 : Int) / (4 : Int) % (4 : Int) ∧ True)) ∧
    (decide (level + (1 : Int) < (3 : Int)) = false → ((0 : Int) ≤ key / (4 : Int) ∧ (0 : Int) < (4 : Int)) ∧ ∃ (z : Un), True ∧ dgF key level = key / (4 : Int) % (4 : Int) ∧ True)) ∧
    (decide (level < (3 : Int)) = false → ((0 : Int) ≤ key ∧ (0 : Int) < (4 : Int)) ∧ ∃ (z : Un), True ∧ dgF key level = key % (4 : Int) ∧ True)))))) := by
  kernel_rfl
theorem rdig_run (key level : Int) (hc : True) : Run (callN Try.prog ([] : List (Smry Try.prog XE)) (fun _ _ => false) 100 20 182 [.c (.int false .i64 key), .c (.int false .i64 level)] ⟨[], 100⟩ (bF 7) (fun v m _ => nthO (digOuts key level) ((fun _ => 0) v) v m)) := by
  constructor
  rw [rdig_vc]
  repeat' first
    | with_reducible apply And.intro
    | with_reducible exact trivial
    | (intro h; first | have := of_decide_eq_true h | have := of_decide_eq_false h)
    | with_reducible refine Exists.intro Un.mk ?_
  all_goals first
    | omega
    | (unfold dgF; rw [if_pos (by omega)])
    | (unfold dgF; rw [if_neg (by omega)]; done)
    | exact Int.ediv_nonneg (by omega) (Int.natCast_nonneg _)
    | exact Int.le_trans (by decide) (Int.ediv_nonneg (by omega) (Int.natCast_nonneg _))
    | exact Int.le_trans (Int.ediv_le_self _ (by omega)) (by omega)
    | skip

  all_goals first
    | exact decide_eq_false (by omega)
    | (have h3 : level = 3 := by omega
       subst h3
       unfold dgF
       rw [if_neg (by omega), show (((2 ^ (2 * (3 - (3 : Int))).toNat : Nat) : Nat) : Int) = 1 by decide]
       omega)
    | (have h3 : level = 2 := by omega
       subst h3
       unfold dgF
       rw [if_neg (by omega), show (((2 ^ (2 * (3 - (2 : Int))).toNat : Nat) : Nat) : Int) = 4 by decide]
       )
    | (have h3 : level = 1 := by omega
       subst h3
       unfold dgF
       rw [if_neg (by omega), show (((2 ^ (2 * (3 - (1 : Int))).toNat : Nat) : Nat) : Int) = 16 by decide]
       omega)
    | (have h3 : level = 0 := by omega
       subst h3
       unfold dgF
       rw [if_neg (by omega), show (((2 ^ (2 * (3 - (0 : Int))).toNat : Nat) : Nat) : Int) = 64 by decide]
       omega)
def rdigS : Smry Try.prog XE := outS 182 (fun args => match args with
  | [.c (.int _ .i64 key _), .c (.int _ .i64 level _)] => some ([.c (.int false .i64 key), .c (.int false .i64 level)], True, digOuts key level)
  | _ => none)
  ⟨(by intro args na c os h ν; split at h <;> first | (cases h; rfl) | cases h), (by intro args na c os h hc; split at h <;> first | (cases h; exact ⟨([] : List (Smry Try.prog XE)), _, _, _, _, _, rdig_run _ _ hc⟩) | cases h)⟩
/-- What the executor leaves to be shown of roundelay/quad.Greatest, written out. -/
theorem gre_vc (a b c d most : Int) : (callN Try.prog ([] : List (Smry Try.prog XE)) (fun _ _ => false) 100 20 123 [.agg [.int false .u64 a, .int false .u64 b, .int false .u64 c, .int false .u64 d], .c (.int false .i64 most)] ⟨[], 100⟩ (.inv (fun _ => false) [] (grY a b c d most) (fun _ y => ([(6, .c (.int false .i64 y.1))], [])) (fun y => (y.1 + 1).toNat) (fun _ => bN 2)) (fun v m _ => nthO (grOuts a b c d most) ((fun _ => 0) v) v m)) = (
    (∃ (y : grY a b c d most), a = a ∧ b = b ∧ c = c ∧ d = d ∧ most = most ∧ most = most ∧ min most (3 : Int) = min most (3 : Int) ∧ a = a ∧ b = b ∧ c = c ∧ d = d ∧ y.val = min most (3
    : Int) ∧ True) ∧ ∀ (y : grY a b c d most) (ρ : Nat → Value), (decide (y.val ≥ (0 : Int)) = true → ((0 : Int) ≤ y.val ∧ y.val < (4 : Int)) ∧ y.val.toNat < (4 : Nat) ∧ (([a, b, c,
    d].getD y.val.toNat (0 : Int) != (0 : Int)) = true → ∃ (z : Un), True ∧ (↑((grOf a b c d most).getD (0 : Nat)) : Int) = y.val ∧ (grOf a b c d most).isSome = true ∧ True) ∧ (([a, b,
    c, d].getD y.val.toNat (0 : Int) != (0 : Int)) = false → ((-9223372036854775808 : Int) ≤ y.val - (1 : Int) ∧ y.val - (1 : Int) ≤ (9223372036854775807 : Int)) ∧ ∃ (y' : grY a b c d
    most), (y'.val + (1 : Int)).toNat < (y.val + (1 : Int)).toNat ∧ a = a ∧ b = b ∧ c = c ∧ d = d ∧ most = most ∧ most = most ∧ min most (3 : Int) = min most (3 : Int) ∧ a = a ∧ b = b ∧
    c = c ∧ d = d ∧ y'.val = y.val - (1 : Int) ∧ True)) ∧ (decide (y.val ≥ (0 : Int)) = false → ∃ (z : Un), True ∧ (↑((grOf a b c d most).getD (0 : Nat)) : Int) = (0 : Int) ∧ (grOf a b
    c d most).isSome = false ∧ True)) := by
  kernel_rfl
theorem gre_run (a b c d most : Int) (hc : True) : Run (callN Try.prog ([] : List (Smry Try.prog XE)) (fun _ _ => false) 100 20 123 [.agg [.int false .u64 a, .int false .u64 b, .int false .u64 c, .int false .u64 d], .c (.int false .i64 most)] ⟨[], 100⟩ (.inv (fun _ => false) [] (grY a b c d most) (fun _ y => ([(6, .c (.int false .i64 y.1))], [])) (fun y => (y.1 + 1).toNat) (fun _ => bN 2)) (fun v m _ => nthO (grOuts a b c d most) ((fun _ => 0) v) v m)) := by
  constructor
  rw [gre_vc]
  simp only [eq_self, true_and, and_true]
  refine ⟨⟨⟨min most 3, by omega, rfl⟩, rfl⟩, fun y _ => ?_⟩
  obtain ⟨j, hj, hg⟩ := y
  dsimp only
  refine ⟨fun h => ?_, fun h => ?_⟩
  · have h0 := of_decide_eq_true h
    obtain ⟨k, rfl⟩ : ∃ k : Nat, j = k := ⟨j.toNat, by omega⟩
    have e1 : ((k : Int) + 1).toNat = k + 1 := by omega
    rw [e1] at hg
    simp only [Int.toNat_natCast]
    refine ⟨⟨by omega, by omega⟩, by omega, fun h1 => ?_, fun h1 => ?_⟩
    · have h2 : nodeN a b c d k ≠ 0 := by simpa [nodeN] using h1
      rw [← hg]
      simp only [grF, if_neg h2]
      exact ⟨Un.mk, rfl, rfl⟩
    · have h2 : nodeN a b c d k = 0 := by simpa [nodeN] using h1
      refine ⟨⟨by omega, by omega⟩, ⟨(k : Int) - 1, by omega, ?_⟩, by dsimp only; omega, rfl⟩
      rw [← hg, show ((k : Int) - 1 + 1).toNat = k by omega]
      simp only [grF, if_pos h2]
  · have h0 := of_decide_eq_false h
    rw [← hg, show (j + 1).toNat = 0 by omega]
    exact ⟨Un.mk, rfl, rfl⟩
def greS : Smry Try.prog XE := outS 123 (fun args => match args with
  | [.agg [.int _ .u64 a _, .int _ .u64 b _, .int _ .u64 c _, .int _ .u64 d _], .c (.int _ .i64 most _)] => some ([.agg [.int false .u64 a, .int false .u64 b, .int false .u64 c, .int false .u64 d], .c (.int false .i64 most)], True, grOuts a b c d most)
  | _ => none)
  ⟨(by intro args na c os h ν; split at h <;> first | (cases h; rfl) | cases h), (by intro args na c os h hc; split at h <;> first | (cases h; exact ⟨([] : List (Smry Try.prog XE)), _, _, _, _, _, gre_run _ _ _ _ _ hc⟩) | cases h)⟩
end Go.Proofs.Ytnfpkadepomjjaa
