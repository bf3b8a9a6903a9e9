/- What the executor knows of entries behind a cursor. -/
import Derived.Test.YtcmoffcaiepgbaaHeadT
import Derived.Test.YtcmoffcaiepgbaaBaseQ
import Derived.Test.YtcmoffcaiepgbaaHeadK
set_option linter.all false
namespace Go.Proofs.Ytcmoffcaiepgbaa
open Go Go.RowKit

def entCells : List Ent → List SC
  | [] => []
  | e :: l => .int true .i64 e.2.1 :: .int true .u64 e.2.2.1 :: .int true .u64 e.2.2.2 :: entCells l
theorem ecells_flat (l : List Ent) : ecells l = l.flatMap fun e => [.int .i64 e.2.1, .int .u64 e.2.2.1, .int .u64 e.2.2.2] := by
  unfold ecells valsOf
  rw [Go.Deep.flatMap_by_index l (0, 0, 0, 0)]
  rfl
theorem entCells_den (ν : Nat → Nat) : ∀ l, SC.denL ν (entCells l) = l.flatMap fun e => [.int .i64 e.2.1, .int .u64 e.2.2.1, .int .u64 e.2.2.2]
  | [] => rfl
  | e :: l => by
    have := entCells_den ν l
    simp only [entCells, SC.denL, SC.den, this, List.flatMap_cons, List.cons_append, List.nil_append]
def curCells : List Ent → List SC
  | [] => []
  | e :: l => .int true .u64 ((e.1 : Nat) : Int) :: curCells l
theorem ccells_map (l : List Ent) : ccells l = l.map fun e => .int .u64 ((e.1 : Nat) : Int) := by
  unfold ccells intsOf
  rw [Go.Deep.map_by_index l (0, 0, 0, 0)]
  rfl
theorem curCells_den (ν : Nat → Nat) : ∀ l, SC.denL ν (curCells l) = l.map fun e => .int .u64 ((e.1 : Nat) : Int)
  | [] => rfl
  | e :: l => by
    have := curCells_den ν l
    simp only [curCells, SC.denL, SC.den, this, List.map_cons]
theorem hlist_bo {A : Ar} {cur : Nat} {p : Nat} {e : Ending} {w w' : World} {R : Assn} (h : Kept w w' ∧
      ((chain A cur = none ∧ e = .returned (.tuple #[.slice none 0 0, .bool false]) ∧ Sat w' (arAt p A * R)) ∨
      (∃ l, chain A cur = some l ∧ ∃ v, e = .returned (.tuple #[v, .bool true]) ∧ Sat w' (rowK 77 3 v l.length (ecells l) * (arAt p A * R))))) :
    Kept w w' ∧ (((chain A cur).isSome = false ∧ e = .returned (.tuple #[.slice none 0 0, .bool false]) ∧ Sat w' (arAt p A * R)) ∨
      ((chain A cur).isSome = true ∧ ∃ v, e = .returned (.tuple #[v, .bool true]) ∧ Sat w' (rowK 77 3 v ((chain A cur).getD []).length (ecells ((chain A cur).getD [])) * (arAt p A * R)))) := by
  obtain ⟨hk, ⟨hc, h⟩ | ⟨l, hc, h⟩⟩ := h
  · exact ⟨hk, .inl ⟨by rw [hc]; rfl, h⟩⟩
  · exact ⟨hk, .inr ⟨by rw [hc]; rfl, by rw [hc]; exact h⟩⟩
theorem hhandles_bo {A : Ar} {cur : Nat} {p : Nat} {e : Ending} {w w' : World} {R : Assn} (h : Kept w w' ∧
      ((chain A cur = none ∧ e = .returned (.tuple #[.slice none 0 0, .bool false]) ∧ Sat w' (arAt p A * R)) ∨
      (∃ l, chain A cur = some l ∧ ∃ v, e = .returned (.tuple #[v, .bool true]) ∧ Sat w' (rowK 25 1 v l.length (ccells l) * (arAt p A * R))))) :
    Kept w w' ∧ (((chain A cur).isSome = false ∧ e = .returned (.tuple #[.slice none 0 0, .bool false]) ∧ Sat w' (arAt p A * R)) ∨
      ((chain A cur).isSome = true ∧ ∃ v, e = .returned (.tuple #[v, .bool true]) ∧ Sat w' (rowK 25 1 v ((chain A cur).getD []).length (ccells ((chain A cur).getD [])) * (arAt p A * R)))) := by
  obtain ⟨hk, ⟨hc, h⟩ | ⟨l, hc, h⟩⟩ := h
  · exact ⟨hk, .inl ⟨by rw [hc]; rfl, h⟩⟩
  · exact ⟨hk, .inr ⟨by rw [hc]; rfl, by rw [hc]; exact h⟩⟩
/-- The entries behind a cursor that are known: all is reckoned. -/
def hlistN : Smry Try.prog XE where
  g := 46
  run := fun args m K => match args with
    | [.c (.ptr n 0), .c (.int _ .u64 cur _)] => match m.hp.get n with
      | some (.ext (.ar A)) => bif leI 0 cur && (leI cur 18446744073709551615 && Nat.ble A.s.back.length 70000) then (match chain A cur.toNat with
        | some (p :: ps) => knL (fun l => outN (p :: ps).length fun k => ∀ cap, k ≤ cap → bif newOk m (.row 77 3 k cap l) then K (.tup [(false, [.sli m.nx 3 true 0 true k cap]), okB true]) (withNew m (.row 77 3 k cap l)) else Stuck 843) (entCells (p :: ps))
        | some [] => Stuck 844
        | none => K (.tup [(false, [.nls]), okB false]) m) else Stuck 845
      | _ => Stuck 841
    | _ => Stuck 842
  ok := fun args m K hr => by
    split at hr <;> try exact hr.elim
    rename_i n _ cur _
    split at hr <;> try exact hr.elim
    rename_i A hA
    cases hc : leI 0 cur && (leI cur 18446744073709551615 && Nat.ble A.s.back.length 70000) <;> rw [hc] at hr
    · exact hr.elim
    simp only [Bool.and_eq_true, Nat.ble_eq] at hc
    have h1 := leI_le hc.1
    have h2 := leI_le hc.2.1
    have hb := hc.2.2
    obtain ⟨z, rfl⟩ : ∃ z : Nat, cur = z := ⟨cur.toNat, by omega⟩
    simp only [Int.toNat_natCast, cond_true] at *
    refine gives_rowK hA (T := 77) (k := 3) (cnt := ((chain A z).getD []).length) (xs := ecells ((chain A z).getD [])) (bo := (chain A z).isSome) (fun ν w R H => (hlist_calls (ν n) A z w H (by unfold TW; omega) hb).mono fun e w' h => hlist_bo h) ?_ ?_ ?_
    all_goals
      split at hr <;> try exact hr.elim
    · rename_i h; intro e; rw [h] at e; cases e
    · intro; exact hr
    · rename_i h; intro _ e; rw [h] at e; simp at e
    · rename_i h; intro e; rw [h] at e; cases e
    · rename_i p ps h
      rw [h]
      intro _ cap hcap
      obtain ⟨r, hk, hl, hd⟩ := knL_of hr
      simp only [outN_eq] at hk
      have hk := hk cap hcap
      cases hn : newOk m (SO.row 77 3 (p :: ps).length cap r : SO XE) <;> rw [hn] at hk
      · exact hk.elim
      refine ⟨_, true, fun ν b w R H => ?_, hn, hk⟩
      simp only [SO.den]
      rw [hd, entCells_den, ← ecells_flat]
      exact H
    · rename_i h; intro e; rw [h] at e; cases e
def hhandlesN : Smry Try.prog XE where
  g := 47
  run := fun args m K => match args with
    | [.c (.ptr n 0), .c (.int _ .u64 cur _)] => match m.hp.get n with
      | some (.ext (.ar A)) => bif leI 0 cur && (leI cur 18446744073709551615 && Nat.ble A.s.back.length 70000) then (match chain A cur.toNat with
        | some (p :: ps) => knL (fun l => outN (p :: ps).length fun k => ∀ cap, k ≤ cap → bif newOk m (.row 25 1 k cap l) then K (.tup [(false, [.sli m.nx 1 true 0 true k cap]), okB true]) (withNew m (.row 25 1 k cap l)) else Stuck 843) (curCells (p :: ps))
        | some [] => Stuck 844
        | none => K (.tup [(false, [.nls]), okB false]) m) else Stuck 845
      | _ => Stuck 841
    | _ => Stuck 842
  ok := fun args m K hr => by
    split at hr <;> try exact hr.elim
    rename_i n _ cur _
    split at hr <;> try exact hr.elim
    rename_i A hA
    cases hc : leI 0 cur && (leI cur 18446744073709551615 && Nat.ble A.s.back.length 70000) <;> rw [hc] at hr
    · exact hr.elim
    simp only [Bool.and_eq_true, Nat.ble_eq] at hc
    have h1 := leI_le hc.1
    have h2 := leI_le hc.2.1
    have hb := hc.2.2
    obtain ⟨z, rfl⟩ : ∃ z : Nat, cur = z := ⟨cur.toNat, by omega⟩
    simp only [Int.toNat_natCast, cond_true] at *
    refine gives_rowK hA (T := 25) (k := 1) (cnt := ((chain A z).getD []).length) (xs := ccells ((chain A z).getD [])) (bo := (chain A z).isSome) (fun ν w R H => (hhandles_calls (ν n) A z w H (by unfold TW; omega) hb).mono fun e w' h => hhandles_bo h) ?_ ?_ ?_
    all_goals
      split at hr <;> try exact hr.elim
    · rename_i h; intro e; rw [h] at e; cases e
    · intro; exact hr
    · rename_i h; intro _ e; rw [h] at e; simp at e
    · rename_i h; intro e; rw [h] at e; cases e
    · rename_i p ps h
      rw [h]
      intro _ cap hcap
      obtain ⟨r, hk, hl, hd⟩ := knL_of hr
      simp only [outN_eq] at hk
      have hk := hk cap hcap
      cases hn : newOk m (SO.row 25 1 (p :: ps).length cap r : SO XE) <;> rw [hn] at hk
      · exact hk.elim
      refine ⟨_, true, fun ν b w R H => ?_, hn, hk⟩
      simp only [SO.den]
      rw [hd, curCells_den, ← ccells_map]
      exact H
    · rename_i h; intro e; rw [h] at e; cases e
end Go.Proofs.Ytcmoffcaiepgbaa

/- The statements of layer 9: first answers true, by the executor. -/
namespace Go.Proofs.Ytcmoffcaiepgbaa
open Go
set_option maxRecDepth 1000000
set_option maxHeartbeats 0
def tblHF : List (Smry Try.prog XE) := [newX, layX true, hlistN, hhandlesN, read8K, hsmallS.known, rgtS.known, drgtS.known]
/-- What the executor leaves to be shown, written out. -/
theorem first09_vc  : (callN Try.prog tblHF (fun _ _ => false) 100 20 34 [] ⟨[], 0⟩ .nil (fun v _ _ => retTrue v)) = (
    True ∧ (∀ (z : Un), True → ((0 : Int) ≤ (65537 : Int) ∧ (65537 : Int) ≤ (18446744073709551615 : Int)) ∧ (∀ (z : Un), True → (((0 : Int) ≤ (3 : Int) ∧ (3 : Int) ≤
    (18446744073709551615 : Int)) ∧ (∀ (z : Un), True → (((((0 : Int) ≤ (255 : Int) ∧ (255 : Int) ≤ (18446744073709551615 : Int)) ∧ (∀ (z : Un), True → ((((0 : Int) ≤ (9 : Int) ∧ (9 :
    Int) ≤ (60000 : Int)) ∧ (3 : Nat) = (3 : Nat) ∧ (3 : Nat) = (3 : Nat) ∧ ((1 : Nat) ≤ (3 : Nat) ∧ (3 : Nat) ≤ (2048 : Nat)) ∧ (3 : Nat) ≤ (9 : Nat) ∧ ([] : List Nat) = [] ∧ (0 : Nat)
    < (268435455 : Nat) ∧ True ∧ ∀ (v : Value), (3 : Nat) = (3 : Nat) ∧ (3 : Nat) = (3 : Nat) ∧ ((1 : Nat) ≤ (3 : Nat) ∧ (3 : Nat) ≤ (2048 : Nat)) ∧ (3 : Nat) + (3 : Nat) ≤ (9 : Nat) ∧
    ([] : List Nat) = [] ∧ (1 : Nat) < (268435455 : Nat) ∧ True ∧ ∀ (v : Value) (cap : Nat), (2 : Nat) ≤ cap → ∀ (cap_1 : Nat), (2 : Nat) ≤ cap_1 → (cap = cap ∧ cap_1 = cap_1 ∧ (cap =
    cap ∧ cap_1 = cap_1 ∧ true = true) ∧ True) ∧ True) ∧ True) ∧ True) ∧ True) ∧ (∀ (K : KO XE), ((0 : Int) ≤ (255 : Int) ∧ (255 : Int) ≤ (18446744073709551615 : Int)) ∧ (∀ (z : Un),
    True → (K (SF.mk (31 : Nat) (ST.node (SV.c (SC.sli (415 : Nat) (1 : Nat) true (0 : Nat) true (3 : Nat) (3 : Nat))) (ST.node (SV.tup []) (ST.node (SV.c (SC.boo true false)) (ST.node
    (SV.c (SC.sli (415 : Nat) (1 : Nat) true (0 : Nat) true (3 : Nat) (3 : Nat))) (ST.node (SV.c (SC.sli (415 : Nat) (1 : Nat) true (0 : Nat) true (3 : Nat) (3 : Nat))) ST.nil ST.nil)
    (ST.node (SV.tup []) ST.nil ST.nil)) (ST.node (SV.c (SC.sli (415 : Nat) (1 : Nat) true (0 : Nat) true (3 : Nat) (3 : Nat))) (ST.node (SV.c (SC.ptr (415 : Nat) (2 : Nat))) ST.nil
    ST.nil) (ST.node (SV.tup []) ST.nil ST.nil))) (ST.node (SV.tup []) (ST.node (SV.c (SC.boo true false)) (ST.node (SV.c (SC.int true IntKind.u64 (0 : Int))) ST.nil ST.nil) (ST.node
    (SV.tup []) ST.nil ST.nil)) (ST.node (SV.c (SC.int true IntKind.u64 (255 : Int))) (ST.node (SV.agg [SC.int true IntKind.i64 (255 : Int) Bd.any, SC.int true IntKind.u64 (0 : Int),
    SC.int true IntKind.u64 (0 : Int)]) ST.nil ST.nil) (ST.node (SV.tup []) ST.nil ST.nil)))) (ST.node (SV.c (SC.ptr (423 : Nat) (0 : Nat))) (ST.node (SV.c (SC.ptr (439 : Nat) (0 :
    Nat))) (ST.node (SV.c (SC.int true IntKind.i64 (3 : Int) Bd.any)) (ST.node (SV.c (SC.ptr (415 : Nat) (1 : Nat))) ST.nil ST.nil) (ST.node (SV.tup []) ST.nil ST.nil)) (ST.node (SV.c
    (SC.ptr (415 : Nat) (0 : Nat))) (ST.node (SV.c (SC.int true IntKind.u64 (0 : Int))) ST.nil ST.nil) (ST.node (SV.tup []) ST.nil ST.nil))) (ST.node (SV.tup []) (ST.node (SV.tup [])
    (ST.node (SV.c (SC.sli (415 : Nat) (1 : Nat) true (0 : Nat) true (3 : Nat) (3 : Nat))) ST.nil ST.nil) (ST.node (SV.tup []) ST.nil ST.nil)) (ST.node (SV.c (SC.int true IntKind.i64
    (255 : Int) Bd.any)) (ST.node (SV.tup []) ST.nil ST.nil) (ST.node (SV.tup []) ST.nil ST.nil))))) []) (Mem.mk [((8 : Nat), SO.cells [SC.int true IntKind.u64 (0 : Int), SC.int true
    IntKind.i64 (0 : Int), SC.int true IntKind.u64 (0 : Int), SC.int true IntKind.i64 (0 : Int), SC.int true IntKind.i64 (0 : Int), SC.int true IntKind.u64 (0 : Int), SC.int true
    IntKind.i64 (0 : Int)] (75 : Nat)), ((22 : Nat), SO.cells [SC.int true IntKind.u64 (0 : Int), SC.int true IntKind.u64 (0 : Int), SC.int true IntKind.u64 (0 : Int), SC.int true
    IntKind.u64 (0 : Int)] (25 : Nat)), ((103 : Nat), SO.cells [SC.int true IntKind.u64 (0 : Int), SC.int true IntKind.u64 (0 : Int), SC.int true IntKind.u64 (0 : Int) Bd.any, SC.int
    true IntKind.u64 (0 : Int), SC.int true IntKind.u64 (0 : Int) Bd.any, SC.int true IntKind.u64 (0 : Int) Bd.any, SC.int true IntKind.u64 (0 : Int), SC.int true IntKind.u64 (0 : Int)
    Bd.any] (25 : Nat)), ((106 : Nat), SO.cells [SC.int true IntKind.u64 (65537 : Int), SC.int true IntKind.u64 (0 : Int), SC.int true IntKind.u64 (0 : Int), SC.int true IntKind.u64
    (131074 : Int), SC.int true IntKind.u64 (255 : Int), SC.int true IntKind.u64 (1 : Int), SC.int true IntKind.u64 (0 : Int), SC.int true IntKind.u64 (0 : Int)] (25 : Nat)), ((112 :
    Nat), SO.cells [SC.int true IntKind.u64 (0 : Int) Bd.any, SC.int true IntKind.i64 (0 : Int) Bd.any, SC.int true IntKind.u64 (131074 : Int) Bd.any, SC.int true IntKind.i64 (255 :
    Int) Bd.any, SC.int true IntKind.i64 (1 : Int) Bd.any, SC.int true IntKind.u64 (0 : Int) Bd.any, SC.int true IntKind.i64 (0 : Int) Bd.any] (75 : Nat)), ((123 : Nat), SO.cells
    [SC.int true IntKind.i64 (254 : Int), SC.int true IntKind.u64 (30064771077 : Int), SC.int true IntKind.u64 (65537 : Int)] (77 : Nat)), ((133 : Nat), SO.cells [SC.int true
    IntKind.i64 (0 : Int) Bd.any, SC.int true IntKind.i64 (5 : Int) Bd.any] (155 : Nat)), ((147 : Nat), SO.cells [SC.int true IntKind.i64 (0 : Int) Bd.any, SC.int true IntKind.i64 (5 :
    Int) Bd.any] (155 : Nat)), ((159 : Nat), SO.cells [SC.int true IntKind.i64 (0 : Int) Bd.any, SC.int true IntKind.i64 (5 : Int) Bd.any] (155 : Nat)), ((164 : Nat), SO.cells [SC.int
    true IntKind.i64 (0 : Int) Bd.any, SC.int true IntKind.i64 (5 : Int) Bd.any] (155 : Nat)), ((221 : Nat), SO.cells [SC.int true IntKind.u64 (65537 : Int)] (25 : Nat)), ((251 : Nat),
    SO.cells [SC.int true IntKind.u64 (254 : Int) Bd.any, SC.int true IntKind.u64 (30064771077 : Int), SC.int true IntKind.u64 (65537 : Int)] (25 : Nat)), ((254 : Nat), SO.cells [SC.int
    true IntKind.u64 (3 : Int), SC.int true IntKind.u64 (4294967296 : Int), SC.int true IntKind.u64 (0 : Int)] (25 : Nat)), ((259 : Nat), SO.cells [SC.int true IntKind.i64 (3 : Int)
    Bd.any, SC.int true IntKind.u64 (4294967296 : Int), SC.int true IntKind.u64 (0 : Int)] (77 : Nat)), ((262 : Nat), SO.cells [SC.int true IntKind.i64 (3 : Int) Bd.any, SC.int true
    IntKind.u64 (4294967296 : Int), SC.int true IntKind.u64 (0 : Int)] (77 : Nat)), ((278 : Nat), SO.cells [SC.int true IntKind.i64 (3 : Int) Bd.any, SC.int true IntKind.u64 (4294967296
    : Int), SC.int true IntKind.u64 (0 : Int)] (77 : Nat)), ((287 : Nat), SO.cells [SC.int true IntKind.i64 (3 : Int) Bd.any, SC.int true IntKind.u64 (4294967296 : Int), SC.int true
    IntKind.u64 (0 : Int)] (77 : Nat)), ((297 : Nat), SO.cells [SC.int true IntKind.i64 (0 : Int) Bd.any, SC.int true IntKind.i64 (0 : Int) Bd.any] (155 : Nat)), ((311 : Nat), SO.cells
    [SC.int true IntKind.i64 (0 : Int) Bd.any, SC.int true IntKind.i64 (0 : Int) Bd.any] (155 : Nat)), ((323 : Nat), SO.cells [SC.int true IntKind.i64 (0 : Int) Bd.any, SC.int true
    IntKind.i64 (0 : Int) Bd.any] (155 : Nat)), ((328 : Nat), SO.cells [SC.int true IntKind.i64 (0 : Int) Bd.any, SC.int true IntKind.i64 (0 : Int) Bd.any] (155 : Nat)), ((377 : Nat),
    SO.cells [SC.int true IntKind.u64 (0 : Int)] (25 : Nat)), ((407 : Nat), SO.cells [SC.int true IntKind.u64 (3 : Int) Bd.any, SC.int true IntKind.u64 (4294967296 : Int), SC.int true
    IntKind.u64 (0 : Int)] (25 : Nat)), ((415 : Nat), SO.cells [SC.int true IntKind.u64 (255 : Int), SC.int true IntKind.u64 (0 : Int), SC.int true IntKind.u64 (0 : Int)] (25 : Nat)),
    ((423 : Nat), SO.cells [SC.int true IntKind.i64 (0 : Int), SC.int true IntKind.u64 (0 : Int), SC.int true IntKind.u64 (0 : Int)] (77 : Nat)), ((439 : Nat), SO.cells [SC.int true
    IntKind.i64 (255 : Int) Bd.any, SC.int true IntKind.u64 (0 : Int), SC.int true IntKind.u64 (0 : Int)] (77 : Nat))] (441 : Nat)) Scr.nil ∧ True) ∧ True) ∧ True → (((0 : Int) ≤ (255 :
    Int) ∧ (255 : Int) ≤ (18446744073709551615 : Int)) ∧ (∀ (z : Un), True → K (SF.mk (31 : Nat) (ST.node (SV.c (SC.sli (415 : Nat) (1 : Nat) true (0 : Nat) true (3 : Nat) (3 : Nat)))
    (ST.node (SV.tup []) (ST.node (SV.c (SC.boo true false)) (ST.node (SV.c (SC.sli (415 : Nat) (1 : Nat) true (0 : Nat) true (3 : Nat) (3 : Nat))) (ST.node (SV.c (SC.sli (415 : Nat) (1
    : Nat) true (0 : Nat) true (3 : Nat) (3 : Nat))) ST.nil ST.nil) (ST.node (SV.tup []) ST.nil ST.nil)) (ST.node (SV.c (SC.sli (415 : Nat) (1 : Nat) true (0 : Nat) true (3 : Nat) (3 :
    Nat))) (ST.node (SV.c (SC.ptr (415 : Nat) (2 : Nat))) ST.nil ST.nil) (ST.node (SV.tup []) ST.nil ST.nil))) (ST.node (SV.tup []) (ST.node (SV.c (SC.boo true false)) (ST.node (SV.c
    (SC.int true IntKind.u64 (0 : Int))) ST.nil ST.nil) (ST.node (SV.tup []) ST.nil ST.nil)) (ST.node (SV.c (SC.int true IntKind.u64 (255 : Int))) (ST.node (SV.agg [SC.int true
    IntKind.i64 (255 : Int) Bd.any, SC.int true IntKind.u64 (0 : Int), SC.int true IntKind.u64 (0 : Int)]) ST.nil ST.nil) (ST.node (SV.tup []) ST.nil ST.nil)))) (ST.node (SV.c (SC.ptr
    (423 : Nat) (0 : Nat))) (ST.node (SV.c (SC.ptr (439 : Nat) (0 : Nat))) (ST.node (SV.c (SC.int true IntKind.i64 (3 : Int) Bd.any)) (ST.node (SV.c (SC.ptr (415 : Nat) (1 : Nat)))
    ST.nil ST.nil) (ST.node (SV.tup []) ST.nil ST.nil)) (ST.node (SV.c (SC.ptr (415 : Nat) (0 : Nat))) (ST.node (SV.c (SC.int true IntKind.u64 (0 : Int))) ST.nil ST.nil) (ST.node
    (SV.tup []) ST.nil ST.nil))) (ST.node (SV.tup []) (ST.node (SV.tup []) (ST.node (SV.c (SC.sli (415 : Nat) (1 : Nat) true (0 : Nat) true (3 : Nat) (3 : Nat))) ST.nil ST.nil) (ST.node
    (SV.tup []) ST.nil ST.nil)) (ST.node (SV.c (SC.int true IntKind.i64 (255 : Int) Bd.any)) (ST.node (SV.tup []) ST.nil ST.nil) (ST.node (SV.tup []) ST.nil ST.nil))))) []) (Mem.mk [((8
    : Nat), SO.cells [SC.int true IntKind.u64 (0 : Int), SC.int true IntKind.i64 (0 : Int), SC.int true IntKind.u64 (0 : Int), SC.int true IntKind.i64 (0 : Int), SC.int true IntKind.i64
    (0 : Int), SC.int true IntKind.u64 (0 : Int), SC.int true IntKind.i64 (0 : Int)] (75 : Nat)), ((22 : Nat), SO.cells [SC.int true IntKind.u64 (0 : Int), SC.int true IntKind.u64 (0 :
    Int), SC.int true IntKind.u64 (0 : Int), SC.int true IntKind.u64 (0 : Int)] (25 : Nat)), ((103 : Nat), SO.cells [SC.int true IntKind.u64 (0 : Int), SC.int true IntKind.u64 (0 :
    Int), SC.int true IntKind.u64 (0 : Int) Bd.any, SC.int true IntKind.u64 (0 : Int), SC.int true IntKind.u64 (0 : Int) Bd.any, SC.int true IntKind.u64 (0 : Int) Bd.any, SC.int true
    IntKind.u64 (0 : Int), SC.int true IntKind.u64 (0 : Int) Bd.any] (25 : Nat)), ((106 : Nat), SO.cells [SC.int true IntKind.u64 (65537 : Int), SC.int true IntKind.u64 (0 : Int),
    SC.int true IntKind.u64 (0 : Int), SC.int true IntKind.u64 (131074 : Int), SC.int true IntKind.u64 (255 : Int), SC.int true IntKind.u64 (1 : Int), SC.int true IntKind.u64 (0 : Int),
    SC.int true IntKind.u64 (0 : Int)] (25 : Nat)), ((112 : Nat), SO.cells [SC.int true IntKind.u64 (0 : Int) Bd.any, SC.int true IntKind.i64 (0 : Int) Bd.any, SC.int true IntKind.u64
    (131074 : Int) Bd.any, SC.int true IntKind.i64 (255 : Int) Bd.any, SC.int true IntKind.i64 (1 : Int) Bd.any, SC.int true IntKind.u64 (0 : Int) Bd.any, SC.int true IntKind.i64 (0 :
    Int) Bd.any] (75 : Nat)), ((123 : Nat), SO.cells [SC.int true IntKind.i64 (254 : Int), SC.int true IntKind.u64 (30064771077 : Int), SC.int true IntKind.u64 (65537 : Int)] (77 :
    Nat)), ((133 : Nat), SO.cells [SC.int true IntKind.i64 (0 : Int) Bd.any, SC.int true IntKind.i64 (5 : Int) Bd.any] (155 : Nat)), ((147 : Nat), SO.cells [SC.int true IntKind.i64 (0 :
    Int) Bd.any, SC.int true IntKind.i64 (5 : Int) Bd.any] (155 : Nat)), ((159 : Nat), SO.cells [SC.int true IntKind.i64 (0 : Int) Bd.any, SC.int true IntKind.i64 (5 : Int) Bd.any] (155
    : Nat)), ((164 : Nat), SO.cells [SC.int true IntKind.i64 (0 : Int) Bd.any, SC.int true IntKind.i64 (5 : Int) Bd.any] (155 : Nat)), ((221 : Nat), SO.cells [SC.int true IntKind.u64
    (65537 : Int)] (25 : Nat)), ((251 : Nat), SO.cells [SC.int true IntKind.u64 (254 : Int) Bd.any, SC.int true IntKind.u64 (30064771077 : Int), SC.int true IntKind.u64 (65537 : Int)]
    (25 : Nat)), ((254 : Nat), SO.cells [SC.int true IntKind.u64 (3 : Int), SC.int true IntKind.u64 (4294967296 : Int), SC.int true IntKind.u64 (0 : Int)] (25 : Nat)), ((259 : Nat),
    SO.cells [SC.int true IntKind.i64 (3 : Int) Bd.any, SC.int true IntKind.u64 (4294967296 : Int), SC.int true IntKind.u64 (0 : Int)] (77 : Nat)), ((262 : Nat), SO.cells [SC.int true
    IntKind.i64 (3 : Int) Bd.any, SC.int true IntKind.u64 (4294967296 : Int), SC.int true IntKind.u64 (0 : Int)] (77 : Nat)), ((278 : Nat), SO.cells [SC.int true IntKind.i64 (3 : Int)
    Bd.any, SC.int true IntKind.u64 (4294967296 : Int), SC.int true IntKind.u64 (0 : Int)] (77 : Nat)), ((287 : Nat), SO.cells [SC.int true IntKind.i64 (3 : Int) Bd.any, SC.int true
    IntKind.u64 (4294967296 : Int), SC.int true IntKind.u64 (0 : Int)] (77 : Nat)), ((297 : Nat), SO.cells [SC.int true IntKind.i64 (0 : Int) Bd.any, SC.int true IntKind.i64 (0 : Int)
    Bd.any] (155 : Nat)), ((311 : Nat), SO.cells [SC.int true IntKind.i64 (0 : Int) Bd.any, SC.int true IntKind.i64 (0 : Int) Bd.any] (155 : Nat)), ((323 : Nat), SO.cells [SC.int true
    IntKind.i64 (0 : Int) Bd.any, SC.int true IntKind.i64 (0 : Int) Bd.any] (155 : Nat)), ((328 : Nat), SO.cells [SC.int true IntKind.i64 (0 : Int) Bd.any, SC.int true IntKind.i64 (0 :
    Int) Bd.any] (155 : Nat)), ((377 : Nat), SO.cells [SC.int true IntKind.u64 (0 : Int)] (25 : Nat)), ((407 : Nat), SO.cells [SC.int true IntKind.u64 (3 : Int) Bd.any, SC.int true
    IntKind.u64 (4294967296 : Int), SC.int true IntKind.u64 (0 : Int)] (25 : Nat)), ((415 : Nat), SO.cells [SC.int true IntKind.u64 (255 : Int), SC.int true IntKind.u64 (0 : Int),
    SC.int true IntKind.u64 (0 : Int)] (25 : Nat)), ((423 : Nat), SO.cells [SC.int true IntKind.i64 (0 : Int), SC.int true IntKind.u64 (0 : Int), SC.int true IntKind.u64 (0 : Int)] (77
    : Nat)), ((439 : Nat), SO.cells [SC.int true IntKind.i64 (255 : Int) Bd.any, SC.int true IntKind.u64 (0 : Int), SC.int true IntKind.u64 (0 : Int)] (77 : Nat))] (441 : Nat)) Scr.nil
    ∧ True) ∧ True) ∧ True) ∧ True) ∧ True) ∧ True) ∧ True) ∧ (∀ (K : KO XE), ((0 : Int) ≤ (3 : Int) ∧ (3 : Int) ≤ (18446744073709551615 : Int)) ∧ (∀ (z : Un), True → (K (SF.mk (31 :
    Nat) (ST.node (SV.c (SC.sli (254 : Nat) (1 : Nat) true (0 : Nat) true (3 : Nat) (3 : Nat))) (ST.node (SV.tup []) (ST.node (SV.c (SC.boo true false)) (ST.node (SV.c (SC.sli (254 :
    Nat) (1 : Nat) true (0 : Nat) true (3 : Nat) (3 : Nat))) (ST.node (SV.c (SC.sli (254 : Nat) (1 : Nat) true (0 : Nat) true (3 : Nat) (3 : Nat))) ST.nil ST.nil) (ST.node (SV.tup [])
    ST.nil ST.nil)) (ST.node (SV.c (SC.sli (254 : Nat) (1 : Nat) true (0 : Nat) true (3 : Nat) (3 : Nat))) (ST.node (SV.c (SC.ptr (254 : Nat) (2 : Nat))) ST.nil ST.nil) (ST.node (SV.tup
    []) ST.nil ST.nil))) (ST.node (SV.tup []) (ST.node (SV.c (SC.boo true false)) (ST.node (SV.c (SC.int true IntKind.u64 (4294967296 : Int))) ST.nil ST.nil) (ST.node (SV.tup []) ST.nil
    ST.nil)) (ST.node (SV.c (SC.int true IntKind.u64 (3 : Int))) (ST.node (SV.agg [SC.int true IntKind.i64 (3 : Int) Bd.any, SC.int true IntKind.u64 (4294967296 : Int), SC.int true
    IntKind.u64 (0 : Int)]) ST.nil ST.nil) (ST.node (SV.tup []) ST.nil ST.nil)))) (ST.node (SV.c (SC.ptr (262 : Nat) (0 : Nat))) (ST.node (SV.c (SC.ptr (278 : Nat) (0 : Nat))) (ST.node
    (SV.c (SC.int true IntKind.i64 (3 : Int) Bd.any)) (ST.node (SV.c (SC.ptr (254 : Nat) (1 : Nat))) ST.nil ST.nil) (ST.node (SV.tup []) ST.nil ST.nil)) (ST.node (SV.c (SC.ptr (254 :
    Nat) (0 : Nat))) (ST.node (SV.c (SC.int true IntKind.u64 (0 : Int))) ST.nil ST.nil) (ST.node (SV.tup []) ST.nil ST.nil))) (ST.node (SV.tup []) (ST.node (SV.tup []) (ST.node (SV.c
    (SC.sli (254 : Nat) (1 : Nat) true (0 : Nat) true (3 : Nat) (3 : Nat))) ST.nil ST.nil) (ST.node (SV.tup []) ST.nil ST.nil)) (ST.node (SV.c (SC.int true IntKind.i64 (3 : Int)
    Bd.any)) (ST.node (SV.tup []) ST.nil ST.nil) (ST.node (SV.tup []) ST.nil ST.nil))))) []) (Mem.mk [((8 : Nat), SO.cells [SC.int true IntKind.u64 (0 : Int), SC.int true IntKind.i64 (0
    : Int), SC.int true IntKind.u64 (0 : Int), SC.int true IntKind.i64 (0 : Int), SC.int true IntKind.i64 (0 : Int), SC.int true IntKind.u64 (0 : Int), SC.int true IntKind.i64 (0 :
    Int)] (75 : Nat)), ((22 : Nat), SO.cells [SC.int true IntKind.u64 (0 : Int), SC.int true IntKind.u64 (0 : Int), SC.int true IntKind.u64 (0 : Int), SC.int true IntKind.u64 (0 : Int)]
    (25 : Nat)), ((103 : Nat), SO.cells [SC.int true IntKind.u64 (0 : Int), SC.int true IntKind.u64 (0 : Int), SC.int true IntKind.u64 (0 : Int) Bd.any, SC.int true IntKind.u64 (0 :
    Int), SC.int true IntKind.u64 (0 : Int) Bd.any, SC.int true IntKind.u64 (0 : Int) Bd.any, SC.int true IntKind.u64 (0 : Int), SC.int true IntKind.u64 (0 : Int) Bd.any] (25 : Nat)),
    ((106 : Nat), SO.cells [SC.int true IntKind.u64 (65537 : Int), SC.int true IntKind.u64 (0 : Int), SC.int true IntKind.u64 (0 : Int), SC.int true IntKind.u64 (131074 : Int), SC.int
    true IntKind.u64 (255 : Int), SC.int true IntKind.u64 (1 : Int), SC.int true IntKind.u64 (0 : Int), SC.int true IntKind.u64 (0 : Int)] (25 : Nat)), ((112 : Nat), SO.cells [SC.int
    true IntKind.u64 (0 : Int) Bd.any, SC.int true IntKind.i64 (0 : Int) Bd.any, SC.int true IntKind.u64 (131074 : Int) Bd.any, SC.int true IntKind.i64 (255 : Int) Bd.any, SC.int true
    IntKind.i64 (1 : Int) Bd.any, SC.int true IntKind.u64 (0 : Int) Bd.any, SC.int true IntKind.i64 (0 : Int) Bd.any] (75 : Nat)), ((123 : Nat), SO.cells [SC.int true IntKind.i64 (254 :
    Int), SC.int true IntKind.u64 (30064771077 : Int), SC.int true IntKind.u64 (65537 : Int)] (77 : Nat)), ((133 : Nat), SO.cells [SC.int true IntKind.i64 (0 : Int) Bd.any, SC.int true
    IntKind.i64 (5 : Int) Bd.any] (155 : Nat)), ((147 : Nat), SO.cells [SC.int true IntKind.i64 (0 : Int) Bd.any, SC.int true IntKind.i64 (5 : Int) Bd.any] (155 : Nat)), ((159 : Nat),
    SO.cells [SC.int true IntKind.i64 (0 : Int) Bd.any, SC.int true IntKind.i64 (5 : Int) Bd.any] (155 : Nat)), ((164 : Nat), SO.cells [SC.int true IntKind.i64 (0 : Int) Bd.any, SC.int
    true IntKind.i64 (5 : Int) Bd.any] (155 : Nat)), ((221 : Nat), SO.cells [SC.int true IntKind.u64 (65537 : Int)] (25 : Nat)), ((251 : Nat), SO.cells [SC.int true IntKind.u64 (254 :
    Int) Bd.any, SC.int true IntKind.u64 (30064771077 : Int), SC.int true IntKind.u64 (65537 : Int)] (25 : Nat)), ((254 : Nat), SO.cells [SC.int true IntKind.u64 (3 : Int), SC.int true
    IntKind.u64 (4294967296 : Int), SC.int true IntKind.u64 (0 : Int)] (25 : Nat)), ((262 : Nat), SO.cells [SC.int true IntKind.i64 (0 : Int), SC.int true IntKind.u64 (0 : Int), SC.int
    true IntKind.u64 (0 : Int)] (77 : Nat)), ((278 : Nat), SO.cells [SC.int true IntKind.i64 (3 : Int) Bd.any, SC.int true IntKind.u64 (4294967296 : Int), SC.int true IntKind.u64 (0 :
    Int)] (77 : Nat))] (280 : Nat)) Scr.nil ∧ True) ∧ True) ∧ True → (((0 : Int) ≤ (3 : Int) ∧ (3 : Int) ≤ (18446744073709551615 : Int)) ∧ (∀ (z : Un), True → K (SF.mk (31 : Nat)
    (ST.node (SV.c (SC.sli (254 : Nat) (1 : Nat) true (0 : Nat) true (3 : Nat) (3 : Nat))) (ST.node (SV.tup []) (ST.node (SV.c (SC.boo true false)) (ST.node (SV.c (SC.sli (254 : Nat) (1
    : Nat) true (0 : Nat) true (3 : Nat) (3 : Nat))) (ST.node (SV.c (SC.sli (254 : Nat) (1 : Nat) true (0 : Nat) true (3 : Nat) (3 : Nat))) ST.nil ST.nil) (ST.node (SV.tup []) ST.nil
    ST.nil)) (ST.node (SV.c (SC.sli (254 : Nat) (1 : Nat) true (0 : Nat) true (3 : Nat) (3 : Nat))) (ST.node (SV.c (SC.ptr (254 : Nat) (2 : Nat))) ST.nil ST.nil) (ST.node (SV.tup [])
    ST.nil ST.nil))) (ST.node (SV.tup []) (ST.node (SV.c (SC.boo true false)) (ST.node (SV.c (SC.int true IntKind.u64 (4294967296 : Int))) ST.nil ST.nil) (ST.node (SV.tup []) ST.nil
    ST.nil)) (ST.node (SV.c (SC.int true IntKind.u64 (3 : Int))) (ST.node (SV.agg [SC.int true IntKind.i64 (3 : Int) Bd.any, SC.int true IntKind.u64 (4294967296 : Int), SC.int true
    IntKind.u64 (0 : Int)]) ST.nil ST.nil) (ST.node (SV.tup []) ST.nil ST.nil)))) (ST.node (SV.c (SC.ptr (262 : Nat) (0 : Nat))) (ST.node (SV.c (SC.ptr (278 : Nat) (0 : Nat))) (ST.node
    (SV.c (SC.int true IntKind.i64 (3 : Int) Bd.any)) (ST.node (SV.c (SC.ptr (254 : Nat) (1 : Nat))) ST.nil ST.nil) (ST.node (SV.tup []) ST.nil ST.nil)) (ST.node (SV.c (SC.ptr (254 :
    Nat) (0 : Nat))) (ST.node (SV.c (SC.int true IntKind.u64 (0 : Int))) ST.nil ST.nil) (ST.node (SV.tup []) ST.nil ST.nil))) (ST.node (SV.tup []) (ST.node (SV.tup []) (ST.node (SV.c
    (SC.sli (254 : Nat) (1 : Nat) true (0 : Nat) true (3 : Nat) (3 : Nat))) ST.nil ST.nil) (ST.node (SV.tup []) ST.nil ST.nil)) (ST.node (SV.c (SC.int true IntKind.i64 (3 : Int)
    Bd.any)) (ST.node (SV.tup []) ST.nil ST.nil) (ST.node (SV.tup []) ST.nil ST.nil))))) []) (Mem.mk [((8 : Nat), SO.cells [SC.int true IntKind.u64 (0 : Int), SC.int true IntKind.i64 (0
    : Int), SC.int true IntKind.u64 (0 : Int), SC.int true IntKind.i64 (0 : Int), SC.int true IntKind.i64 (0 : Int), SC.int true IntKind.u64 (0 : Int), SC.int true IntKind.i64 (0 :
    Int)] (75 : Nat)), ((22 : Nat), SO.cells [SC.int true IntKind.u64 (0 : Int), SC.int true IntKind.u64 (0 : Int), SC.int true IntKind.u64 (0 : Int), SC.int true IntKind.u64 (0 : Int)]
    (25 : Nat)), ((103 : Nat), SO.cells [SC.int true IntKind.u64 (0 : Int), SC.int true IntKind.u64 (0 : Int), SC.int true IntKind.u64 (0 : Int) Bd.any, SC.int true IntKind.u64 (0 :
    Int), SC.int true IntKind.u64 (0 : Int) Bd.any, SC.int true IntKind.u64 (0 : Int) Bd.any, SC.int true IntKind.u64 (0 : Int), SC.int true IntKind.u64 (0 : Int) Bd.any] (25 : Nat)),
    ((106 : Nat), SO.cells [SC.int true IntKind.u64 (65537 : Int), SC.int true IntKind.u64 (0 : Int), SC.int true IntKind.u64 (0 : Int), SC.int true IntKind.u64 (131074 : Int), SC.int
    true IntKind.u64 (255 : Int), SC.int true IntKind.u64 (1 : Int), SC.int true IntKind.u64 (0 : Int), SC.int true IntKind.u64 (0 : Int)] (25 : Nat)), ((112 : Nat), SO.cells [SC.int
    true IntKind.u64 (0 : Int) Bd.any, SC.int true IntKind.i64 (0 : Int) Bd.any, SC.int true IntKind.u64 (131074 : Int) Bd.any, SC.int true IntKind.i64 (255 : Int) Bd.any, SC.int true
    IntKind.i64 (1 : Int) Bd.any, SC.int true IntKind.u64 (0 : Int) Bd.any, SC.int true IntKind.i64 (0 : Int) Bd.any] (75 : Nat)), ((123 : Nat), SO.cells [SC.int true IntKind.i64 (254 :
    Int), SC.int true IntKind.u64 (30064771077 : Int), SC.int true IntKind.u64 (65537 : Int)] (77 : Nat)), ((133 : Nat), SO.cells [SC.int true IntKind.i64 (0 : Int) Bd.any, SC.int true
    IntKind.i64 (5 : Int) Bd.any] (155 : Nat)), ((147 : Nat), SO.cells [SC.int true IntKind.i64 (0 : Int) Bd.any, SC.int true IntKind.i64 (5 : Int) Bd.any] (155 : Nat)), ((159 : Nat),
    SO.cells [SC.int true IntKind.i64 (0 : Int) Bd.any, SC.int true IntKind.i64 (5 : Int) Bd.any] (155 : Nat)), ((164 : Nat), SO.cells [SC.int true IntKind.i64 (0 : Int) Bd.any, SC.int
    true IntKind.i64 (5 : Int) Bd.any] (155 : Nat)), ((221 : Nat), SO.cells [SC.int true IntKind.u64 (65537 : Int)] (25 : Nat)), ((251 : Nat), SO.cells [SC.int true IntKind.u64 (254 :
    Int) Bd.any, SC.int true IntKind.u64 (30064771077 : Int), SC.int true IntKind.u64 (65537 : Int)] (25 : Nat)), ((254 : Nat), SO.cells [SC.int true IntKind.u64 (3 : Int), SC.int true
    IntKind.u64 (4294967296 : Int), SC.int true IntKind.u64 (0 : Int)] (25 : Nat)), ((262 : Nat), SO.cells [SC.int true IntKind.i64 (0 : Int), SC.int true IntKind.u64 (0 : Int), SC.int
    true IntKind.u64 (0 : Int)] (77 : Nat)), ((278 : Nat), SO.cells [SC.int true IntKind.i64 (3 : Int) Bd.any, SC.int true IntKind.u64 (4294967296 : Int), SC.int true IntKind.u64 (0 :
    Int)] (77 : Nat))] (280 : Nat)) Scr.nil ∧ True) ∧ True) ∧ True) ∧ True) ∧ True) ∧ True) := by
  kernel_rfl
theorem first09  : Run (callN Try.prog tblHF (fun _ _ => false) 100 20 34 [] ⟨[], 0⟩ .nil (fun v _ _ => retTrue v)) := by
  constructor
  rw [first09_vc]
  repeat' first
    | with_reducible apply And.intro
    | with_reducible exact trivial
    | with_reducible assumption
    | with_reducible exact Eq.refl _
    | (intro (K : KO XE); simp only [eq_self, true_and, and_true, forall_const, true_implies, and_imp]; intros; (repeat' first | with_reducible apply And.intro | with_reducible assumption); done)
    | intro _
  all_goals first
    | omega
    | exact of_decide_eq_true (by kernel_rfl)
    | kernel_rfl
end Go.Proofs.Ytcmoffcaiepgbaa
