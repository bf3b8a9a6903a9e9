/- What the executor knows of entries behind a cursor. -/
import Derived.Test.YtnfpkadepomjjaaHeadT
import Derived.Test.YtnfpkadepomjjaaBaseQ0
import Derived.Test.YtnfpkadepomjjaaBaseF
import Derived.Test.YtnfpkadepomjjaaBaseC
set_option linter.all false
namespace Go.Proofs.Ytnfpkadepomjjaa
open Go Go.RowKit

def entCells : List Ent → List SC
  | [] => []
  | e :: l => .int true .i64 e.2.1 :: .int true .u64 e.2.2.1 :: .int true .u64 e.2.2.2 :: entCells l
theorem ecells_flat (l : List Ent) : ecells l = l.flatMap fun e => [.int .i64 e.2.1, .int .u64 e.2.2.1, .int .u64 e.2.2.2] := by
  unfold ecells valsOf
  rw [Go.Deep.flatMap_by_index l (0, 0, 0, 0)]
  rfl
theorem entCells_den (ν : Nat → Nat) : ∀ l, SC.denL ν (entCells l) = l.flatMap fun e => [.int .i64 e.2.1, .int .u64 e.2.2.1, .int .u64 e.2.2.2]
  | [] => rfl
  | e :: l => by
    have := entCells_den ν l
    simp only [entCells, SC.denL, SC.den, this, List.flatMap_cons, List.cons_append, List.nil_append]
def curCells : List Ent → List SC
  | [] => []
  | e :: l => .int true .u64 ((e.1 : Nat) : Int) :: curCells l
theorem ccells_map (l : List Ent) : ccells l = l.map fun e => .int .u64 ((e.1 : Nat) : Int) := by
  unfold ccells intsOf
  rw [Go.Deep.map_by_index l (0, 0, 0, 0)]
  rfl
theorem curCells_den (ν : Nat → Nat) : ∀ l, SC.denL ν (curCells l) = l.map fun e => .int .u64 ((e.1 : Nat) : Int)
  | [] => rfl
  | e :: l => by
    have := curCells_den ν l
    simp only [curCells, SC.denL, SC.den, this, List.map_cons]
theorem hlist_bo {A : Ar} {cur : Nat} {p : Nat} {e : Ending} {w w' : World} {R : Assn} (h : Kept w w' ∧
      ((chain A cur = none ∧ e = .returned (.tuple #[.slice none 0 0, .bool false]) ∧ Sat w' (arAt p A * R)) ∨
      (∃ l, chain A cur = some l ∧ ∃ v, e = .returned (.tuple #[v, .bool true]) ∧ Sat w' (rowK 119 3 v l.length (ecells l) * (arAt p A * R))))) :
    Kept w w' ∧ (((chain A cur).isSome = false ∧ e = .returned (.tuple #[.slice none 0 0, .bool false]) ∧ Sat w' (arAt p A * R)) ∨
      ((chain A cur).isSome = true ∧ ∃ v, e = .returned (.tuple #[v, .bool true]) ∧ Sat w' (rowK 119 3 v ((chain A cur).getD []).length (ecells ((chain A cur).getD [])) * (arAt p A * R)))) := by
  obtain ⟨hk, ⟨hc, h⟩ | ⟨l, hc, h⟩⟩ := h
  · exact ⟨hk, .inl ⟨by rw [hc]; rfl, h⟩⟩
  · exact ⟨hk, .inr ⟨by rw [hc]; rfl, by rw [hc]; exact h⟩⟩
theorem hhandles_bo {A : Ar} {cur : Nat} {p : Nat} {e : Ending} {w w' : World} {R : Assn} (h : Kept w w' ∧
      ((chain A cur = none ∧ e = .returned (.tuple #[.slice none 0 0, .bool false]) ∧ Sat w' (arAt p A * R)) ∨
      (∃ l, chain A cur = some l ∧ ∃ v, e = .returned (.tuple #[v, .bool true]) ∧ Sat w' (rowK 25 1 v l.length (ccells l) * (arAt p A * R))))) :
    Kept w w' ∧ (((chain A cur).isSome = false ∧ e = .returned (.tuple #[.slice none 0 0, .bool false]) ∧ Sat w' (arAt p A * R)) ∨
      ((chain A cur).isSome = true ∧ ∃ v, e = .returned (.tuple #[v, .bool true]) ∧ Sat w' (rowK 25 1 v ((chain A cur).getD []).length (ccells ((chain A cur).getD [])) * (arAt p A * R)))) := by
  obtain ⟨hk, ⟨hc, h⟩ | ⟨l, hc, h⟩⟩ := h
  · exact ⟨hk, .inl ⟨by rw [hc]; rfl, h⟩⟩
  · exact ⟨hk, .inr ⟨by rw [hc]; rfl, by rw [hc]; exact h⟩⟩
/-- The entries behind a cursor that are known: all is reckoned. -/
def hlistN : Smry Try.prog XE where
  g := 56
  run := fun args m K => match args with
    | [.c (.ptr n 0), .c (.int _ .u64 cur _)] => match m.hp.get n with
      | some (.ext (.ar A)) => bif leI 0 cur && (leI cur 18446744073709551615 && Nat.ble A.s.back.length 70000) then (match chain A cur.toNat with
        | some (p :: ps) => knL (fun l => outN (p :: ps).length fun k => ∀ cap, k ≤ cap → bif newOk m (.row 119 3 k cap l) then K (.tup [(false, [.sli m.nx 3 true 0 true k cap]), okB true]) (withNew m (.row 119 3 k cap l)) else Stuck 843) (entCells (p :: ps))
        | some [] => Stuck 844
        | none => K (.tup [(false, [.nls]), okB false]) m) else Stuck 845
      | _ => Stuck 841
    | _ => Stuck 842
  ok := fun args m K hr => by
    split at hr <;> try exact hr.elim
    rename_i n _ cur _
    split at hr <;> try exact hr.elim
    rename_i A hA
    cases hc : leI 0 cur && (leI cur 18446744073709551615 && Nat.ble A.s.back.length 70000) <;> rw [hc] at hr
    · exact hr.elim
    simp only [Bool.and_eq_true, Nat.ble_eq] at hc
    have h1 := leI_le hc.1
    have h2 := leI_le hc.2.1
    have hb := hc.2.2
    obtain ⟨z, rfl⟩ : ∃ z : Nat, cur = z := ⟨cur.toNat, by omega⟩
    simp only [Int.toNat_natCast, cond_true] at *
    refine gives_rowK hA (T := 119) (k := 3) (cnt := ((chain A z).getD []).length) (xs := ecells ((chain A z).getD [])) (bo := (chain A z).isSome) (fun ν w R H => (hlist_calls (ν n) A z w H (by unfold TW; omega) hb).mono fun e w' h => hlist_bo h) ?_ ?_ ?_
    all_goals
      split at hr <;> try exact hr.elim
    · rename_i h; intro e; rw [h] at e; cases e
    · intro; exact hr
    · rename_i h; intro _ e; rw [h] at e; simp at e
    · rename_i h; intro e; rw [h] at e; cases e
    · rename_i p ps h
      rw [h]
      intro _ cap hcap
      obtain ⟨r, hk, hl, hd⟩ := knL_of hr
      simp only [outN_eq] at hk
      have hk := hk cap hcap
      cases hn : newOk m (SO.row 119 3 (p :: ps).length cap r : SO XE) <;> rw [hn] at hk
      · exact hk.elim
      refine ⟨_, true, fun ν b w R H => ?_, hn, hk⟩
      simp only [SO.den]
      rw [hd, entCells_den, ← ecells_flat]
      exact H
    · rename_i h; intro e; rw [h] at e; cases e
def hhandlesN : Smry Try.prog XE where
  g := 57
  run := fun args m K => match args with
    | [.c (.ptr n 0), .c (.int _ .u64 cur _)] => match m.hp.get n with
      | some (.ext (.ar A)) => bif leI 0 cur && (leI cur 18446744073709551615 && Nat.ble A.s.back.length 70000) then (match chain A cur.toNat with
        | some (p :: ps) => knL (fun l => outN (p :: ps).length fun k => ∀ cap, k ≤ cap → bif newOk m (.row 25 1 k cap l) then K (.tup [(false, [.sli m.nx 1 true 0 true k cap]), okB true]) (withNew m (.row 25 1 k cap l)) else Stuck 843) (curCells (p :: ps))
        | some [] => Stuck 844
        | none => K (.tup [(false, [.nls]), okB false]) m) else Stuck 845
      | _ => Stuck 841
    | _ => Stuck 842
  ok := fun args m K hr => by
    split at hr <;> try exact hr.elim
    rename_i n _ cur _
    split at hr <;> try exact hr.elim
    rename_i A hA
    cases hc : leI 0 cur && (leI cur 18446744073709551615 && Nat.ble A.s.back.length 70000) <;> rw [hc] at hr
    · exact hr.elim
    simp only [Bool.and_eq_true, Nat.ble_eq] at hc
    have h1 := leI_le hc.1
    have h2 := leI_le hc.2.1
    have hb := hc.2.2
    obtain ⟨z, rfl⟩ : ∃ z : Nat, cur = z := ⟨cur.toNat, by omega⟩
    simp only [Int.toNat_natCast, cond_true] at *
    refine gives_rowK hA (T := 25) (k := 1) (cnt := ((chain A z).getD []).length) (xs := ccells ((chain A z).getD [])) (bo := (chain A z).isSome) (fun ν w R H => (hhandles_calls (ν n) A z w H (by unfold TW; omega) hb).mono fun e w' h => hhandles_bo h) ?_ ?_ ?_
    all_goals
      split at hr <;> try exact hr.elim
    · rename_i h; intro e; rw [h] at e; cases e
    · intro; exact hr
    · rename_i h; intro _ e; rw [h] at e; simp at e
    · rename_i h; intro e; rw [h] at e; cases e
    · rename_i p ps h
      rw [h]
      intro _ cap hcap
      obtain ⟨r, hk, hl, hd⟩ := knL_of hr
      simp only [outN_eq] at hk
      have hk := hk cap hcap
      cases hn : newOk m (SO.row 25 1 (p :: ps).length cap r : SO XE) <;> rw [hn] at hk
      · exact hk.elim
      refine ⟨_, true, fun ν b w R H => ?_, hn, hk⟩
      simp only [SO.den]
      rw [hd, curCells_den, ← ccells_map]
      exact H
    · rename_i h; intro e; rw [h] at e; cases e
end Go.Proofs.Ytnfpkadepomjjaa

/- A head's words and an entry's words, read where all of them are known one by one. -/
namespace Go.Proofs.Ytnfpkadepomjjaa
open Go Go.RowKit
set_option maxRecDepth 1000000
set_option maxHeartbeats 0
def rdB8 (a b c d e f g h : Int) : Bool := headB a b (smF c) d (smF e) (smF f) g (smF h)
def rdRes (a b c d e f g h : Int) : SV := .tup [(false, [.int false .u64 (if rdB8 a b c d e f g h = true then a else 0)]),
  (true, [.int false .u64 (if rdB8 a b c d e f g h = true then b else 0), .int false .i64 (if rdB8 a b c d e f g h = true then smF c else 0), .int false .u64 (if rdB8 a b c d e f g h = true then d else 0), .int false .i64 (if rdB8 a b c d e f g h = true then smF e else 0), .int false .i64 (if rdB8 a b c d e f g h = true then smF f else 0), .int false .u64 (if rdB8 a b c d e f g h = true then g else 0), .int false .i64 (if rdB8 a b c d e f g h = true then smF h else 0)]),
  (false, [.boo false (rdB8 a b c d e f g h)])]
def row8w (a b c d e f g h : Int) : List SC := [.int false .u64 a, .int false .u64 b, .int false .u64 c, .int false .u64 d, .int false .u64 e, .int false .u64 f, .int false .u64 g, .int false .u64 h]
def tblK : List (Smry Try.prog XE) := [hwordsS, hsmallS]
/-- What the executor leaves to be shown of roundelay/head.Read, written out. -/
theorem read8_vc (a b c d e f g h : Int) : (callN Try.prog (tblK : List (Smry Try.prog XE)) (fun _ _ => false) 100 20 128 [.c (.sli 0 1 true 0 true 8 8)] ⟨[(0, .cells (row8w a b c d e f g h) 25)], 100⟩ (.nil) (fun v m _ => outM (rdRes a b c d e f g h) [(0, .cells (row8w a b c d e f g h) 25)] v m)) = (
    (((0 : Int) ≤ c ∧ c ≤ (18446744073709551615 : Int)) ∧ (∀ (z : Un), True → a = a ∧ b = b ∧ c = c ∧ d = d ∧ e = e ∧ f = f ∧ g = g ∧ h = h ∧ (((0 : Int) ≤ e ∧ e ≤ (18446744073709551615
    : Int)) ∧ (∀ (z : Un), True → a = a ∧ b = b ∧ c = c ∧ d = d ∧ e = e ∧ f = f ∧ g = g ∧ h = h ∧ (((0 : Int) ≤ f ∧ f ≤ (18446744073709551615 : Int)) ∧ (∀ (z : Un), True → a = a ∧ b = b
    ∧ c = c ∧ d = d ∧ e = e ∧ f = f ∧ g = g ∧ h = h ∧ (((0 : Int) ≤ h ∧ h ≤ (18446744073709551615 : Int)) ∧ (∀ (z : Un), True → a = a ∧ b = b ∧ c = c ∧ d = d ∧ e = e ∧ f = f ∧ g = g ∧ h
    = h ∧ (a = a ∧ b = b ∧ c = c ∧ d = d ∧ e = e ∧ f = f ∧ g = g ∧ h = h ∧ (((((0 : Int) ≤ a ∧ a ≤ (18446744073709551615 : Int)) ∧ ((0 : Int) ≤ b ∧ b ≤ (18446744073709551615 : Int)) ∧
    ((0 : Int) ≤ d ∧ d ≤ (18446744073709551615 : Int)) ∧ (0 : Int) ≤ g ∧ g ≤ (18446744073709551615 : Int)) ∧ (∀ (z : Un), headB a b (smF c) d (smF e) (smF f) g (smF h) = false → (if
    rdB8 a b c d e f g h = true then a else (0 : Int)) = (0 : Int) ∧ (if rdB8 a b c d e f g h = true then b else (0 : Int)) = (0 : Int) ∧ (if rdB8 a b c d e f g h = true then smF c else
    (0 : Int)) = (0 : Int) ∧ (if rdB8 a b c d e f g h = true then d else (0 : Int)) = (0 : Int) ∧ (if rdB8 a b c d e f g h = true then smF e else (0 : Int)) = (0 : Int) ∧ (if rdB8 a b c
    d e f g h = true then smF f else (0 : Int)) = (0 : Int) ∧ (if rdB8 a b c d e f g h = true then g else (0 : Int)) = (0 : Int) ∧ (if rdB8 a b c d e f g h = true then smF h else (0 :
    Int)) = (0 : Int) ∧ rdB8 a b c d e f g h = false ∧ (a = a ∧ b = b ∧ c = c ∧ d = d ∧ e = e ∧ f = f ∧ g = g ∧ h = h ∧ True) ∧ True) ∧ (∀ (z : Un), headB a b (smF c) d (smF e) (smF f)
    g (smF h) = true → ((if rdB8 a b c d e f g h = true then a else (0 : Int)) = a ∧ (if rdB8 a b c d e f g h = true then b else (0 : Int)) = b ∧ (if rdB8 a b c d e f g h = true then
    smF c else (0 : Int)) = smF c ∧ (if rdB8 a b c d e f g h = true then d else (0 : Int)) = d ∧ (if rdB8 a b c d e f g h = true then smF e else (0 : Int)) = smF e ∧ (if rdB8 a b c d e
    f g h = true then smF f else (0 : Int)) = smF f ∧ (if rdB8 a b c d e f g h = true then g else (0 : Int)) = g ∧ (if rdB8 a b c d e f g h = true then smF h else (0 : Int)) = smF h ∧
    rdB8 a b c d e f g h = true ∧ (a = a ∧ b = b ∧ c = c ∧ d = d ∧ e = e ∧ f = f ∧ g = g ∧ h = h ∧ True) ∧ True) ∧ True) ∧ True) ∧ True) ∧ True) ∧ True) ∧ True) ∧ (∀ (K : KO XE), (fun
    X0 : Prop => ((0 : Int) ≤ h ∧ h ≤ (18446744073709551615 : Int)) ∧ (∀ (z : Un), True → a = a ∧ b = b ∧ c = c ∧ d = d ∧ e = e ∧ f = f ∧ g = g ∧ h = h ∧ (a = a ∧ b = b ∧ c = c ∧ d = d
    ∧ e = e ∧ f = f ∧ g = g ∧ h = h ∧ X0 ∧ True) ∧ True) ∧ True → a = a ∧ b = b ∧ c = c ∧ d = d ∧ e = e ∧ f = f ∧ g = g ∧ h = h ∧ (((0 : Int) ≤ h ∧ h ≤ (18446744073709551615 : Int)) ∧
    (∀ (z : Un), True → a = a ∧ b = b ∧ c = c ∧ d = d ∧ e = e ∧ f = f ∧ g = g ∧ h = h ∧ X0 ∧ True) ∧ True) ∧ True) (K (SF.mk (53 : Nat) (ST.node (SV.c (SC.sli (0 : Nat) (1 : Nat) true
    (0 : Nat) true (8 : Nat) (8 : Nat))) (ST.node (SV.tup []) (ST.node (SV.c (SC.ptr (101 : Nat) (0 : Nat))) (ST.node (SV.tup []) (ST.node (SV.c (SC.sli (0 : Nat) (1 : Nat) true (0 :
    Nat) true (8 : Nat) (8 : Nat))) (ST.node (SV.c (SC.ptr (0 : Nat) (6 : Nat))) ST.nil ST.nil) (ST.node (SV.tup []) ST.nil ST.nil)) (ST.node (SV.c (SC.ptr (0 : Nat) (4 : Nat)))
    (ST.node (SV.tup []) ST.nil ST.nil) ST.nil)) (ST.node (SV.tup []) (ST.node (SV.c (SC.sli (0 : Nat) (1 : Nat) true (0 : Nat) true (8 : Nat) (8 : Nat))) (ST.node (SV.c (SC.int false
    IntKind.u64 h)) ST.nil ST.nil) (ST.node (SV.tup []) ST.nil ST.nil)) (ST.node (SV.c (SC.ptr (0 : Nat) (5 : Nat))) (ST.node (SV.tup []) ST.nil ST.nil) ST.nil))) (ST.node (SV.c (SC.ptr
    (132 : Nat) (0 : Nat))) (ST.node (SV.c (SC.int true IntKind.i64 (8 : Int) Bd.any)) (ST.node (SV.c (SC.int false IntKind.u64 c)) (ST.node (SV.c (SC.sli (0 : Nat) (1 : Nat) true (0 :
    Nat) true (8 : Nat) (8 : Nat))) ST.nil ST.nil) (ST.node (SV.tup []) ST.nil ST.nil)) (ST.node (SV.c (SC.int false IntKind.i64 (smF e))) (ST.node (SV.tup []) ST.nil ST.nil) ST.nil))
    (ST.node (SV.c (SC.ptr (0 : Nat) (1 : Nat))) (ST.node (SV.c (SC.int false IntKind.u64 d)) (ST.node (SV.agg [SC.int false IntKind.u64 b, SC.int false IntKind.i64 (smF c), SC.int
    false IntKind.u64 d, SC.int false IntKind.i64 (smF e), SC.int false IntKind.i64 (smF f), SC.int false IntKind.u64 g, SC.int false IntKind.i64 (smF h)]) ST.nil ST.nil) ST.nil)
    (ST.node (SV.c (SC.int false IntKind.i64 (smF f))) (ST.node (SV.tup []) ST.nil ST.nil) ST.nil)))) (ST.node (SV.c (SC.int true IntKind.u64 (0 : Int))) (ST.node (SV.c (SC.boo true
    false)) (ST.node (SV.c (SC.sli (0 : Nat) (1 : Nat) true (0 : Nat) true (8 : Nat) (8 : Nat))) (ST.node (SV.c (SC.ptr (0 : Nat) (2 : Nat))) (ST.node (SV.c (SC.int false IntKind.u64
    g)) ST.nil ST.nil) (ST.node (SV.tup []) ST.nil ST.nil)) (ST.node (SV.c (SC.int false IntKind.u64 e)) (ST.node (SV.tup []) ST.nil ST.nil) ST.nil)) (ST.node (SV.c (SC.sli (0 : Nat) (1
    : Nat) true (0 : Nat) true (8 : Nat) (8 : Nat))) (ST.node (SV.c (SC.ptr (0 : Nat) (3 : Nat))) (ST.node (SV.c (SC.int false IntKind.i64 (smF h))) ST.nil ST.nil) (ST.node (SV.tup [])
    ST.nil ST.nil)) (ST.node (SV.c (SC.int false IntKind.u64 f)) (ST.node (SV.tup []) ST.nil ST.nil) ST.nil))) (ST.node (SV.tup []) (ST.node (SV.c (SC.boo true false)) (ST.node (SV.c
    (SC.int false IntKind.i64 (smF c))) (ST.node (SV.c (SC.ptr (0 : Nat) (7 : Nat))) ST.nil ST.nil) (ST.node (SV.tup []) ST.nil ST.nil)) (ST.node (SV.c (SC.sli (0 : Nat) (1 : Nat) true
    (0 : Nat) true (8 : Nat) (8 : Nat))) (ST.node (SV.tup []) ST.nil ST.nil) ST.nil)) (ST.node (SV.c (SC.int false IntKind.u64 b)) (ST.node (SV.c (SC.sli (0 : Nat) (1 : Nat) true (0 :
    Nat) true (8 : Nat) (8 : Nat))) (ST.node (SV.tup []) ST.nil ST.nil) ST.nil) (ST.node (SV.c (SC.sli (0 : Nat) (1 : Nat) true (0 : Nat) true (8 : Nat) (8 : Nat))) (ST.node (SV.tup [])
    ST.nil ST.nil) ST.nil))))) []) (Mem.mk [((0 : Nat), SO.cells [SC.int false IntKind.u64 a, SC.int false IntKind.u64 b, SC.int false IntKind.u64 c, SC.int false IntKind.u64 d, SC.int
    false IntKind.u64 e, SC.int false IntKind.u64 f, SC.int false IntKind.u64 g, SC.int false IntKind.u64 h] (OfNat.ofNat (25 : Nat))), ((101 : Nat), SO.cells [SC.int true IntKind.u64
    (0 : Int), SC.int true IntKind.i64 (0 : Int), SC.int true IntKind.u64 (0 : Int), SC.int true IntKind.i64 (0 : Int), SC.int true IntKind.i64 (0 : Int), SC.int true IntKind.u64 (0 :
    Int), SC.int true IntKind.i64 (0 : Int)] (49 : Nat)), ((132 : Nat), SO.cells [SC.int false IntKind.u64 b, SC.int false IntKind.i64 (smF c), SC.int false IntKind.u64 d, SC.int false
    IntKind.i64 (smF e), SC.int false IntKind.i64 (smF f), SC.int false IntKind.u64 g, SC.int false IntKind.i64 (smF h)] (49 : Nat))] (134 : Nat)) Scr.nil)) ∧ True) ∧ True) ∧ (∀ (K : KO
    XE), (fun X0 : Prop => ((0 : Int) ≤ f ∧ f ≤ (18446744073709551615 : Int)) ∧ (∀ (z : Un), True → a = a ∧ b = b ∧ c = c ∧ d = d ∧ e = e ∧ f = f ∧ g = g ∧ h = h ∧ (((0 : Int) ≤ h ∧ h ≤
    (18446744073709551615 : Int)) ∧ (∀ (z : Un), True → a = a ∧ b = b ∧ c = c ∧ d = d ∧ e = e ∧ f = f ∧ g = g ∧ h = h ∧ (a = a ∧ b = b ∧ c = c ∧ d = d ∧ e = e ∧ f = f ∧ g = g ∧ h = h ∧
    X0 ∧ True) ∧ True) ∧ True) ∧ (∀ (K : KO XE), (fun X1 : Prop => ((0 : Int) ≤ h ∧ h ≤ (18446744073709551615 : Int)) ∧ (∀ (z : Un), True → a = a ∧ b = b ∧ c = c ∧ d = d ∧ e = e ∧ f = f
    ∧ g = g ∧ h = h ∧ (a = a ∧ b = b ∧ c = c ∧ d = d ∧ e = e ∧ f = f ∧ g = g ∧ h = h ∧ X1 ∧ True) ∧ True) ∧ True → a = a ∧ b = b ∧ c = c ∧ d = d ∧ e = e ∧ f = f ∧ g = g ∧ h = h ∧ (((0 :
    Int) ≤ h ∧ h ≤ (18446744073709551615 : Int)) ∧ (∀ (z : Un), True → a = a ∧ b = b ∧ c = c ∧ d = d ∧ e = e ∧ f = f ∧ g = g ∧ h = h ∧ X1 ∧ True) ∧ True) ∧ True) (K (SF.mk (53 : Nat)
    (ST.node (SV.c (SC.sli (0 : Nat) (1 : Nat) true (0 : Nat) true (8 : Nat) (8 : Nat))) (ST.node (SV.tup []) (ST.node (SV.c (SC.ptr (101 : Nat) (0 : Nat))) (ST.node (SV.tup [])
    (ST.node (SV.c (SC.sli (0 : Nat) (1 : Nat) true (0 : Nat) true (8 : Nat) (8 : Nat))) (ST.node (SV.c (SC.ptr (0 : Nat) (6 : Nat))) ST.nil ST.nil) (ST.node (SV.tup []) ST.nil ST.nil))
    (ST.node (SV.c (SC.ptr (0 : Nat) (4 : Nat))) (ST.node (SV.tup []) ST.nil ST.nil) ST.nil)) (ST.node (SV.tup []) (ST.node (SV.c (SC.sli (0 : Nat) (1 : Nat) true (0 : Nat) true (8 :
    Nat) (8 : Nat))) (ST.node (SV.c (SC.int false IntKind.u64 h)) ST.nil ST.nil) (ST.node (SV.tup []) ST.nil ST.nil)) (ST.node (SV.c (SC.ptr (0 : Nat) (5 : Nat))) (ST.node (SV.tup [])
    ST.nil ST.nil) ST.nil))) (ST.node (SV.c (SC.ptr (132 : Nat) (0 : Nat))) (ST.node (SV.c (SC.int true IntKind.i64 (8 : Int) Bd.any)) (ST.node (SV.c (SC.int false IntKind.u64 c))
    (ST.node (SV.c (SC.sli (0 : Nat) (1 : Nat) true (0 : Nat) true (8 : Nat) (8 : Nat))) ST.nil ST.nil) (ST.node (SV.tup []) ST.nil ST.nil)) (ST.node (SV.c (SC.int false IntKind.i64
    (smF e))) (ST.node (SV.tup []) ST.nil ST.nil) ST.nil)) (ST.node (SV.c (SC.ptr (0 : Nat) (1 : Nat))) (ST.node (SV.c (SC.int false IntKind.u64 d)) (ST.node (SV.agg [SC.int false
    IntKind.u64 b, SC.int false IntKind.i64 (smF c), SC.int false IntKind.u64 d, SC.int false IntKind.i64 (smF e), SC.int false IntKind.i64 (smF f), SC.int false IntKind.u64 g, SC.int
    false IntKind.i64 (smF h)]) ST.nil ST.nil) ST.nil) (ST.node (SV.c (SC.int false IntKind.i64 (smF f))) (ST.node (SV.tup []) ST.nil ST.nil) ST.nil)))) (ST.node (SV.c (SC.int true
    IntKind.u64 (0 : Int))) (ST.node (SV.c (SC.boo true false)) (ST.node (SV.c (SC.sli (0 : Nat) (1 : Nat) true (0 : Nat) true (8 : Nat) (8 : Nat))) (ST.node (SV.c (SC.ptr (0 : Nat) (2
    : Nat))) (ST.node (SV.c (SC.int false IntKind.u64 g)) ST.nil ST.nil) (ST.node (SV.tup []) ST.nil ST.nil)) (ST.node (SV.c (SC.int false IntKind.u64 e)) (ST.node (SV.tup []) ST.nil
    ST.nil) ST.nil)) (ST.node (SV.c (SC.sli (0 : Nat) (1 : Nat) true (0 : Nat) true (8 : Nat) (8 : Nat))) (ST.node (SV.c (SC.ptr (0 : Nat) (3 : Nat))) (ST.node (SV.c (SC.int false
    IntKind.i64 (smF h))) ST.nil ST.nil) (ST.node (SV.tup []) ST.nil ST.nil)) (ST.node (SV.c (SC.int false IntKind.u64 f)) (ST.node (SV.tup []) ST.nil ST.nil) ST.nil))) (ST.node (SV.tup
    []) (ST.node (SV.c (SC.boo true false)) (ST.node (SV.c (SC.int false IntKind.i64 (smF c))) (ST.node (SV.c (SC.ptr (0 : Nat) (7 : Nat))) ST.nil ST.nil) (ST.node (SV.tup []) ST.nil
    ST.nil)) (ST.node (SV.c (SC.sli (0 : Nat) (1 : Nat) true (0 : Nat) true (8 : Nat) (8 : Nat))) (ST.node (SV.tup []) ST.nil ST.nil) ST.nil)) (ST.node (SV.c (SC.int false IntKind.u64
    b)) (ST.node (SV.c (SC.sli (0 : Nat) (1 : Nat) true (0 : Nat) true (8 : Nat) (8 : Nat))) (ST.node (SV.tup []) ST.nil ST.nil) ST.nil) (ST.node (SV.c (SC.sli (0 : Nat) (1 : Nat) true
    (0 : Nat) true (8 : Nat) (8 : Nat))) (ST.node (SV.tup []) ST.nil ST.nil) ST.nil))))) []) (Mem.mk [((0 : Nat), SO.cells [SC.int false IntKind.u64 a, SC.int false IntKind.u64 b,
    SC.int false IntKind.u64 c, SC.int false IntKind.u64 d, SC.int false IntKind.u64 e, SC.int false IntKind.u64 f, SC.int false IntKind.u64 g, SC.int false IntKind.u64 h] (OfNat.ofNat
    (25 : Nat))), ((101 : Nat), SO.cells [SC.int true IntKind.u64 (0 : Int), SC.int true IntKind.i64 (0 : Int), SC.int true IntKind.u64 (0 : Int), SC.int true IntKind.i64 (0 : Int),
    SC.int true IntKind.i64 (0 : Int), SC.int true IntKind.u64 (0 : Int), SC.int true IntKind.i64 (0 : Int)] (49 : Nat)), ((132 : Nat), SO.cells [SC.int false IntKind.u64 b, SC.int
    false IntKind.i64 (smF c), SC.int false IntKind.u64 d, SC.int false IntKind.i64 (smF e), SC.int false IntKind.i64 (smF f), SC.int false IntKind.u64 g, SC.int false IntKind.i64 (smF
    h)] (49 : Nat))] (134 : Nat)) Scr.nil)) ∧ True) ∧ True → a = a ∧ b = b ∧ c = c ∧ d = d ∧ e = e ∧ f = f ∧ g = g ∧ h = h ∧ (((0 : Int) ≤ f ∧ f ≤ (18446744073709551615 : Int)) ∧ (∀ (z
    : Un), True → a = a ∧ b = b ∧ c = c ∧ d = d ∧ e = e ∧ f = f ∧ g = g ∧ h = h ∧ (((0 : Int) ≤ h ∧ h ≤ (18446744073709551615 : Int)) ∧ (∀ (z : Un), True → a = a ∧ b = b ∧ c = c ∧ d = d
    ∧ e = e ∧ f = f ∧ g = g ∧ h = h ∧ X0 ∧ True) ∧ True) ∧ True) ∧ True) ∧ True) (K (SF.mk (53 : Nat) (ST.node (SV.c (SC.sli (0 : Nat) (1 : Nat) true (0 : Nat) true (8 : Nat) (8 :
    Nat))) (ST.node (SV.tup []) (ST.node (SV.c (SC.ptr (101 : Nat) (0 : Nat))) (ST.node (SV.tup []) (ST.node (SV.c (SC.sli (0 : Nat) (1 : Nat) true (0 : Nat) true (8 : Nat) (8 : Nat)))
    (ST.node (SV.c (SC.ptr (0 : Nat) (6 : Nat))) ST.nil ST.nil) (ST.node (SV.tup []) ST.nil ST.nil)) (ST.node (SV.c (SC.ptr (0 : Nat) (4 : Nat))) (ST.node (SV.tup []) ST.nil ST.nil)
    ST.nil)) (ST.node (SV.tup []) (ST.node (SV.c (SC.sli (0 : Nat) (1 : Nat) true (0 : Nat) true (8 : Nat) (8 : Nat))) (ST.node (SV.c (SC.int false IntKind.u64 h)) ST.nil ST.nil)
    (ST.node (SV.tup []) ST.nil ST.nil)) (ST.node (SV.c (SC.ptr (0 : Nat) (5 : Nat))) (ST.node (SV.tup []) ST.nil ST.nil) ST.nil))) (ST.node (SV.c (SC.ptr (132 : Nat) (0 : Nat)))
    (ST.node (SV.c (SC.int true IntKind.i64 (8 : Int) Bd.any)) (ST.node (SV.c (SC.int false IntKind.u64 c)) (ST.node (SV.c (SC.sli (0 : Nat) (1 : Nat) true (0 : Nat) true (8 : Nat) (8 :
    Nat))) ST.nil ST.nil) (ST.node (SV.tup []) ST.nil ST.nil)) (ST.node (SV.c (SC.int false IntKind.i64 (smF e))) (ST.node (SV.tup []) ST.nil ST.nil) ST.nil)) (ST.node (SV.c (SC.ptr (0
    : Nat) (1 : Nat))) (ST.node (SV.c (SC.int false IntKind.u64 d)) (ST.node (SV.agg [SC.int false IntKind.u64 b, SC.int false IntKind.i64 (smF c), SC.int false IntKind.u64 d, SC.int
    false IntKind.i64 (smF e), SC.int false IntKind.i64 (smF f), SC.int false IntKind.u64 g, SC.int false IntKind.i64 (smF h)]) ST.nil ST.nil) ST.nil) (ST.node (SV.c (SC.int false
    IntKind.i64 (smF f))) (ST.node (SV.tup []) ST.nil ST.nil) ST.nil)))) (ST.node (SV.c (SC.int true IntKind.u64 (0 : Int))) (ST.node (SV.c (SC.boo true false)) (ST.node (SV.c (SC.sli
    (0 : Nat) (1 : Nat) true (0 : Nat) true (8 : Nat) (8 : Nat))) (ST.node (SV.c (SC.ptr (0 : Nat) (2 : Nat))) (ST.node (SV.c (SC.int false IntKind.u64 g)) ST.nil ST.nil) (ST.node
    (SV.tup []) ST.nil ST.nil)) (ST.node (SV.c (SC.int false IntKind.u64 e)) (ST.node (SV.tup []) ST.nil ST.nil) ST.nil)) (ST.node (SV.c (SC.sli (0 : Nat) (1 : Nat) true (0 : Nat) true
    (8 : Nat) (8 : Nat))) (ST.node (SV.c (SC.ptr (0 : Nat) (3 : Nat))) (ST.node (SV.c (SC.int false IntKind.i64 (smF h))) ST.nil ST.nil) (ST.node (SV.tup []) ST.nil ST.nil)) (ST.node
    (SV.c (SC.int false IntKind.u64 f)) (ST.node (SV.tup []) ST.nil ST.nil) ST.nil))) (ST.node (SV.tup []) (ST.node (SV.c (SC.boo true false)) (ST.node (SV.c (SC.int false IntKind.i64
    (smF c))) (ST.node (SV.c (SC.ptr (0 : Nat) (7 : Nat))) ST.nil ST.nil) (ST.node (SV.tup []) ST.nil ST.nil)) (ST.node (SV.c (SC.sli (0 : Nat) (1 : Nat) true (0 : Nat) true (8 : Nat)
    (8 : Nat))) (ST.node (SV.tup []) ST.nil ST.nil) ST.nil)) (ST.node (SV.c (SC.int false IntKind.u64 b)) (ST.node (SV.c (SC.sli (0 : Nat) (1 : Nat) true (0 : Nat) true (8 : Nat) (8 :
    Nat))) (ST.node (SV.tup []) ST.nil ST.nil) ST.nil) (ST.node (SV.c (SC.sli (0 : Nat) (1 : Nat) true (0 : Nat) true (8 : Nat) (8 : Nat))) (ST.node (SV.tup []) ST.nil ST.nil)
    ST.nil))))) []) (Mem.mk [((0 : Nat), SO.cells [SC.int false IntKind.u64 a, SC.int false IntKind.u64 b, SC.int false IntKind.u64 c, SC.int false IntKind.u64 d, SC.int false
    IntKind.u64 e, SC.int false IntKind.u64 f, SC.int false IntKind.u64 g, SC.int false IntKind.u64 h] (OfNat.ofNat (25 : Nat))), ((101 : Nat), SO.cells [SC.int true IntKind.u64 (0 :
    Int), SC.int true IntKind.i64 (0 : Int), SC.int true IntKind.u64 (0 : Int), SC.int true IntKind.i64 (0 : Int), SC.int true IntKind.i64 (0 : Int), SC.int true IntKind.u64 (0 : Int),
    SC.int true IntKind.i64 (0 : Int)] (49 : Nat)), ((132 : Nat), SO.cells [SC.int false IntKind.u64 b, SC.int false IntKind.i64 (smF c), SC.int false IntKind.u64 d, SC.int false
    IntKind.i64 (smF e), SC.int false IntKind.i64 (smF f), SC.int false IntKind.u64 g, SC.int false IntKind.i64 (smF h)] (49 : Nat))] (134 : Nat)) Scr.nil)) ∧ True) ∧ True) ∧ (∀ (K : KO
    XE), (fun X0 : Prop => ((0 : Int) ≤ e ∧ e ≤ (18446744073709551615 : Int)) ∧ (∀ (z : Un), True → a = a ∧ b = b ∧ c = c ∧ d = d ∧ e = e ∧ f = f ∧ g = g ∧ h = h ∧ (((0 : Int) ≤ f ∧ f ≤
    (18446744073709551615 : Int)) ∧ (∀ (z : Un), True → a = a ∧ b = b ∧ c = c ∧ d = d ∧ e = e ∧ f = f ∧ g = g ∧ h = h ∧ (((0 : Int) ≤ h ∧ h ≤ (18446744073709551615 : Int)) ∧ (∀ (z :
    Un), True → a = a ∧ b = b ∧ c = c ∧ d = d ∧ e = e ∧ f = f ∧ g = g ∧ h = h ∧ (a = a ∧ b = b ∧ c = c ∧ d = d ∧ e = e ∧ f = f ∧ g = g ∧ h = h ∧ X0 ∧ True) ∧ True) ∧ True) ∧ (∀ (K : KO
    XE), (fun X1 : Prop => ((0 : Int) ≤ h ∧ h ≤ (18446744073709551615 : Int)) ∧ (∀ (z : Un), True → a = a ∧ b = b ∧ c = c ∧ d = d ∧ e = e ∧ f = f ∧ g = g ∧ h = h ∧ (a = a ∧ b = b ∧ c =
    c ∧ d = d ∧ e = e ∧ f = f ∧ g = g ∧ h = h ∧ X1 ∧ True) ∧ True) ∧ True → a = a ∧ b = b ∧ c = c ∧ d = d ∧ e = e ∧ f = f ∧ g = g ∧ h = h ∧ (((0 : Int) ≤ h ∧ h ≤ (18446744073709551615 :
    Int)) ∧ (∀ (z : Un), True → a = a ∧ b = b ∧ c = c ∧ d = d ∧ e = e ∧ f = f ∧ g = g ∧ h = h ∧ X1 ∧ True) ∧ True) ∧ True) (K (SF.mk (53 : Nat) (ST.node (SV.c (SC.sli (0 : Nat) (1 :
    Nat) true (0 : Nat) true (8 : Nat) (8 : Nat))) (ST.node (SV.tup []) (ST.node (SV.c (SC.ptr (101 : Nat) (0 : Nat))) (ST.node (SV.tup []) (ST.node (SV.c (SC.sli (0 : Nat) (1 : Nat)
    true (0 : Nat) true (8 : Nat) (8 : Nat))) (ST.node (SV.c (SC.ptr (0 : Nat) (6 : Nat))) ST.nil ST.nil) (ST.node (SV.tup []) ST.nil ST.nil)) (ST.node (SV.c (SC.ptr (0 : Nat) (4 :
    Nat))) (ST.node (SV.tup []) ST.nil ST.nil) ST.nil)) (ST.node (SV.tup []) (ST.node (SV.c (SC.sli (0 : Nat) (1 : Nat) true (0 : Nat) true (8 : Nat) (8 : Nat))) (ST.node (SV.c (SC.int
    false IntKind.u64 h)) ST.nil ST.nil) (ST.node (SV.tup []) ST.nil ST.nil)) (ST.node (SV.c (SC.ptr (0 : Nat) (5 : Nat))) (ST.node (SV.tup []) ST.nil ST.nil) ST.nil))) (ST.node (SV.c
    (SC.ptr (132 : Nat) (0 : Nat))) (ST.node (SV.c (SC.int true IntKind.i64 (8 : Int) Bd.any)) (ST.node (SV.c (SC.int false IntKind.u64 c)) (ST.node (SV.c (SC.sli (0 : Nat) (1 : Nat)
    true (0 : Nat) true (8 : Nat) (8 : Nat))) ST.nil ST.nil) (ST.node (SV.tup []) ST.nil ST.nil)) (ST.node (SV.c (SC.int false IntKind.i64 (smF e))) (ST.node (SV.tup []) ST.nil ST.nil)
    ST.nil)) (ST.node (SV.c (SC.ptr (0 : Nat) (1 : Nat))) (ST.node (SV.c (SC.int false IntKind.u64 d)) (ST.node (SV.agg [SC.int false IntKind.u64 b, SC.int false IntKind.i64 (smF c),
    SC.int false IntKind.u64 d, SC.int false IntKind.i64 (smF e), SC.int false IntKind.i64 (smF f), SC.int false IntKind.u64 g, SC.int false IntKind.i64 (smF h)]) ST.nil ST.nil) ST.nil)
    (ST.node (SV.c (SC.int false IntKind.i64 (smF f))) (ST.node (SV.tup []) ST.nil ST.nil) ST.nil)))) (ST.node (SV.c (SC.int true IntKind.u64 (0 : Int))) (ST.node (SV.c (SC.boo true
    false)) (ST.node (SV.c (SC.sli (0 : Nat) (1 : Nat) true (0 : Nat) true (8 : Nat) (8 : Nat))) (ST.node (SV.c (SC.ptr (0 : Nat) (2 : Nat))) (ST.node (SV.c (SC.int false IntKind.u64
    g)) ST.nil ST.nil) (ST.node (SV.tup []) ST.nil ST.nil)) (ST.node (SV.c (SC.int false IntKind.u64 e)) (ST.node (SV.tup []) ST.nil ST.nil) ST.nil)) (ST.node (SV.c (SC.sli (0 : Nat) (1
    : Nat) true (0 : Nat) true (8 : Nat) (8 : Nat))) (ST.node (SV.c (SC.ptr (0 : Nat) (3 : Nat))) (ST.node (SV.c (SC.int false IntKind.i64 (smF h))) ST.nil ST.nil) (ST.node (SV.tup [])
    ST.nil ST.nil)) (ST.node (SV.c (SC.int false IntKind.u64 f)) (ST.node (SV.tup []) ST.nil ST.nil) ST.nil))) (ST.node (SV.tup []) (ST.node (SV.c (SC.boo true false)) (ST.node (SV.c
    (SC.int false IntKind.i64 (smF c))) (ST.node (SV.c (SC.ptr (0 : Nat) (7 : Nat))) ST.nil ST.nil) (ST.node (SV.tup []) ST.nil ST.nil)) (ST.node (SV.c (SC.sli (0 : Nat) (1 : Nat) true
    (0 : Nat) true (8 : Nat) (8 : Nat))) (ST.node (SV.tup []) ST.nil ST.nil) ST.nil)) (ST.node (SV.c (SC.int false IntKind.u64 b)) (ST.node (SV.c (SC.sli (0 : Nat) (1 : Nat) true (0 :
    Nat) true (8 : Nat) (8 : Nat))) (ST.node (SV.tup []) ST.nil ST.nil) ST.nil) (ST.node (SV.c (SC.sli (0 : Nat) (1 : Nat) true (0 : Nat) true (8 : Nat) (8 : Nat))) (ST.node (SV.tup [])
    ST.nil ST.nil) ST.nil))))) []) (Mem.mk [((0 : Nat), SO.cells [SC.int false IntKind.u64 a, SC.int false IntKind.u64 b, SC.int false IntKind.u64 c, SC.int false IntKind.u64 d, SC.int
    false IntKind.u64 e, SC.int false IntKind.u64 f, SC.int false IntKind.u64 g, SC.int false IntKind.u64 h] (OfNat.ofNat (25 : Nat))), ((101 : Nat), SO.cells [SC.int true IntKind.u64
    (0 : Int), SC.int true IntKind.i64 (0 : Int), SC.int true IntKind.u64 (0 : Int), SC.int true IntKind.i64 (0 : Int), SC.int true IntKind.i64 (0 : Int), SC.int true IntKind.u64 (0 :
    Int), SC.int true IntKind.i64 (0 : Int)] (49 : Nat)), ((132 : Nat), SO.cells [SC.int false IntKind.u64 b, SC.int false IntKind.i64 (smF c), SC.int false IntKind.u64 d, SC.int false
    IntKind.i64 (smF e), SC.int false IntKind.i64 (smF f), SC.int false IntKind.u64 g, SC.int false IntKind.i64 (smF h)] (49 : Nat))] (134 : Nat)) Scr.nil)) ∧ True) ∧ True) ∧ (∀ (K : KO
    XE), (fun X1 : Prop => ((0 : Int) ≤ f ∧ f ≤ (18446744073709551615 : Int)) ∧ (∀ (z : Un), True → a = a ∧ b = b ∧ c = c ∧ d = d ∧ e = e ∧ f = f ∧ g = g ∧ h = h ∧ (((0 : Int) ≤ h ∧ h ≤
    (18446744073709551615 : Int)) ∧ (∀ (z : Un), True → a = a ∧ b = b ∧ c = c ∧ d = d ∧ e = e ∧ f = f ∧ g = g ∧ h = h ∧ (a = a ∧ b = b ∧ c = c ∧ d = d ∧ e = e ∧ f = f ∧ g = g ∧ h = h ∧
    X1 ∧ True) ∧ True) ∧ True) ∧ (∀ (K : KO XE), (fun X2 : Prop => ((0 : Int) ≤ h ∧ h ≤ (18446744073709551615 : Int)) ∧ (∀ (z : Un), True → a = a ∧ b = b ∧ c = c ∧ d = d ∧ e = e ∧ f = f
    ∧ g = g ∧ h = h ∧ (a = a ∧ b = b ∧ c = c ∧ d = d ∧ e = e ∧ f = f ∧ g = g ∧ h = h ∧ X2 ∧ True) ∧ True) ∧ True → a = a ∧ b = b ∧ c = c ∧ d = d ∧ e = e ∧ f = f ∧ g = g ∧ h = h ∧ (((0 :
    Int) ≤ h ∧ h ≤ (18446744073709551615 : Int)) ∧ (∀ (z : Un), True → a = a ∧ b = b ∧ c = c ∧ d = d ∧ e = e ∧ f = f ∧ g = g ∧ h = h ∧ X2 ∧ True) ∧ True) ∧ True) (K (SF.mk (53 : Nat)
    (ST.node (SV.c (SC.sli (0 : Nat) (1 : Nat) true (0 : Nat) true (8 : Nat) (8 : Nat))) (ST.node (SV.tup []) (ST.node (SV.c (SC.ptr (101 : Nat) (0 : Nat))) (ST.node (SV.tup [])
    (ST.node (SV.c (SC.sli (0 : Nat) (1 : Nat) true (0 : Nat) true (8 : Nat) (8 : Nat))) (ST.node (SV.c (SC.ptr (0 : Nat) (6 : Nat))) ST.nil ST.nil) (ST.node (SV.tup []) ST.nil ST.nil))
    (ST.node (SV.c (SC.ptr (0 : Nat) (4 : Nat))) (ST.node (SV.tup []) ST.nil ST.nil) ST.nil)) (ST.node (SV.tup []) (ST.node (SV.c (SC.sli (0 : Nat) (1 : Nat) true (0 : Nat) true (8 :
    Nat) (8 : Nat))) (ST.node (SV.c (SC.int false IntKind.u64 h)) ST.nil ST.nil) (ST.node (SV.tup []) ST.nil ST.nil)) (ST.node (SV.c (SC.ptr (0 : Nat) (5 : Nat))) (ST.node (SV.tup [])
    ST.nil ST.nil) ST.nil))) (ST.node (SV.c (SC.ptr (132 : Nat) (0 : Nat))) (ST.node (SV.c (SC.int true IntKind.i64 (8 : Int) Bd.any)) (ST.node (SV.c (SC.int false IntKind.u64 c))
    (ST.node (SV.c (SC.sli (0 : Nat) (1 : Nat) true (0 : Nat) true (8 : Nat) (8 : Nat))) ST.nil ST.nil) (ST.node (SV.tup []) ST.nil ST.nil)) (ST.node (SV.c (SC.int false IntKind.i64
    (smF e))) (ST.node (SV.tup []) ST.nil ST.nil) ST.nil)) (ST.node (SV.c (SC.ptr (0 : Nat) (1 : Nat))) (ST.node (SV.c (SC.int false IntKind.u64 d)) (ST.node (SV.agg [SC.int false
    IntKind.u64 b, SC.int false IntKind.i64 (smF c), SC.int false IntKind.u64 d, SC.int false IntKind.i64 (smF e), SC.int false IntKind.i64 (smF f), SC.int false IntKind.u64 g, SC.int
    false IntKind.i64 (smF h)]) ST.nil ST.nil) ST.nil) (ST.node (SV.c (SC.int false IntKind.i64 (smF f))) (ST.node (SV.tup []) ST.nil ST.nil) ST.nil)))) (ST.node (SV.c (SC.int true
    IntKind.u64 (0 : Int))) (ST.node (SV.c (SC.boo true false)) (ST.node (SV.c (SC.sli (0 : Nat) (1 : Nat) true (0 : Nat) true (8 : Nat) (8 : Nat))) (ST.node (SV.c (SC.ptr (0 : Nat) (2
    : Nat))) (ST.node (SV.c (SC.int false IntKind.u64 g)) ST.nil ST.nil) (ST.node (SV.tup []) ST.nil ST.nil)) (ST.node (SV.c (SC.int false IntKind.u64 e)) (ST.node (SV.tup []) ST.nil
    ST.nil) ST.nil)) (ST.node (SV.c (SC.sli (0 : Nat) (1 : Nat) true (0 : Nat) true (8 : Nat) (8 : Nat))) (ST.node (SV.c (SC.ptr (0 : Nat) (3 : Nat))) (ST.node (SV.c (SC.int false
    IntKind.i64 (smF h))) ST.nil ST.nil) (ST.node (SV.tup []) ST.nil ST.nil)) (ST.node (SV.c (SC.int false IntKind.u64 f)) (ST.node (SV.tup []) ST.nil ST.nil) ST.nil))) (ST.node (SV.tup
    []) (ST.node (SV.c (SC.boo true false)) (ST.node (SV.c (SC.int false IntKind.i64 (smF c))) (ST.node (SV.c (SC.ptr (0 : Nat) (7 : Nat))) ST.nil ST.nil) (ST.node (SV.tup []) ST.nil
    ST.nil)) (ST.node (SV.c (SC.sli (0 : Nat) (1 : Nat) true (0 : Nat) true (8 : Nat) (8 : Nat))) (ST.node (SV.tup []) ST.nil ST.nil) ST.nil)) (ST.node (SV.c (SC.int false IntKind.u64
    b)) (ST.node (SV.c (SC.sli (0 : Nat) (1 : Nat) true (0 : Nat) true (8 : Nat) (8 : Nat))) (ST.node (SV.tup []) ST.nil ST.nil) ST.nil) (ST.node (SV.c (SC.sli (0 : Nat) (1 : Nat) true
    (0 : Nat) true (8 : Nat) (8 : Nat))) (ST.node (SV.tup []) ST.nil ST.nil) ST.nil))))) []) (Mem.mk [((0 : Nat), SO.cells [SC.int false IntKind.u64 a, SC.int false IntKind.u64 b,
    SC.int false IntKind.u64 c, SC.int false IntKind.u64 d, SC.int false IntKind.u64 e, SC.int false IntKind.u64 f, SC.int false IntKind.u64 g, SC.int false IntKind.u64 h] (OfNat.ofNat
    (25 : Nat))), ((101 : Nat), SO.cells [SC.int true IntKind.u64 (0 : Int), SC.int true IntKind.i64 (0 : Int), SC.int true IntKind.u64 (0 : Int), SC.int true IntKind.i64 (0 : Int),
    SC.int true IntKind.i64 (0 : Int), SC.int true IntKind.u64 (0 : Int), SC.int true IntKind.i64 (0 : Int)] (49 : Nat)), ((132 : Nat), SO.cells [SC.int false IntKind.u64 b, SC.int
    false IntKind.i64 (smF c), SC.int false IntKind.u64 d, SC.int false IntKind.i64 (smF e), SC.int false IntKind.i64 (smF f), SC.int false IntKind.u64 g, SC.int false IntKind.i64 (smF
    h)] (49 : Nat))] (134 : Nat)) Scr.nil)) ∧ True) ∧ True → a = a ∧ b = b ∧ c = c ∧ d = d ∧ e = e ∧ f = f ∧ g = g ∧ h = h ∧ (((0 : Int) ≤ f ∧ f ≤ (18446744073709551615 : Int)) ∧ (∀ (z
    : Un), True → a = a ∧ b = b ∧ c = c ∧ d = d ∧ e = e ∧ f = f ∧ g = g ∧ h = h ∧ (((0 : Int) ≤ h ∧ h ≤ (18446744073709551615 : Int)) ∧ (∀ (z : Un), True → a = a ∧ b = b ∧ c = c ∧ d = d
    ∧ e = e ∧ f = f ∧ g = g ∧ h = h ∧ X1 ∧ True) ∧ True) ∧ True) ∧ True) ∧ True) (K (SF.mk (53 : Nat) (ST.node (SV.c (SC.sli (0 : Nat) (1 : Nat) true (0 : Nat) true (8 : Nat) (8 :
    Nat))) (ST.node (SV.tup []) (ST.node (SV.c (SC.ptr (101 : Nat) (0 : Nat))) (ST.node (SV.tup []) (ST.node (SV.c (SC.sli (0 : Nat) (1 : Nat) true (0 : Nat) true (8 : Nat) (8 : Nat)))
    (ST.node (SV.c (SC.ptr (0 : Nat) (6 : Nat))) ST.nil ST.nil) (ST.node (SV.tup []) ST.nil ST.nil)) (ST.node (SV.c (SC.ptr (0 : Nat) (4 : Nat))) (ST.node (SV.tup []) ST.nil ST.nil)
    ST.nil)) (ST.node (SV.tup []) (ST.node (SV.c (SC.sli (0 : Nat) (1 : Nat) true (0 : Nat) true (8 : Nat) (8 : Nat))) (ST.node (SV.c (SC.int false IntKind.u64 h)) ST.nil ST.nil)
    (ST.node (SV.tup []) ST.nil ST.nil)) (ST.node (SV.c (SC.ptr (0 : Nat) (5 : Nat))) (ST.node (SV.tup []) ST.nil ST.nil) ST.nil))) (ST.node (SV.c (SC.ptr (132 : Nat) (0 : Nat)))
    (ST.node (SV.c (SC.int true IntKind.i64 (8 : Int) Bd.any)) (ST.node (SV.c (SC.int false IntKind.u64 c)) (ST.node (SV.c (SC.sli (0 : Nat) (1 : Nat) true (0 : Nat) true (8 : Nat) (8 :
    Nat))) ST.nil ST.nil) (ST.node (SV.tup []) ST.nil ST.nil)) (ST.node (SV.c (SC.int false IntKind.i64 (smF e))) (ST.node (SV.tup []) ST.nil ST.nil) ST.nil)) (ST.node (SV.c (SC.ptr (0
    : Nat) (1 : Nat))) (ST.node (SV.c (SC.int false IntKind.u64 d)) (ST.node (SV.agg [SC.int false IntKind.u64 b, SC.int false IntKind.i64 (smF c), SC.int false IntKind.u64 d, SC.int
    false IntKind.i64 (smF e), SC.int false IntKind.i64 (smF f), SC.int false IntKind.u64 g, SC.int false IntKind.i64 (smF h)]) ST.nil ST.nil) ST.nil) (ST.node (SV.c (SC.int false
    IntKind.i64 (smF f))) (ST.node (SV.tup []) ST.nil ST.nil) ST.nil)))) (ST.node (SV.c (SC.int true IntKind.u64 (0 : Int))) (ST.node (SV.c (SC.boo true false)) (ST.node (SV.c (SC.sli
    (0 : Nat) (1 : Nat) true (0 : Nat) true (8 : Nat) (8 : Nat))) (ST.node (SV.c (SC.ptr (0 : Nat) (2 : Nat))) (ST.node (SV.c (SC.int false IntKind.u64 g)) ST.nil ST.nil) (ST.node
    (SV.tup []) ST.nil ST.nil)) (ST.node (SV.c (SC.int false IntKind.u64 e)) (ST.node (SV.tup []) ST.nil ST.nil) ST.nil)) (ST.node (SV.c (SC.sli (0 : Nat) (1 : Nat) true (0 : Nat) true
    (8 : Nat) (8 : Nat))) (ST.node (SV.c (SC.ptr (0 : Nat) (3 : Nat))) (ST.node (SV.c (SC.int false IntKind.i64 (smF h))) ST.nil ST.nil) (ST.node (SV.tup []) ST.nil ST.nil)) (ST.node
    (SV.c (SC.int false IntKind.u64 f)) (ST.node (SV.tup []) ST.nil ST.nil) ST.nil))) (ST.node (SV.tup []) (ST.node (SV.c (SC.boo true false)) (ST.node (SV.c (SC.int false IntKind.i64
    (smF c))) (ST.node (SV.c (SC.ptr (0 : Nat) (7 : Nat))) ST.nil ST.nil) (ST.node (SV.tup []) ST.nil ST.nil)) (ST.node (SV.c (SC.sli (0 : Nat) (1 : Nat) true (0 : Nat) true (8 : Nat)
    (8 : Nat))) (ST.node (SV.tup []) ST.nil ST.nil) ST.nil)) (ST.node (SV.c (SC.int false IntKind.u64 b)) (ST.node (SV.c (SC.sli (0 : Nat) (1 : Nat) true (0 : Nat) true (8 : Nat) (8 :
    Nat))) (ST.node (SV.tup []) ST.nil ST.nil) ST.nil) (ST.node (SV.c (SC.sli (0 : Nat) (1 : Nat) true (0 : Nat) true (8 : Nat) (8 : Nat))) (ST.node (SV.tup []) ST.nil ST.nil)
    ST.nil))))) []) (Mem.mk [((0 : Nat), SO.cells [SC.int false IntKind.u64 a, SC.int false IntKind.u64 b, SC.int false IntKind.u64 c, SC.int false IntKind.u64 d, SC.int false
    IntKind.u64 e, SC.int false IntKind.u64 f, SC.int false IntKind.u64 g, SC.int false IntKind.u64 h] (OfNat.ofNat (25 : Nat))), ((101 : Nat), SO.cells [SC.int true IntKind.u64 (0 :
    Int), SC.int true IntKind.i64 (0 : Int), SC.int true IntKind.u64 (0 : Int), SC.int true IntKind.i64 (0 : Int), SC.int true IntKind.i64 (0 : Int), SC.int true IntKind.u64 (0 : Int),
    SC.int true IntKind.i64 (0 : Int)] (49 : Nat)), ((132 : Nat), SO.cells [SC.int false IntKind.u64 b, SC.int false IntKind.i64 (smF c), SC.int false IntKind.u64 d, SC.int false
    IntKind.i64 (smF e), SC.int false IntKind.i64 (smF f), SC.int false IntKind.u64 g, SC.int false IntKind.i64 (smF h)] (49 : Nat))] (134 : Nat)) Scr.nil)) ∧ True) ∧ True → a = a ∧ b =
    b ∧ c = c ∧ d = d ∧ e = e ∧ f = f ∧ g = g ∧ h = h ∧ (((0 : Int) ≤ e ∧ e ≤ (18446744073709551615 : Int)) ∧ (∀ (z : Un), True → a = a ∧ b = b ∧ c = c ∧ d = d ∧ e = e ∧ f = f ∧ g = g ∧
    h = h ∧ (((0 : Int) ≤ f ∧ f ≤ (18446744073709551615 : Int)) ∧ (∀ (z : Un), True → a = a ∧ b = b ∧ c = c ∧ d = d ∧ e = e ∧ f = f ∧ g = g ∧ h = h ∧ (((0 : Int) ≤ h ∧ h ≤
    (18446744073709551615 : Int)) ∧ (∀ (z : Un), True → a = a ∧ b = b ∧ c = c ∧ d = d ∧ e = e ∧ f = f ∧ g = g ∧ h = h ∧ X0 ∧ True) ∧ True) ∧ True) ∧ True) ∧ True) ∧ True) ∧ True) (K
    (SF.mk (53 : Nat) (ST.node (SV.c (SC.sli (0 : Nat) (1 : Nat) true (0 : Nat) true (8 : Nat) (8 : Nat))) (ST.node (SV.tup []) (ST.node (SV.c (SC.ptr (101 : Nat) (0 : Nat))) (ST.node
    (SV.tup []) (ST.node (SV.c (SC.sli (0 : Nat) (1 : Nat) true (0 : Nat) true (8 : Nat) (8 : Nat))) (ST.node (SV.c (SC.ptr (0 : Nat) (6 : Nat))) ST.nil ST.nil) (ST.node (SV.tup [])
    ST.nil ST.nil)) (ST.node (SV.c (SC.ptr (0 : Nat) (4 : Nat))) (ST.node (SV.tup []) ST.nil ST.nil) ST.nil)) (ST.node (SV.tup []) (ST.node (SV.c (SC.sli (0 : Nat) (1 : Nat) true (0 :
    Nat) true (8 : Nat) (8 : Nat))) (ST.node (SV.c (SC.int false IntKind.u64 h)) ST.nil ST.nil) (ST.node (SV.tup []) ST.nil ST.nil)) (ST.node (SV.c (SC.ptr (0 : Nat) (5 : Nat)))
    (ST.node (SV.tup []) ST.nil ST.nil) ST.nil))) (ST.node (SV.c (SC.ptr (132 : Nat) (0 : Nat))) (ST.node (SV.c (SC.int true IntKind.i64 (8 : Int) Bd.any)) (ST.node (SV.c (SC.int false
    IntKind.u64 c)) (ST.node (SV.c (SC.sli (0 : Nat) (1 : Nat) true (0 : Nat) true (8 : Nat) (8 : Nat))) ST.nil ST.nil) (ST.node (SV.tup []) ST.nil ST.nil)) (ST.node (SV.c (SC.int false
    IntKind.i64 (smF e))) (ST.node (SV.tup []) ST.nil ST.nil) ST.nil)) (ST.node (SV.c (SC.ptr (0 : Nat) (1 : Nat))) (ST.node (SV.c (SC.int false IntKind.u64 d)) (ST.node (SV.agg [SC.int
    false IntKind.u64 b, SC.int false IntKind.i64 (smF c), SC.int false IntKind.u64 d, SC.int false IntKind.i64 (smF e), SC.int false IntKind.i64 (smF f), SC.int false IntKind.u64 g,
    SC.int false IntKind.i64 (smF h)]) ST.nil ST.nil) ST.nil) (ST.node (SV.c (SC.int false IntKind.i64 (smF f))) (ST.node (SV.tup []) ST.nil ST.nil) ST.nil)))) (ST.node (SV.c (SC.int
    true IntKind.u64 (0 : Int))) (ST.node (SV.c (SC.boo true false)) (ST.node (SV.c (SC.sli (0 : Nat) (1 : Nat) true (0 : Nat) true (8 : Nat) (8 : Nat))) (ST.node (SV.c (SC.ptr (0 :
    Nat) (2 : Nat))) (ST.node (SV.c (SC.int false IntKind.u64 g)) ST.nil ST.nil) (ST.node (SV.tup []) ST.nil ST.nil)) (ST.node (SV.c (SC.int false IntKind.u64 e)) (ST.node (SV.tup [])
    ST.nil ST.nil) ST.nil)) (ST.node (SV.c (SC.sli (0 : Nat) (1 : Nat) true (0 : Nat) true (8 : Nat) (8 : Nat))) (ST.node (SV.c (SC.ptr (0 : Nat) (3 : Nat))) (ST.node (SV.c (SC.int
    false IntKind.i64 (smF h))) ST.nil ST.nil) (ST.node (SV.tup []) ST.nil ST.nil)) (ST.node (SV.c (SC.int false IntKind.u64 f)) (ST.node (SV.tup []) ST.nil ST.nil) ST.nil))) (ST.node
    (SV.tup []) (ST.node (SV.c (SC.boo true false)) (ST.node (SV.c (SC.int false IntKind.i64 (smF c))) (ST.node (SV.c (SC.ptr (0 : Nat) (7 : Nat))) ST.nil ST.nil) (ST.node (SV.tup [])
    ST.nil ST.nil)) (ST.node (SV.c (SC.sli (0 : Nat) (1 : Nat) true (0 : Nat) true (8 : Nat) (8 : Nat))) (ST.node (SV.tup []) ST.nil ST.nil) ST.nil)) (ST.node (SV.c (SC.int false
    IntKind.u64 b)) (ST.node (SV.c (SC.sli (0 : Nat) (1 : Nat) true (0 : Nat) true (8 : Nat) (8 : Nat))) (ST.node (SV.tup []) ST.nil ST.nil) ST.nil) (ST.node (SV.c (SC.sli (0 : Nat) (1
    : Nat) true (0 : Nat) true (8 : Nat) (8 : Nat))) (ST.node (SV.tup []) ST.nil ST.nil) ST.nil))))) []) (Mem.mk [((0 : Nat), SO.cells [SC.int false IntKind.u64 a, SC.int false
    IntKind.u64 b, SC.int false IntKind.u64 c, SC.int false IntKind.u64 d, SC.int false IntKind.u64 e, SC.int false IntKind.u64 f, SC.int false IntKind.u64 g, SC.int false IntKind.u64
    h] (OfNat.ofNat (25 : Nat))), ((101 : Nat), SO.cells [SC.int true IntKind.u64 (0 : Int), SC.int true IntKind.i64 (0 : Int), SC.int true IntKind.u64 (0 : Int), SC.int true
    IntKind.i64 (0 : Int), SC.int true IntKind.i64 (0 : Int), SC.int true IntKind.u64 (0 : Int), SC.int true IntKind.i64 (0 : Int)] (49 : Nat)), ((132 : Nat), SO.cells [SC.int false
    IntKind.u64 b, SC.int false IntKind.i64 (smF c), SC.int false IntKind.u64 d, SC.int false IntKind.i64 (smF e), SC.int false IntKind.i64 (smF f), SC.int false IntKind.u64 g, SC.int
    false IntKind.i64 (smF h)] (49 : Nat))] (134 : Nat)) Scr.nil)) ∧ True) ∧ True) ∧ (∀ (K : KO XE), (fun X0 : Prop => ((0 : Int) ≤ c ∧ c ≤ (18446744073709551615 : Int)) ∧ (∀ (z : Un),
    True → a = a ∧ b = b ∧ c = c ∧ d = d ∧ e = e ∧ f = f ∧ g = g ∧ h = h ∧ (((0 : Int) ≤ e ∧ e ≤ (18446744073709551615 : Int)) ∧ (∀ (z : Un), True → a = a ∧ b = b ∧ c = c ∧ d = d ∧ e =
    e ∧ f = f ∧ g = g ∧ h = h ∧ (((0 : Int) ≤ f ∧ f ≤ (18446744073709551615 : Int)) ∧ (∀ (z : Un), True → a = a ∧ b = b ∧ c = c ∧ d = d ∧ e = e ∧ f = f ∧ g = g ∧ h = h ∧ (((0 : Int) ≤ h
    ∧ h ≤ (18446744073709551615 : Int)) ∧ (∀ (z : Un), True → a = a ∧ b = b ∧ c = c ∧ d = d ∧ e = e ∧ f = f ∧ g = g ∧ h = h ∧ (a = a ∧ b = b ∧ c = c ∧ d = d ∧ e = e ∧ f = f ∧ g = g ∧ h
    = h ∧ X0 ∧ True) ∧ True) ∧ True) ∧ (∀ (K : KO XE), (fun X1 : Prop => ((0 : Int) ≤ h ∧ h ≤ (18446744073709551615 : Int)) ∧ (∀ (z : Un), True → a = a ∧ b = b ∧ c = c ∧ d = d ∧ e = e ∧
    f = f ∧ g = g ∧ h = h ∧ (a = a ∧ b = b ∧ c = c ∧ d = d ∧ e = e ∧ f = f ∧ g = g ∧ h = h ∧ X1 ∧ True) ∧ True) ∧ True → a = a ∧ b = b ∧ c = c ∧ d = d ∧ e = e ∧ f = f ∧ g = g ∧ h = h ∧
    (((0 : Int) ≤ h ∧ h ≤ (18446744073709551615 : Int)) ∧ (∀ (z : Un), True → a = a ∧ b = b ∧ c = c ∧ d = d ∧ e = e ∧ f = f ∧ g = g ∧ h = h ∧ X1 ∧ True) ∧ True) ∧ True) (K (SF.mk (53 :
    Nat) (ST.node (SV.c (SC.sli (0 : Nat) (1 : Nat) true (0 : Nat) true (8 : Nat) (8 : Nat))) (ST.node (SV.tup []) (ST.node (SV.c (SC.ptr (101 : Nat) (0 : Nat))) (ST.node (SV.tup [])
    (ST.node (SV.c (SC.sli (0 : Nat) (1 : Nat) true (0 : Nat) true (8 : Nat) (8 : Nat))) (ST.node (SV.c (SC.ptr (0 : Nat) (6 : Nat))) ST.nil ST.nil) (ST.node (SV.tup []) ST.nil ST.nil))
    (ST.node (SV.c (SC.ptr (0 : Nat) (4 : Nat))) (ST.node (SV.tup []) ST.nil ST.nil) ST.nil)) (ST.node (SV.tup []) (ST.node (SV.c (SC.sli (0 : Nat) (1 : Nat) true (0 : Nat) true (8 :
    Nat) (8 : Nat))) (ST.node (SV.c (SC.int false IntKind.u64 h)) ST.nil ST.nil) (ST.node (SV.tup []) ST.nil ST.nil)) (ST.node (SV.c (SC.ptr (0 : Nat) (5 : Nat))) (ST.node (SV.tup [])
    ST.nil ST.nil) ST.nil))) (ST.node (SV.c (SC.ptr (132 : Nat) (0 : Nat))) (ST.node (SV.c (SC.int true IntKind.i64 (8 : Int) Bd.any)) (ST.node (SV.c (SC.int false IntKind.u64 c))
    (ST.node (SV.c (SC.sli (0 : Nat) (1 : Nat) true (0 : Nat) true (8 : Nat) (8 : Nat))) ST.nil ST.nil) (ST.node (SV.tup []) ST.nil ST.nil)) (ST.node (SV.c (SC.int false IntKind.i64
    (smF e))) (ST.node (SV.tup []) ST.nil ST.nil) ST.nil)) (ST.node (SV.c (SC.ptr (0 : Nat) (1 : Nat))) (ST.node (SV.c (SC.int false IntKind.u64 d)) (ST.node (SV.agg [SC.int false
    IntKind.u64 b, SC.int false IntKind.i64 (smF c), SC.int false IntKind.u64 d, SC.int false IntKind.i64 (smF e), SC.int false IntKind.i64 (smF f), SC.int false IntKind.u64 g, SC.int
    false IntKind.i64 (smF h)]) ST.nil ST.nil) ST.nil) (ST.node (SV.c (SC.int false IntKind.i64 (smF f))) (ST.node (SV.tup []) ST.nil ST.nil) ST.nil)))) (ST.node (SV.c (SC.int true
    IntKind.u64 (0 : Int))) (ST.node (SV.c (SC.boo true false)) (ST.node (SV.c (SC.sli (0 : Nat) (1 : Nat) true (0 : Nat) true (8 : Nat) (8 : Nat))) (ST.node (SV.c (SC.ptr (0 : Nat) (2
    : Nat))) (ST.node (SV.c (SC.int false IntKind.u64 g)) ST.nil ST.nil) (ST.node (SV.tup []) ST.nil ST.nil)) (ST.node (SV.c (SC.int false IntKind.u64 e)) (ST.node (SV.tup []) ST.nil
    ST.nil) ST.nil)) (ST.node (SV.c (SC.sli (0 : Nat) (1 : Nat) true (0 : Nat) true (8 : Nat) (8 : Nat))) (ST.node (SV.c (SC.ptr (0 : Nat) (3 : Nat))) (ST.node (SV.c (SC.int false
    IntKind.i64 (smF h))) ST.nil ST.nil) (ST.node (SV.tup []) ST.nil ST.nil)) (ST.node (SV.c (SC.int false IntKind.u64 f)) (ST.node (SV.tup []) ST.nil ST.nil) ST.nil))) (ST.node (SV.tup
    []) (ST.node (SV.c (SC.boo true false)) (ST.node (SV.c (SC.int false IntKind.i64 (smF c))) (ST.node (SV.c (SC.ptr (0 : Nat) (7 : Nat))) ST.nil ST.nil) (ST.node (SV.tup []) ST.nil
    ST.nil)) (ST.node (SV.c (SC.sli (0 : Nat) (1 : Nat) true (0 : Nat) true (8 : Nat) (8 : Nat))) (ST.node (SV.tup []) ST.nil ST.nil) ST.nil)) (ST.node (SV.c (SC.int false IntKind.u64
    b)) (ST.node (SV.c (SC.sli (0 : Nat) (1 : Nat) true (0 : Nat) true (8 : Nat) (8 : Nat))) (ST.node (SV.tup []) ST.nil ST.nil) ST.nil) (ST.node (SV.c (SC.sli (0 : Nat) (1 : Nat) true
    (0 : Nat) true (8 : Nat) (8 : Nat))) (ST.node (SV.tup []) ST.nil ST.nil) ST.nil))))) []) (Mem.mk [((0 : Nat), SO.cells [SC.int false IntKind.u64 a, SC.int false IntKind.u64 b,
    SC.int false IntKind.u64 c, SC.int false IntKind.u64 d, SC.int false IntKind.u64 e, SC.int false IntKind.u64 f, SC.int false IntKind.u64 g, SC.int false IntKind.u64 h] (OfNat.ofNat
    (25 : Nat))), ((101 : Nat), SO.cells [SC.int true IntKind.u64 (0 : Int), SC.int true IntKind.i64 (0 : Int), SC.int true IntKind.u64 (0 : Int), SC.int true IntKind.i64 (0 : Int),
    SC.int true IntKind.i64 (0 : Int), SC.int true IntKind.u64 (0 : Int), SC.int true IntKind.i64 (0 : Int)] (49 : Nat)), ((132 : Nat), SO.cells [SC.int false IntKind.u64 b, SC.int
    false IntKind.i64 (smF c), SC.int false IntKind.u64 d, SC.int false IntKind.i64 (smF e), SC.int false IntKind.i64 (smF f), SC.int false IntKind.u64 g, SC.int false IntKind.i64 (smF
    h)] (49 : Nat))] (134 : Nat)) Scr.nil)) ∧ True) ∧ True) ∧ (∀ (K : KO XE), (fun X1 : Prop => ((0 : Int) ≤ f ∧ f ≤ (18446744073709551615 : Int)) ∧ (∀ (z : Un), True → a = a ∧ b = b ∧
    c = c ∧ d = d ∧ e = e ∧ f = f ∧ g = g ∧ h = h ∧ (((0 : Int) ≤ h ∧ h ≤ (18446744073709551615 : Int)) ∧ (∀ (z : Un), True → a = a ∧ b = b ∧ c = c ∧ d = d ∧ e = e ∧ f = f ∧ g = g ∧ h =
    h ∧ (a = a ∧ b = b ∧ c = c ∧ d = d ∧ e = e ∧ f = f ∧ g = g ∧ h = h ∧ X1 ∧ True) ∧ True) ∧ True) ∧ (∀ (K : KO XE), (fun X2 : Prop => ((0 : Int) ≤ h ∧ h ≤ (18446744073709551615 :
    Int)) ∧ (∀ (z : Un), True → a = a ∧ b = b ∧ c = c ∧ d = d ∧ e = e ∧ f = f ∧ g = g ∧ h = h ∧ (a = a ∧ b = b ∧ c = c ∧ d = d ∧ e = e ∧ f = f ∧ g = g ∧ h = h ∧ X2 ∧ True) ∧ True) ∧
    True → a = a ∧ b = b ∧ c = c ∧ d = d ∧ e = e ∧ f = f ∧ g = g ∧ h = h ∧ (((0 : Int) ≤ h ∧ h ≤ (18446744073709551615 : Int)) ∧ (∀ (z : Un), True → a = a ∧ b = b ∧ c = c ∧ d = d ∧ e =
    e ∧ f = f ∧ g = g ∧ h = h ∧ X2 ∧ True) ∧ True) ∧ True) (K (SF.mk (53 : Nat) (ST.node (SV.c (SC.sli (0 : Nat) (1 : Nat) true (0 : Nat) true (8 : Nat) (8 : Nat))) (ST.node (SV.tup [])
    (ST.node (SV.c (SC.ptr (101 : Nat) (0 : Nat))) (ST.node (SV.tup []) (ST.node (SV.c (SC.sli (0 : Nat) (1 : Nat) true (0 : Nat) true (8 : Nat) (8 : Nat))) (ST.node (SV.c (SC.ptr (0 :
    Nat) (6 : Nat))) ST.nil ST.nil) (ST.node (SV.tup []) ST.nil ST.nil)) (ST.node (SV.c (SC.ptr (0 : Nat) (4 : Nat))) (ST.node (SV.tup []) ST.nil ST.nil) ST.nil)) (ST.node (SV.tup [])
    (ST.node (SV.c (SC.sli (0 : Nat) (1 : Nat) true (0 : Nat) true (8 : Nat) (8 : Nat))) (ST.node (SV.c (SC.int false IntKind.u64 h)) ST.nil ST.nil) (ST.node (SV.tup []) ST.nil ST.nil))
    (ST.node (SV.c (SC.ptr (0 : Nat) (5 : Nat))) (ST.node (SV.tup []) ST.nil ST.nil) ST.nil))) (ST.node (SV.c (SC.ptr (132 : Nat) (0 : Nat))) (ST.node (SV.c (SC.int true IntKind.i64 (8
    : Int) Bd.any)) (ST.node (SV.c (SC.int false IntKind.u64 c)) (ST.node (SV.c (SC.sli (0 : Nat) (1 : Nat) true (0 : Nat) true (8 : Nat) (8 : Nat))) ST.nil ST.nil) (ST.node (SV.tup [])
    ST.nil ST.nil)) (ST.node (SV.c (SC.int false IntKind.i64 (smF e))) (ST.node (SV.tup []) ST.nil ST.nil) ST.nil)) (ST.node (SV.c (SC.ptr (0 : Nat) (1 : Nat))) (ST.node (SV.c (SC.int
    false IntKind.u64 d)) (ST.node (SV.agg [SC.int false IntKind.u64 b, SC.int false IntKind.i64 (smF c), SC.int false IntKind.u64 d, SC.int false IntKind.i64 (smF e), SC.int false
    IntKind.i64 (smF f), SC.int false IntKind.u64 g, SC.int false IntKind.i64 (smF h)]) ST.nil ST.nil) ST.nil) (ST.node (SV.c (SC.int false IntKind.i64 (smF f))) (ST.node (SV.tup [])
    ST.nil ST.nil) ST.nil)))) (ST.node (SV.c (SC.int true IntKind.u64 (0 : Int))) (ST.node (SV.c (SC.boo true false)) (ST.node (SV.c (SC.sli (0 : Nat) (1 : Nat) true (0 : Nat) true (8 :
    Nat) (8 : Nat))) (ST.node (SV.c (SC.ptr (0 : Nat) (2 : Nat))) (ST.node (SV.c (SC.int false IntKind.u64 g)) ST.nil ST.nil) (ST.node (SV.tup []) ST.nil ST.nil)) (ST.node (SV.c (SC.int
    false IntKind.u64 e)) (ST.node (SV.tup []) ST.nil ST.nil) ST.nil)) (ST.node (SV.c (SC.sli (0 : Nat) (1 : Nat) true (0 : Nat) true (8 : Nat) (8 : Nat))) (ST.node (SV.c (SC.ptr (0 :
    Nat) (3 : Nat))) (ST.node (SV.c (SC.int false IntKind.i64 (smF h))) ST.nil ST.nil) (ST.node (SV.tup []) ST.nil ST.nil)) (ST.node (SV.c (SC.int false IntKind.u64 f)) (ST.node (SV.tup
    []) ST.nil ST.nil) ST.nil))) (ST.node (SV.tup []) (ST.node (SV.c (SC.boo true false)) (ST.node (SV.c (SC.int false IntKind.i64 (smF c))) (ST.node (SV.c (SC.ptr (0 : Nat) (7 : Nat)))
    ST.nil ST.nil) (ST.node (SV.tup []) ST.nil ST.nil)) (ST.node (SV.c (SC.sli (0 : Nat) (1 : Nat) true (0 : Nat) true (8 : Nat) (8 : Nat))) (ST.node (SV.tup []) ST.nil ST.nil) ST.nil))
    (ST.node (SV.c (SC.int false IntKind.u64 b)) (ST.node (SV.c (SC.sli (0 : Nat) (1 : Nat) true (0 : Nat) true (8 : Nat) (8 : Nat))) (ST.node (SV.tup []) ST.nil ST.nil) ST.nil)
    (ST.node (SV.c (SC.sli (0 : Nat) (1 : Nat) true (0 : Nat) true (8 : Nat) (8 : Nat))) (ST.node (SV.tup []) ST.nil ST.nil) ST.nil))))) []) (Mem.mk [((0 : Nat), SO.cells [SC.int false
    IntKind.u64 a, SC.int false IntKind.u64 b, SC.int false IntKind.u64 c, SC.int false IntKind.u64 d, SC.int false IntKind.u64 e, SC.int false IntKind.u64 f, SC.int false IntKind.u64
    g, SC.int false IntKind.u64 h] (OfNat.ofNat (25 : Nat))), ((101 : Nat), SO.cells [SC.int true IntKind.u64 (0 : Int), SC.int true IntKind.i64 (0 : Int), SC.int true IntKind.u64 (0 :
    Int), SC.int true IntKind.i64 (0 : Int), SC.int true IntKind.i64 (0 : Int), SC.int true IntKind.u64 (0 : Int), SC.int true IntKind.i64 (0 : Int)] (49 : Nat)), ((132 : Nat), SO.cells
    [SC.int false IntKind.u64 b, SC.int false IntKind.i64 (smF c), SC.int false IntKind.u64 d, SC.int false IntKind.i64 (smF e), SC.int false IntKind.i64 (smF f), SC.int false
    IntKind.u64 g, SC.int false IntKind.i64 (smF h)] (49 : Nat))] (134 : Nat)) Scr.nil)) ∧ True) ∧ True → a = a ∧ b = b ∧ c = c ∧ d = d ∧ e = e ∧ f = f ∧ g = g ∧ h = h ∧ (((0 : Int) ≤ f
    ∧ f ≤ (18446744073709551615 : Int)) ∧ (∀ (z : Un), True → a = a ∧ b = b ∧ c = c ∧ d = d ∧ e = e ∧ f = f ∧ g = g ∧ h = h ∧ (((0 : Int) ≤ h ∧ h ≤ (18446744073709551615 : Int)) ∧ (∀ (z
    : Un), True → a = a ∧ b = b ∧ c = c ∧ d = d ∧ e = e ∧ f = f ∧ g = g ∧ h = h ∧ X1 ∧ True) ∧ True) ∧ True) ∧ True) ∧ True) (K (SF.mk (53 : Nat) (ST.node (SV.c (SC.sli (0 : Nat) (1 :
    Nat) true (0 : Nat) true (8 : Nat) (8 : Nat))) (ST.node (SV.tup []) (ST.node (SV.c (SC.ptr (101 : Nat) (0 : Nat))) (ST.node (SV.tup []) (ST.node (SV.c (SC.sli (0 : Nat) (1 : Nat)
    true (0 : Nat) true (8 : Nat) (8 : Nat))) (ST.node (SV.c (SC.ptr (0 : Nat) (6 : Nat))) ST.nil ST.nil) (ST.node (SV.tup []) ST.nil ST.nil)) (ST.node (SV.c (SC.ptr (0 : Nat) (4 :
    Nat))) (ST.node (SV.tup []) ST.nil ST.nil) ST.nil)) (ST.node (SV.tup []) (ST.node (SV.c (SC.sli (0 : Nat) (1 : Nat) true (0 : Nat) true (8 : Nat) (8 : Nat))) (ST.node (SV.c (SC.int
    false IntKind.u64 h)) ST.nil ST.nil) (ST.node (SV.tup []) ST.nil ST.nil)) (ST.node (SV.c (SC.ptr (0 : Nat) (5 : Nat))) (ST.node (SV.tup []) ST.nil ST.nil) ST.nil))) (ST.node (SV.c
    (SC.ptr (132 : Nat) (0 : Nat))) (ST.node (SV.c (SC.int true IntKind.i64 (8 : Int) Bd.any)) (ST.node (SV.c (SC.int false IntKind.u64 c)) (ST.node (SV.c (SC.sli (0 : Nat) (1 : Nat)
    true (0 : Nat) true (8 : Nat) (8 : Nat))) ST.nil ST.nil) (ST.node (SV.tup []) ST.nil ST.nil)) (ST.node (SV.c (SC.int false IntKind.i64 (smF e))) (ST.node (SV.tup []) ST.nil ST.nil)
    ST.nil)) (ST.node (SV.c (SC.ptr (0 : Nat) (1 : Nat))) (ST.node (SV.c (SC.int false IntKind.u64 d)) (ST.node (SV.agg [SC.int false IntKind.u64 b, SC.int false IntKind.i64 (smF c),
    SC.int false IntKind.u64 d, SC.int false IntKind.i64 (smF e), SC.int false IntKind.i64 (smF f), SC.int false IntKind.u64 g, SC.int false IntKind.i64 (smF h)]) ST.nil ST.nil) ST.nil)
    (ST.node (SV.c (SC.int false IntKind.i64 (smF f))) (ST.node (SV.tup []) ST.nil ST.nil) ST.nil)))) (ST.node (SV.c (SC.int true IntKind.u64 (0 : Int))) (ST.node (SV.c (SC.boo true
    false)) (ST.node (SV.c (SC.sli (0 : Nat) (1 : Nat) true (0 : Nat) true (8 : Nat) (8 : Nat))) (ST.node (SV.c (SC.ptr (0 : Nat) (2 : Nat))) (ST.node (SV.c (SC.int false IntKind.u64
    g)) ST.nil ST.nil) (ST.node (SV.tup []) ST.nil ST.nil)) (ST.node (SV.c (SC.int false IntKind.u64 e)) (ST.node (SV.tup []) ST.nil ST.nil) ST.nil)) (ST.node (SV.c (SC.sli (0 : Nat) (1
    : Nat) true (0 : Nat) true (8 : Nat) (8 : Nat))) (ST.node (SV.c (SC.ptr (0 : Nat) (3 : Nat))) (ST.node (SV.c (SC.int false IntKind.i64 (smF h))) ST.nil ST.nil) (ST.node (SV.tup [])
    ST.nil ST.nil)) (ST.node (SV.c (SC.int false IntKind.u64 f)) (ST.node (SV.tup []) ST.nil ST.nil) ST.nil))) (ST.node (SV.tup []) (ST.node (SV.c (SC.boo true false)) (ST.node (SV.c
    (SC.int false IntKind.i64 (smF c))) (ST.node (SV.c (SC.ptr (0 : Nat) (7 : Nat))) ST.nil ST.nil) (ST.node (SV.tup []) ST.nil ST.nil)) (ST.node (SV.c (SC.sli (0 : Nat) (1 : Nat) true
    (0 : Nat) true (8 : Nat) (8 : Nat))) (ST.node (SV.tup []) ST.nil ST.nil) ST.nil)) (ST.node (SV.c (SC.int false IntKind.u64 b)) (ST.node (SV.c (SC.sli (0 : Nat) (1 : Nat) true (0 :
    Nat) true (8 : Nat) (8 : Nat))) (ST.node (SV.tup []) ST.nil ST.nil) ST.nil) (ST.node (SV.c (SC.sli (0 : Nat) (1 : Nat) true (0 : Nat) true (8 : Nat) (8 : Nat))) (ST.node (SV.tup [])
    ST.nil ST.nil) ST.nil))))) []) (Mem.mk [((0 : Nat), SO.cells [SC.int false IntKind.u64 a, SC.int false IntKind.u64 b, SC.int false IntKind.u64 c, SC.int false IntKind.u64 d, SC.int
    false IntKind.u64 e, SC.int false IntKind.u64 f, SC.int false IntKind.u64 g, SC.int false IntKind.u64 h] (OfNat.ofNat (25 : Nat))), ((101 : Nat), SO.cells [SC.int true IntKind.u64
    (0 : Int), SC.int true IntKind.i64 (0 : Int), SC.int true IntKind.u64 (0 : Int), SC.int true IntKind.i64 (0 : Int), SC.int true IntKind.i64 (0 : Int), SC.int true IntKind.u64 (0 :
    Int), SC.int true IntKind.i64 (0 : Int)] (49 : Nat)), ((132 : Nat), SO.cells [SC.int false IntKind.u64 b, SC.int false IntKind.i64 (smF c), SC.int false IntKind.u64 d, SC.int false
    IntKind.i64 (smF e), SC.int false IntKind.i64 (smF f), SC.int false IntKind.u64 g, SC.int false IntKind.i64 (smF h)] (49 : Nat))] (134 : Nat)) Scr.nil)) ∧ True) ∧ True) ∧ (∀ (K : KO
    XE), (fun X1 : Prop => ((0 : Int) ≤ e ∧ e ≤ (18446744073709551615 : Int)) ∧ (∀ (z : Un), True → a = a ∧ b = b ∧ c = c ∧ d = d ∧ e = e ∧ f = f ∧ g = g ∧ h = h ∧ (((0 : Int) ≤ f ∧ f ≤
    (18446744073709551615 : Int)) ∧ (∀ (z : Un), True → a = a ∧ b = b ∧ c = c ∧ d = d ∧ e = e ∧ f = f ∧ g = g ∧ h = h ∧ (((0 : Int) ≤ h ∧ h ≤ (18446744073709551615 : Int)) ∧ (∀ (z :
    Un), True → a = a ∧ b = b ∧ c = c ∧ d = d ∧ e = e ∧ f = f ∧ g = g ∧ h = h ∧ (a = a ∧ b = b ∧ c = c ∧ d = d ∧ e = e ∧ f = f ∧ g = g ∧ h = h ∧ X1 ∧ True) ∧ True) ∧ True) ∧ (∀ (K : KO
    XE), (fun X2 : Prop => ((0 : Int) ≤ h ∧ h ≤ (18446744073709551615 : Int)) ∧ (∀ (z : Un), True → a = a ∧ b = b ∧ c = c ∧ d = d ∧ e = e ∧ f = f ∧ g = g ∧ h = h ∧ (a = a ∧ b = b ∧ c =
    c ∧ d = d ∧ e = e ∧ f = f ∧ g = g ∧ h = h ∧ X2 ∧ True) ∧ True) ∧ True → a = a ∧ b = b ∧ c = c ∧ d = d ∧ e = e ∧ f = f ∧ g = g ∧ h = h ∧ (((0 : Int) ≤ h ∧ h ≤ (18446744073709551615 :
    Int)) ∧ (∀ (z : Un), True → a = a ∧ b = b ∧ c = c ∧ d = d ∧ e = e ∧ f = f ∧ g = g ∧ h = h ∧ X2 ∧ True) ∧ True) ∧ True) (K (SF.mk (53 : Nat) (ST.node (SV.c (SC.sli (0 : Nat) (1 :
    Nat) true (0 : Nat) true (8 : Nat) (8 : Nat))) (ST.node (SV.tup []) (ST.node (SV.c (SC.ptr (101 : Nat) (0 : Nat))) (ST.node (SV.tup []) (ST.node (SV.c (SC.sli (0 : Nat) (1 : Nat)
    true (0 : Nat) true (8 : Nat) (8 : Nat))) (ST.node (SV.c (SC.ptr (0 : Nat) (6 : Nat))) ST.nil ST.nil) (ST.node (SV.tup []) ST.nil ST.nil)) (ST.node (SV.c (SC.ptr (0 : Nat) (4 :
    Nat))) (ST.node (SV.tup []) ST.nil ST.nil) ST.nil)) (ST.node (SV.tup []) (ST.node (SV.c (SC.sli (0 : Nat) (1 : Nat) true (0 : Nat) true (8 : Nat) (8 : Nat))) (ST.node (SV.c (SC.int
    false IntKind.u64 h)) ST.nil ST.nil) (ST.node (SV.tup []) ST.nil ST.nil)) (ST.node (SV.c (SC.ptr (0 : Nat) (5 : Nat))) (ST.node (SV.tup []) ST.nil ST.nil) ST.nil))) (ST.node (SV.c
    (SC.ptr (132 : Nat) (0 : Nat))) (ST.node (SV.c (SC.int true IntKind.i64 (8 : Int) Bd.any)) (ST.node (SV.c (SC.int false IntKind.u64 c)) (ST.node (SV.c (SC.sli (0 : Nat) (1 : Nat)
    true (0 : Nat) true (8 : Nat) (8 : Nat))) ST.nil ST.nil) (ST.node (SV.tup []) ST.nil ST.nil)) (ST.node (SV.c (SC.int false IntKind.i64 (smF e))) (ST.node (SV.tup []) ST.nil ST.nil)
    ST.nil)) (ST.node (SV.c (SC.ptr (0 : Nat) (1 : Nat))) (ST.node (SV.c (SC.int false IntKind.u64 d)) (ST.node (SV.agg [SC.int false IntKind.u64 b, SC.int false IntKind.i64 (smF c),
    SC.int false IntKind.u64 d, SC.int false IntKind.i64 (smF e), SC.int false IntKind.i64 (smF f), SC.int false IntKind.u64 g, SC.int false IntKind.i64 (smF h)]) ST.nil ST.nil) ST.nil)
    (ST.node (SV.c (SC.int false IntKind.i64 (smF f))) (ST.node (SV.tup []) ST.nil ST.nil) ST.nil)))) (ST.node (SV.c (SC.int true IntKind.u64 (0 : Int))) (ST.node (SV.c (SC.boo true
    false)) (ST.node (SV.c (SC.sli (0 : Nat) (1 : Nat) true (0 : Nat) true (8 : Nat) (8 : Nat))) (ST.node (SV.c (SC.ptr (0 : Nat) (2 : Nat))) (ST.node (SV.c (SC.int false IntKind.u64
    g)) ST.nil ST.nil) (ST.node (SV.tup []) ST.nil ST.nil)) (ST.node (SV.c (SC.int false IntKind.u64 e)) (ST.node (SV.tup []) ST.nil ST.nil) ST.nil)) (ST.node (SV.c (SC.sli (0 : Nat) (1
    : Nat) true (0 : Nat) true (8 : Nat) (8 : Nat))) (ST.node (SV.c (SC.ptr (0 : Nat) (3 : Nat))) (ST.node (SV.c (SC.int false IntKind.i64 (smF h))) ST.nil ST.nil) (ST.node (SV.tup [])
    ST.nil ST.nil)) (ST.node (SV.c (SC.int false IntKind.u64 f)) (ST.node (SV.tup []) ST.nil ST.nil) ST.nil))) (ST.node (SV.tup []) (ST.node (SV.c (SC.boo true false)) (ST.node (SV.c
    (SC.int false IntKind.i64 (smF c))) (ST.node (SV.c (SC.ptr (0 : Nat) (7 : Nat))) ST.nil ST.nil) (ST.node (SV.tup []) ST.nil ST.nil)) (ST.node (SV.c (SC.sli (0 : Nat) (1 : Nat) true
    (0 : Nat) true (8 : Nat) (8 : Nat))) (ST.node (SV.tup []) ST.nil ST.nil) ST.nil)) (ST.node (SV.c (SC.int false IntKind.u64 b)) (ST.node (SV.c (SC.sli (0 : Nat) (1 : Nat) true (0 :
    Nat) true (8 : Nat) (8 : Nat))) (ST.node (SV.tup []) ST.nil ST.nil) ST.nil) (ST.node (SV.c (SC.sli (0 : Nat) (1 : Nat) true (0 : Nat) true (8 : Nat) (8 : Nat))) (ST.node (SV.tup [])
    ST.nil ST.nil) ST.nil))))) []) (Mem.mk [((0 : Nat), SO.cells [SC.int false IntKind.u64 a, SC.int false IntKind.u64 b, SC.int false IntKind.u64 c, SC.int false IntKind.u64 d, SC.int
    false IntKind.u64 e, SC.int false IntKind.u64 f, SC.int false IntKind.u64 g, SC.int false IntKind.u64 h] (OfNat.ofNat (25 : Nat))), ((101 : Nat), SO.cells [SC.int true IntKind.u64
    (0 : Int), SC.int true IntKind.i64 (0 : Int), SC.int true IntKind.u64 (0 : Int), SC.int true IntKind.i64 (0 : Int), SC.int true IntKind.i64 (0 : Int), SC.int true IntKind.u64 (0 :
    Int), SC.int true IntKind.i64 (0 : Int)] (49 : Nat)), ((132 : Nat), SO.cells [SC.int false IntKind.u64 b, SC.int false IntKind.i64 (smF c), SC.int false IntKind.u64 d, SC.int false
    IntKind.i64 (smF e), SC.int false IntKind.i64 (smF f), SC.int false IntKind.u64 g, SC.int false IntKind.i64 (smF h)] (49 : Nat))] (134 : Nat)) Scr.nil)) ∧ True) ∧ True) ∧ (∀ (K : KO
    XE), (fun X2 : Prop => ((0 : Int) ≤ f ∧ f ≤ (18446744073709551615 : Int)) ∧ (∀ (z : Un), True → a = a ∧ b = b ∧ c = c ∧ d = d ∧ e = e ∧ f = f ∧ g = g ∧ h = h ∧ (((0 : Int) ≤ h ∧ h ≤
    (18446744073709551615 : Int)) ∧ (∀ (z : Un), True → a = a ∧ b = b ∧ c = c ∧ d = d ∧ e = e ∧ f = f ∧ g = g ∧ h = h ∧ (a = a ∧ b = b ∧ c = c ∧ d = d ∧ e = e ∧ f = f ∧ g = g ∧ h = h ∧
    X2 ∧ True) ∧ True) ∧ True) ∧ (∀ (K : KO XE), (fun X3 : Prop => ((0 : Int) ≤ h ∧ h ≤ (18446744073709551615 : Int)) ∧ (∀ (z : Un), True → a = a ∧ b = b ∧ c = c ∧ d = d ∧ e = e ∧ f = f
    ∧ g = g ∧ h = h ∧ (a = a ∧ b = b ∧ c = c ∧ d = d ∧ e = e ∧ f = f ∧ g = g ∧ h = h ∧ X3 ∧ True) ∧ True) ∧ True → a = a ∧ b = b ∧ c = c ∧ d = d ∧ e = e ∧ f = f ∧ g = g ∧ h = h ∧ (((0 :
    Int) ≤ h ∧ h ≤ (18446744073709551615 : Int)) ∧ (∀ (z : Un), True → a = a ∧ b = b ∧ c = c ∧ d = d ∧ e = e ∧ f = f ∧ g = g ∧ h = h ∧ X3 ∧ True) ∧ True) ∧ True) (K (SF.mk (53 : Nat)
    (ST.node (SV.c (SC.sli (0 : Nat) (1 : Nat) true (0 : Nat) true (8 : Nat) (8 : Nat))) (ST.node (SV.tup []) (ST.node (SV.c (SC.ptr (101 : Nat) (0 : Nat))) (ST.node (SV.tup [])
    (ST.node (SV.c (SC.sli (0 : Nat) (1 : Nat) true (0 : Nat) true (8 : Nat) (8 : Nat))) (ST.node (SV.c (SC.ptr (0 : Nat) (6 : Nat))) ST.nil ST.nil) (ST.node (SV.tup []) ST.nil ST.nil))
    (ST.node (SV.c (SC.ptr (0 : Nat) (4 : Nat))) (ST.node (SV.tup []) ST.nil ST.nil) ST.nil)) (ST.node (SV.tup []) (ST.node (SV.c (SC.sli (0 : Nat) (1 : Nat) true (0 : Nat) true (8 :
    Nat) (8 : Nat))) (ST.node (SV.c (SC.int false IntKind.u64 h)) ST.nil ST.nil) (ST.node (SV.tup []) ST.nil ST.nil)) (ST.node (SV.c (SC.ptr (0 : Nat) (5 : Nat))) (ST.node (SV.tup [])
    ST.nil ST.nil) ST.nil))) (ST.node (SV.c (SC.ptr (132 : Nat) (0 : Nat))) (ST.node (SV.c (SC.int true IntKind.i64 (8 : Int) Bd.any)) (ST.node (SV.c (SC.int false IntKind.u64 c))
    (ST.node (SV.c (SC.sli (0 : Nat) (1 : Nat) true (0 : Nat) true (8 : Nat) (8 : Nat))) ST.nil ST.nil) (ST.node (SV.tup []) ST.nil ST.nil)) (ST.node (SV.c (SC.int false IntKind.i64
    (smF e))) (ST.node (SV.tup []) ST.nil ST.nil) ST.nil)) (ST.node (SV.c (SC.ptr (0 : Nat) (1 : Nat))) (ST.node (SV.c (SC.int false IntKind.u64 d)) (ST.node (SV.agg [SC.int false
    IntKind.u64 b, SC.int false IntKind.i64 (smF c), SC.int false IntKind.u64 d, SC.int false IntKind.i64 (smF e), SC.int false IntKind.i64 (smF f), SC.int false IntKind.u64 g, SC.int
    false IntKind.i64 (smF h)]) ST.nil ST.nil) ST.nil) (ST.node (SV.c (SC.int false IntKind.i64 (smF f))) (ST.node (SV.tup []) ST.nil ST.nil) ST.nil)))) (ST.node (SV.c (SC.int true
    IntKind.u64 (0 : Int))) (ST.node (SV.c (SC.boo true false)) (ST.node (SV.c (SC.sli (0 : Nat) (1 : Nat) true (0 : Nat) true (8 : Nat) (8 : Nat))) (ST.node (SV.c (SC.ptr (0 : Nat) (2
    : Nat))) (ST.node (SV.c (SC.int false IntKind.u64 g)) ST.nil ST.nil) (ST.node (SV.tup []) ST.nil ST.nil)) (ST.node (SV.c (SC.int false IntKind.u64 e)) (ST.node (SV.tup []) ST.nil
    ST.nil) ST.nil)) (ST.node (SV.c (SC.sli (0 : Nat) (1 : Nat) true (0 : Nat) true (8 : Nat) (8 : Nat))) (ST.node (SV.c (SC.ptr (0 : Nat) (3 : Nat))) (ST.node (SV.c (SC.int false
    IntKind.i64 (smF h))) ST.nil ST.nil) (ST.node (SV.tup []) ST.nil ST.nil)) (ST.node (SV.c (SC.int false IntKind.u64 f)) (ST.node (SV.tup []) ST.nil ST.nil) ST.nil))) (ST.node (SV.tup
    []) (ST.node (SV.c (SC.boo true false)) (ST.node (SV.c (SC.int false IntKind.i64 (smF c))) (ST.node (SV.c (SC.ptr (0 : Nat) (7 : Nat))) ST.nil ST.nil) (ST.node (SV.tup []) ST.nil
    ST.nil)) (ST.node (SV.c (SC.sli (0 : Nat) (1 : Nat) true (0 : Nat) true (8 : Nat) (8 : Nat))) (ST.node (SV.tup []) ST.nil ST.nil) ST.nil)) (ST.node (SV.c (SC.int false IntKind.u64
    b)) (ST.node (SV.c (SC.sli (0 : Nat) (1 : Nat) true (0 : Nat) true (8 : Nat) (8 : Nat))) (ST.node (SV.tup []) ST.nil ST.nil) ST.nil) (ST.node (SV.c (SC.sli (0 : Nat) (1 : Nat) true
    (0 : Nat) true (8 : Nat) (8 : Nat))) (ST.node (SV.tup []) ST.nil ST.nil) ST.nil))))) []) (Mem.mk [((0 : Nat), SO.cells [SC.int false IntKind.u64 a, SC.int false IntKind.u64 b,
    SC.int false IntKind.u64 c, SC.int false IntKind.u64 d, SC.int false IntKind.u64 e, SC.int false IntKind.u64 f, SC.int false IntKind.u64 g, SC.int false IntKind.u64 h] (OfNat.ofNat
    (25 : Nat))), ((101 : Nat), SO.cells [SC.int true IntKind.u64 (0 : Int), SC.int true IntKind.i64 (0 : Int), SC.int true IntKind.u64 (0 : Int), SC.int true IntKind.i64 (0 : Int),
    SC.int true IntKind.i64 (0 : Int), SC.int true IntKind.u64 (0 : Int), SC.int true IntKind.i64 (0 : Int)] (49 : Nat)), ((132 : Nat), SO.cells [SC.int false IntKind.u64 b, SC.int
    false IntKind.i64 (smF c), SC.int false IntKind.u64 d, SC.int false IntKind.i64 (smF e), SC.int false IntKind.i64 (smF f), SC.int false IntKind.u64 g, SC.int false IntKind.i64 (smF
    h)] (49 : Nat))] (134 : Nat)) Scr.nil)) ∧ True) ∧ True → a = a ∧ b = b ∧ c = c ∧ d = d ∧ e = e ∧ f = f ∧ g = g ∧ h = h ∧ (((0 : Int) ≤ f ∧ f ≤ (18446744073709551615 : Int)) ∧ (∀ (z
    : Un), True → a = a ∧ b = b ∧ c = c ∧ d = d ∧ e = e ∧ f = f ∧ g = g ∧ h = h ∧ (((0 : Int) ≤ h ∧ h ≤ (18446744073709551615 : Int)) ∧ (∀ (z : Un), True → a = a ∧ b = b ∧ c = c ∧ d = d
    ∧ e = e ∧ f = f ∧ g = g ∧ h = h ∧ X2 ∧ True) ∧ True) ∧ True) ∧ True) ∧ True) (K (SF.mk (53 : Nat) (ST.node (SV.c (SC.sli (0 : Nat) (1 : Nat) true (0 : Nat) true (8 : Nat) (8 :
    Nat))) (ST.node (SV.tup []) (ST.node (SV.c (SC.ptr (101 : Nat) (0 : Nat))) (ST.node (SV.tup []) (ST.node (SV.c (SC.sli (0 : Nat) (1 : Nat) true (0 : Nat) true (8 : Nat) (8 : Nat)))
    (ST.node (SV.c (SC.ptr (0 : Nat) (6 : Nat))) ST.nil ST.nil) (ST.node (SV.tup []) ST.nil ST.nil)) (ST.node (SV.c (SC.ptr (0 : Nat) (4 : Nat))) (ST.node (SV.tup []) ST.nil ST.nil)
    ST.nil)) (ST.node (SV.tup []) (ST.node (SV.c (SC.sli (0 : Nat) (1 : Nat) true (0 : Nat) true (8 : Nat) (8 : Nat))) (ST.node (SV.c (SC.int false IntKind.u64 h)) ST.nil ST.nil)
    (ST.node (SV.tup []) ST.nil ST.nil)) (ST.node (SV.c (SC.ptr (0 : Nat) (5 : Nat))) (ST.node (SV.tup []) ST.nil ST.nil) ST.nil))) (ST.node (SV.c (SC.ptr (132 : Nat) (0 : Nat)))
    (ST.node (SV.c (SC.int true IntKind.i64 (8 : Int) Bd.any)) (ST.node (SV.c (SC.int false IntKind.u64 c)) (ST.node (SV.c (SC.sli (0 : Nat) (1 : Nat) true (0 : Nat) true (8 : Nat) (8 :
    Nat))) ST.nil ST.nil) (ST.node (SV.tup []) ST.nil ST.nil)) (ST.node (SV.c (SC.int false IntKind.i64 (smF e))) (ST.node (SV.tup []) ST.nil ST.nil) ST.nil)) (ST.node (SV.c (SC.ptr (0
    : Nat) (1 : Nat))) (ST.node (SV.c (SC.int false IntKind.u64 d)) (ST.node (SV.agg [SC.int false IntKind.u64 b, SC.int false IntKind.i64 (smF c), SC.int false IntKind.u64 d, SC.int
    false IntKind.i64 (smF e), SC.int false IntKind.i64 (smF f), SC.int false IntKind.u64 g, SC.int false IntKind.i64 (smF h)]) ST.nil ST.nil) ST.nil) (ST.node (SV.c (SC.int false
    IntKind.i64 (smF f))) (ST.node (SV.tup []) ST.nil ST.nil) ST.nil)))) (ST.node (SV.c (SC.int true IntKind.u64 (0 : Int))) (ST.node (SV.c (SC.boo true false)) (ST.node (SV.c (SC.sli
    (0 : Nat) (1 : Nat) true (0 : Nat) true (8 : Nat) (8 : Nat))) (ST.node (SV.c (SC.ptr (0 : Nat) (2 : Nat))) (ST.node (SV.c (SC.int false IntKind.u64 g)) ST.nil ST.nil) (ST.node
    (SV.tup []) ST.nil ST.nil)) (ST.node (SV.c (SC.int false IntKind.u64 e)) (ST.node (SV.tup []) ST.nil ST.nil) ST.nil)) (ST.node (SV.c (SC.sli (0 : Nat) (1 : Nat) true (0 : Nat) true
    (8 : Nat) (8 : Nat))) (ST.node (SV.c (SC.ptr (0 : Nat) (3 : Nat))) (ST.node (SV.c (SC.int false IntKind.i64 (smF h))) ST.nil ST.nil) (ST.node (SV.tup []) ST.nil ST.nil)) (ST.node
    (SV.c (SC.int false IntKind.u64 f)) (ST.node (SV.tup []) ST.nil ST.nil) ST.nil))) (ST.node (SV.tup []) (ST.node (SV.c (SC.boo true false)) (ST.node (SV.c (SC.int false IntKind.i64
    (smF c))) (ST.node (SV.c (SC.ptr (0 : Nat) (7 : Nat))) ST.nil ST.nil) (ST.node (SV.tup []) ST.nil ST.nil)) (ST.node (SV.c (SC.sli (0 : Nat) (1 : Nat) true (0 : Nat) true (8 : Nat)
    (8 : Nat))) (ST.node (SV.tup []) ST.nil ST.nil) ST.nil)) (ST.node (SV.c (SC.int false IntKind.u64 b)) (ST.node (SV.c (SC.sli (0 : Nat) (1 : Nat) true (0 : Nat) true (8 : Nat) (8 :
    Nat))) (ST.node (SV.tup []) ST.nil ST.nil) ST.nil) (ST.node (SV.c (SC.sli (0 : Nat) (1 : Nat) true (0 : Nat) true (8 : Nat) (8 : Nat))) (ST.node (SV.tup []) ST.nil ST.nil)
    ST.nil))))) []) (Mem.mk [((0 : Nat), SO.cells [SC.int false IntKind.u64 a, SC.int false IntKind.u64 b, SC.int false IntKind.u64 c, SC.int false IntKind.u64 d, SC.int false
    IntKind.u64 e, SC.int false IntKind.u64 f, SC.int false IntKind.u64 g, SC.int false IntKind.u64 h] (OfNat.ofNat (25 : Nat))), ((101 : Nat), SO.cells [SC.int true IntKind.u64 (0 :
    Int), SC.int true IntKind.i64 (0 : Int), SC.int true IntKind.u64 (0 : Int), SC.int true IntKind.i64 (0 : Int), SC.int true IntKind.i64 (0 : Int), SC.int true IntKind.u64 (0 : Int),
    SC.int true IntKind.i64 (0 : Int)] (49 : Nat)), ((132 : Nat), SO.cells [SC.int false IntKind.u64 b, SC.int false IntKind.i64 (smF c), SC.int false IntKind.u64 d, SC.int false
    IntKind.i64 (smF e), SC.int false IntKind.i64 (smF f), SC.int false IntKind.u64 g, SC.int false IntKind.i64 (smF h)] (49 : Nat))] (134 : Nat)) Scr.nil)) ∧ True) ∧ True → a = a ∧ b =
    b ∧ c = c ∧ d = d ∧ e = e ∧ f = f ∧ g = g ∧ h = h ∧ (((0 : Int) ≤ e ∧ e ≤ (18446744073709551615 : Int)) ∧ (∀ (z : Un), True → a = a ∧ b = b ∧ c = c ∧ d = d ∧ e = e ∧ f = f ∧ g = g ∧
    h = h ∧ (((0 : Int) ≤ f ∧ f ≤ (18446744073709551615 : Int)) ∧ (∀ (z : Un), True → a = a ∧ b = b ∧ c = c ∧ d = d ∧ e = e ∧ f = f ∧ g = g ∧ h = h ∧ (((0 : Int) ≤ h ∧ h ≤
    (18446744073709551615 : Int)) ∧ (∀ (z : Un), True → a = a ∧ b = b ∧ c = c ∧ d = d ∧ e = e ∧ f = f ∧ g = g ∧ h = h ∧ X1 ∧ True) ∧ True) ∧ True) ∧ True) ∧ True) ∧ True) ∧ True) (K
    (SF.mk (53 : Nat) (ST.node (SV.c (SC.sli (0 : Nat) (1 : Nat) true (0 : Nat) true (8 : Nat) (8 : Nat))) (ST.node (SV.tup []) (ST.node (SV.c (SC.ptr (101 : Nat) (0 : Nat))) (ST.node
    (SV.tup []) (ST.node (SV.c (SC.sli (0 : Nat) (1 : Nat) true (0 : Nat) true (8 : Nat) (8 : Nat))) (ST.node (SV.c (SC.ptr (0 : Nat) (6 : Nat))) ST.nil ST.nil) (ST.node (SV.tup [])
    ST.nil ST.nil)) (ST.node (SV.c (SC.ptr (0 : Nat) (4 : Nat))) (ST.node (SV.tup []) ST.nil ST.nil) ST.nil)) (ST.node (SV.tup []) (ST.node (SV.c (SC.sli (0 : Nat) (1 : Nat) true (0 :
    Nat) true (8 : Nat) (8 : Nat))) (ST.node (SV.c (SC.int false IntKind.u64 h)) ST.nil ST.nil) (ST.node (SV.tup []) ST.nil ST.nil)) (ST.node (SV.c (SC.ptr (0 : Nat) (5 : Nat)))
    (ST.node (SV.tup []) ST.nil ST.nil) ST.nil))) (ST.node (SV.c (SC.ptr (132 : Nat) (0 : Nat))) (ST.node (SV.c (SC.int true IntKind.i64 (8 : Int) Bd.any)) (ST.node (SV.c (SC.int false
    IntKind.u64 c)) (ST.node (SV.c (SC.sli (0 : Nat) (1 : Nat) true (0 : Nat) true (8 : Nat) (8 : Nat))) ST.nil ST.nil) (ST.node (SV.tup []) ST.nil ST.nil)) (ST.node (SV.c (SC.int false
    IntKind.i64 (smF e))) (ST.node (SV.tup []) ST.nil ST.nil) ST.nil)) (ST.node (SV.c (SC.ptr (0 : Nat) (1 : Nat))) (ST.node (SV.c (SC.int false IntKind.u64 d)) (ST.node (SV.agg [SC.int
    false IntKind.u64 b, SC.int false IntKind.i64 (smF c), SC.int false IntKind.u64 d, SC.int false IntKind.i64 (smF e), SC.int false IntKind.i64 (smF f), SC.int false IntKind.u64 g,
    SC.int false IntKind.i64 (smF h)]) ST.nil ST.nil) ST.nil) (ST.node (SV.c (SC.int false IntKind.i64 (smF f))) (ST.node (SV.tup []) ST.nil ST.nil) ST.nil)))) (ST.node (SV.c (SC.int
    true IntKind.u64 (0 : Int))) (ST.node (SV.c (SC.boo true false)) (ST.node (SV.c (SC.sli (0 : Nat) (1 : Nat) true (0 : Nat) true (8 : Nat) (8 : Nat))) (ST.node (SV.c (SC.ptr (0 :
    Nat) (2 : Nat))) (ST.node (SV.c (SC.int false IntKind.u64 g)) ST.nil ST.nil) (ST.node (SV.tup []) ST.nil ST.nil)) (ST.node (SV.c (SC.int false IntKind.u64 e)) (ST.node (SV.tup [])
    ST.nil ST.nil) ST.nil)) (ST.node (SV.c (SC.sli (0 : Nat) (1 : Nat) true (0 : Nat) true (8 : Nat) (8 : Nat))) (ST.node (SV.c (SC.ptr (0 : Nat) (3 : Nat))) (ST.node (SV.c (SC.int
    false IntKind.i64 (smF h))) ST.nil ST.nil) (ST.node (SV.tup []) ST.nil ST.nil)) (ST.node (SV.c (SC.int false IntKind.u64 f)) (ST.node (SV.tup []) ST.nil ST.nil) ST.nil))) (ST.node
    (SV.tup []) (ST.node (SV.c (SC.boo true false)) (ST.node (SV.c (SC.int false IntKind.i64 (smF c))) (ST.node (SV.c (SC.ptr (0 : Nat) (7 : Nat))) ST.nil ST.nil) (ST.node (SV.tup [])
    ST.nil ST.nil)) (ST.node (SV.c (SC.sli (0 : Nat) (1 : Nat) true (0 : Nat) true (8 : Nat) (8 : Nat))) (ST.node (SV.tup []) ST.nil ST.nil) ST.nil)) (ST.node (SV.c (SC.int false
    IntKind.u64 b)) (ST.node (SV.c (SC.sli (0 : Nat) (1 : Nat) true (0 : Nat) true (8 : Nat) (8 : Nat))) (ST.node (SV.tup []) ST.nil ST.nil) ST.nil) (ST.node (SV.c (SC.sli (0 : Nat) (1
    : Nat) true (0 : Nat) true (8 : Nat) (8 : Nat))) (ST.node (SV.tup []) ST.nil ST.nil) ST.nil))))) []) (Mem.mk [((0 : Nat), SO.cells [SC.int false IntKind.u64 a, SC.int false
    IntKind.u64 b, SC.int false IntKind.u64 c, SC.int false IntKind.u64 d, SC.int false IntKind.u64 e, SC.int false IntKind.u64 f, SC.int false IntKind.u64 g, SC.int false IntKind.u64
    h] (OfNat.ofNat (25 : Nat))), ((101 : Nat), SO.cells [SC.int true IntKind.u64 (0 : Int), SC.int true IntKind.i64 (0 : Int), SC.int true IntKind.u64 (0 : Int), SC.int true
    IntKind.i64 (0 : Int), SC.int true IntKind.i64 (0 : Int), SC.int true IntKind.u64 (0 : Int), SC.int true IntKind.i64 (0 : Int)] (49 : Nat)), ((132 : Nat), SO.cells [SC.int false
    IntKind.u64 b, SC.int false IntKind.i64 (smF c), SC.int false IntKind.u64 d, SC.int false IntKind.i64 (smF e), SC.int false IntKind.i64 (smF f), SC.int false IntKind.u64 g, SC.int
    false IntKind.i64 (smF h)] (49 : Nat))] (134 : Nat)) Scr.nil)) ∧ True) ∧ True → a = a ∧ b = b ∧ c = c ∧ d = d ∧ e = e ∧ f = f ∧ g = g ∧ h = h ∧ (((0 : Int) ≤ c ∧ c ≤
    (18446744073709551615 : Int)) ∧ (∀ (z : Un), True → a = a ∧ b = b ∧ c = c ∧ d = d ∧ e = e ∧ f = f ∧ g = g ∧ h = h ∧ (((0 : Int) ≤ e ∧ e ≤ (18446744073709551615 : Int)) ∧ (∀ (z :
    Un), True → a = a ∧ b = b ∧ c = c ∧ d = d ∧ e = e ∧ f = f ∧ g = g ∧ h = h ∧ (((0 : Int) ≤ f ∧ f ≤ (18446744073709551615 : Int)) ∧ (∀ (z : Un), True → a = a ∧ b = b ∧ c = c ∧ d = d ∧
    e = e ∧ f = f ∧ g = g ∧ h = h ∧ (((0 : Int) ≤ h ∧ h ≤ (18446744073709551615 : Int)) ∧ (∀ (z : Un), True → a = a ∧ b = b ∧ c = c ∧ d = d ∧ e = e ∧ f = f ∧ g = g ∧ h = h ∧ X0 ∧ True)
    ∧ True) ∧ True) ∧ True) ∧ True) ∧ True) ∧ True) ∧ True) ∧ True) (K (SF.mk (53 : Nat) (ST.node (SV.c (SC.sli (0 : Nat) (1 : Nat) true (0 : Nat) true (8 : Nat) (8 : Nat))) (ST.node
    (SV.tup []) (ST.node (SV.c (SC.ptr (101 : Nat) (0 : Nat))) (ST.node (SV.tup []) (ST.node (SV.c (SC.sli (0 : Nat) (1 : Nat) true (0 : Nat) true (8 : Nat) (8 : Nat))) (ST.node (SV.c
    (SC.ptr (0 : Nat) (6 : Nat))) ST.nil ST.nil) (ST.node (SV.tup []) ST.nil ST.nil)) (ST.node (SV.c (SC.ptr (0 : Nat) (4 : Nat))) (ST.node (SV.tup []) ST.nil ST.nil) ST.nil)) (ST.node
    (SV.tup []) (ST.node (SV.c (SC.sli (0 : Nat) (1 : Nat) true (0 : Nat) true (8 : Nat) (8 : Nat))) (ST.node (SV.c (SC.int false IntKind.u64 h)) ST.nil ST.nil) (ST.node (SV.tup [])
    ST.nil ST.nil)) (ST.node (SV.c (SC.ptr (0 : Nat) (5 : Nat))) (ST.node (SV.tup []) ST.nil ST.nil) ST.nil))) (ST.node (SV.c (SC.ptr (132 : Nat) (0 : Nat))) (ST.node (SV.c (SC.int true
    IntKind.i64 (8 : Int) Bd.any)) (ST.node (SV.c (SC.int false IntKind.u64 c)) (ST.node (SV.c (SC.sli (0 : Nat) (1 : Nat) true (0 : Nat) true (8 : Nat) (8 : Nat))) ST.nil ST.nil)
    (ST.node (SV.tup []) ST.nil ST.nil)) (ST.node (SV.c (SC.int false IntKind.i64 (smF e))) (ST.node (SV.tup []) ST.nil ST.nil) ST.nil)) (ST.node (SV.c (SC.ptr (0 : Nat) (1 : Nat)))
    (ST.node (SV.c (SC.int false IntKind.u64 d)) (ST.node (SV.agg [SC.int false IntKind.u64 b, SC.int false IntKind.i64 (smF c), SC.int false IntKind.u64 d, SC.int false IntKind.i64
    (smF e), SC.int false IntKind.i64 (smF f), SC.int false IntKind.u64 g, SC.int false IntKind.i64 (smF h)]) ST.nil ST.nil) ST.nil) (ST.node (SV.c (SC.int false IntKind.i64 (smF f)))
    (ST.node (SV.tup []) ST.nil ST.nil) ST.nil)))) (ST.node (SV.c (SC.int true IntKind.u64 (0 : Int))) (ST.node (SV.c (SC.boo true false)) (ST.node (SV.c (SC.sli (0 : Nat) (1 : Nat)
    true (0 : Nat) true (8 : Nat) (8 : Nat))) (ST.node (SV.c (SC.ptr (0 : Nat) (2 : Nat))) (ST.node (SV.c (SC.int false IntKind.u64 g)) ST.nil ST.nil) (ST.node (SV.tup []) ST.nil
    ST.nil)) (ST.node (SV.c (SC.int false IntKind.u64 e)) (ST.node (SV.tup []) ST.nil ST.nil) ST.nil)) (ST.node (SV.c (SC.sli (0 : Nat) (1 : Nat) true (0 : Nat) true (8 : Nat) (8 :
    Nat))) (ST.node (SV.c (SC.ptr (0 : Nat) (3 : Nat))) (ST.node (SV.c (SC.int false IntKind.i64 (smF h))) ST.nil ST.nil) (ST.node (SV.tup []) ST.nil ST.nil)) (ST.node (SV.c (SC.int
    false IntKind.u64 f)) (ST.node (SV.tup []) ST.nil ST.nil) ST.nil))) (ST.node (SV.tup []) (ST.node (SV.c (SC.boo true false)) (ST.node (SV.c (SC.int false IntKind.i64 (smF c)))
    (ST.node (SV.c (SC.ptr (0 : Nat) (7 : Nat))) ST.nil ST.nil) (ST.node (SV.tup []) ST.nil ST.nil)) (ST.node (SV.c (SC.sli (0 : Nat) (1 : Nat) true (0 : Nat) true (8 : Nat) (8 : Nat)))
    (ST.node (SV.tup []) ST.nil ST.nil) ST.nil)) (ST.node (SV.c (SC.int false IntKind.u64 b)) (ST.node (SV.c (SC.sli (0 : Nat) (1 : Nat) true (0 : Nat) true (8 : Nat) (8 : Nat)))
    (ST.node (SV.tup []) ST.nil ST.nil) ST.nil) (ST.node (SV.c (SC.sli (0 : Nat) (1 : Nat) true (0 : Nat) true (8 : Nat) (8 : Nat))) (ST.node (SV.tup []) ST.nil ST.nil) ST.nil))))) [])
    (Mem.mk [((0 : Nat), SO.cells [SC.int false IntKind.u64 a, SC.int false IntKind.u64 b, SC.int false IntKind.u64 c, SC.int false IntKind.u64 d, SC.int false IntKind.u64 e, SC.int
    false IntKind.u64 f, SC.int false IntKind.u64 g, SC.int false IntKind.u64 h] (OfNat.ofNat (25 : Nat))), ((101 : Nat), SO.cells [SC.int true IntKind.u64 (0 : Int), SC.int true
    IntKind.i64 (0 : Int), SC.int true IntKind.u64 (0 : Int), SC.int true IntKind.i64 (0 : Int), SC.int true IntKind.i64 (0 : Int), SC.int true IntKind.u64 (0 : Int), SC.int true
    IntKind.i64 (0 : Int)] (49 : Nat)), ((132 : Nat), SO.cells [SC.int false IntKind.u64 b, SC.int false IntKind.i64 (smF c), SC.int false IntKind.u64 d, SC.int false IntKind.i64 (smF
    e), SC.int false IntKind.i64 (smF f), SC.int false IntKind.u64 g, SC.int false IntKind.i64 (smF h)] (49 : Nat))] (134 : Nat)) Scr.nil)) ∧ True) := by
  kernel_rfl
theorem read8_run (a b c d e f g h : Int) (hc : (0 ≤ a ∧ a ≤ 18446744073709551615) ∧ (0 ≤ b ∧ b ≤ 18446744073709551615) ∧ (0 ≤ c ∧ c ≤ 18446744073709551615) ∧ (0 ≤ d ∧ d ≤ 18446744073709551615) ∧ (0 ≤ e ∧ e ≤ 18446744073709551615) ∧ (0 ≤ f ∧ f ≤ 18446744073709551615) ∧ (0 ≤ g ∧ g ≤ 18446744073709551615) ∧ (0 ≤ h ∧ h ≤ 18446744073709551615)) : Run (callN Try.prog (tblK : List (Smry Try.prog XE)) (fun _ _ => false) 100 20 128 [.c (.sli 0 1 true 0 true 8 8)] ⟨[(0, .cells (row8w a b c d e f g h) 25)], 100⟩ (.nil) (fun v m _ => outM (rdRes a b c d e f g h) [(0, .cells (row8w a b c d e f g h) 25)] v m)) := by
  constructor
  rw [read8_vc]
  obtain ⟨h0, h1, h2, h3, h4, h5, h6, h7⟩ := hc

  repeat' first
    | with_reducible apply And.intro
    | with_reducible exact trivial
    | with_reducible assumption
    | with_reducible exact Eq.refl _
    | (intro (K : KO XE); simp only [eq_self, true_and, and_true, forall_const, true_implies, and_imp]; intros; (repeat' first | with_reducible apply And.intro | with_reducible assumption); done)
    | intro hh
  all_goals first
    | omega
    | (unfold rdB8; first | assumption | exact if_pos (by assumption) | exact if_neg (by rw [‹headB _ _ _ _ _ _ _ _ = false›]; exact Bool.false_ne_true))
    | skip
def in64 (x : Int) : Bool := leI 0 x && leI x 18446744073709551615
theorem in64_ok {x : Int} (h : in64 x = true) : 0 ≤ x ∧ x ≤ 18446744073709551615 := by
  unfold in64 at h
  simp only [Bool.and_eq_true] at h
  exact ⟨leI_le h.1, leI_le h.2⟩
/-- A head whose words are known, read. -/
def read8K : Smry Try.prog XE where
  g := 128
  run := fun args m K => match args with
    | [.c (.sli s 1 _ 0 _ 8 8)] => match m.hp.get s with
      | some (.cells [.int _ .u64 a _, .int _ .u64 b _, .int _ .u64 c _, .int _ .u64 d _, .int _ .u64 e _, .int _ .u64 f _, .int _ .u64 g _, .int _ .u64 h _] T) => bif Nat.beq T 25 && (in64 a && (in64 b && (in64 c && (in64 d && (in64 e && (in64 f && (in64 g && in64 h))))))) then knV (fun v => K v m) (rdRes a b c d e f g h) else Stuck 870
      | _ => Stuck 871
    | _ => Stuck 872
  ok := fun args m K hr => by
    split at hr <;> try exact hr.elim
    rename_i s lo ll
    split at hr <;> try exact hr.elim
    rename_i l0 a b0 l1 b b1 l2 c b2 l3 d b3 l4 e b4 l5 f b5 l6 g b6 l7 h b7 T hS
    cases hb : Nat.beq T 25 && (in64 a && (in64 b && (in64 c && (in64 d && (in64 e && (in64 f && (in64 g && in64 h))))))) <;> rw [hb] at hr
    · exact hr.elim
    simp only [cond_true] at hr
    simp only [Bool.and_eq_true] at hb
    obtain ⟨hT, ha, hb', hc, hd, he, hf, hg, hh⟩ := hb
    have hT := Nat.eq_of_beq_eq_true hT
    subst hT
    obtain ⟨u, hu, eu⟩ := knV_of hr
    intro ν w R w0 Hs HK
    rw [SH.den_get ν hS, Assn.mul_assoc] at Hs
    have H1 : Sat w ((⟨[(0, .cells (row8w a b c d e f g h) 25)], 100⟩ : Mem XE).hp.den (fun _ => ν s) * ((m.hp.del s).den ν * R)) := by
      refine Hs.cast ?_
      simp only [SH.den]
      rw [Assn.mul_comm _ (1 : Assn), Assn.one_mul]
      rfl
    have hrun := callN_ok namesOk mixed _ _ _ _ _ _ _ _ _ (read8_run a b c d e f g h ⟨in64_ok ha, in64_ok hb', in64_ok hc, in64_ok hd, in64_ok he, in64_ok hf, in64_ok hg, in64_ok hh⟩).out (fun _ => ν s) w _ w0 H1 HK
    refine Calls.mono (hrun : Calls Try.prog 128 (List.map (SV.den ν) [.c (.sli s 1 lo 0 ll 8 8)]).toArray w _) ?_
    rintro e' w' ⟨r, m', s', ξ, hv, ag, _, he', hs, hk⟩
    obtain ⟨κ, ag2, hd2, hs2⟩ := outM_sound hv hs
    refine ⟨u, m, ν, hu, Agree.refl _ _, Nat.le_refl _, by rw [he', hd2, eu]; rfl, ?_, hk⟩
    rw [SH.den_get ν hS, Assn.mul_assoc]
    simp only [SH.den] at hs2
    rw [Assn.mul_comm _ (1 : Assn), Assn.one_mul, ag2 0 (by decide), ag 0 (show 0 < 100 by decide)] at hs2
    exact hs2
end Go.Proofs.Ytnfpkadepomjjaa

/- The statements of layer 9: first answers true, by the executor. -/
namespace Go.Proofs.Ytnfpkadepomjjaa
open Go
set_option maxRecDepth 1000000
set_option maxHeartbeats 0
def tblHF : List (Smry Try.prog XE) := [newX, layX true, hlistN, hhandlesN, read8K, hsmallS.known, rgtS.known, drgtS.known]
/-- What the executor leaves to be shown, written out. -/
theorem first09_vc  : (callN Try.prog tblHF (fun _ _ => false) 100 20 55 [] ⟨[], 0⟩ .nil (fun v _ _ => retTrue v)) = (
    True ∧ (∀ (z : Un), True → ((0 : Int) ≤ (65537 : Int) ∧ (65537 : Int) ≤ (18446744073709551615 : Int)) ∧ (∀ (z : Un), True → (((0 : Int) ≤ (3 : Int) ∧ (3 : Int) ≤
    (18446744073709551615 : Int)) ∧ (∀ (z : Un), True → (((((0 : Int) ≤ (255 : Int) ∧ (255 : Int) ≤ (18446744073709551615 : Int)) ∧ (∀ (z : Un), True → ((((0 : Int) ≤ (9 : Int) ∧ (9 :
    Int) ≤ (60000 : Int)) ∧ (3 : Nat) = (3 : Nat) ∧ (3 : Nat) = (3 : Nat) ∧ ((1 : Nat) ≤ (3 : Nat) ∧ (3 : Nat) ≤ (2048 : Nat)) ∧ (3 : Nat) ≤ (9 : Nat) ∧ ([] : List Nat) = [] ∧ (0 : Nat)
    < (268435455 : Nat) ∧ True ∧ ∀ (v : Value), (3 : Nat) = (3 : Nat) ∧ (3 : Nat) = (3 : Nat) ∧ ((1 : Nat) ≤ (3 : Nat) ∧ (3 : Nat) ≤ (2048 : Nat)) ∧ (3 : Nat) + (3 : Nat) ≤ (9 : Nat) ∧
    ([] : List Nat) = [] ∧ (1 : Nat) < (268435455 : Nat) ∧ True ∧ ∀ (v : Value) (cap : Nat), (2 : Nat) ≤ cap → ∀ (cap_1 : Nat), (2 : Nat) ≤ cap_1 → (cap = cap ∧ cap_1 = cap_1 ∧ (cap =
    cap ∧ cap_1 = cap_1 ∧ true = true) ∧ True) ∧ True) ∧ True) ∧ True) ∧ True) ∧ (∀ (K : KO XE), ((0 : Int) ≤ (255 : Int) ∧ (255 : Int) ≤ (18446744073709551615 : Int)) ∧ (∀ (z : Un),
    True → (K (SF.mk (31 : Nat) (ST.node (SV.c (SC.sli (415 : Nat) (1 : Nat) true (0 : Nat) true (3 : Nat) (3 : Nat))) (ST.node (SV.tup []) (ST.node (SV.c (SC.boo true false)) (ST.node
    (SV.c (SC.sli (415 : Nat) (1 : Nat) true (0 : Nat) true (3 : Nat) (3 : Nat))) (ST.node (SV.c (SC.sli (415 : Nat) (1 : Nat) true (0 : Nat) true (3 : Nat) (3 : Nat))) ST.nil ST.nil)
    (ST.node (SV.tup []) ST.nil ST.nil)) (ST.node (SV.c (SC.sli (415 : Nat) (1 : Nat) true (0 : Nat) true (3 : Nat) (3 : Nat))) (ST.node (SV.c (SC.ptr (415 : Nat) (2 : Nat))) ST.nil
    ST.nil) (ST.node (SV.tup []) ST.nil ST.nil))) (ST.node (SV.tup []) (ST.node (SV.c (SC.boo true false)) (ST.node (SV.c (SC.int true IntKind.u64 (0 : Int))) ST.nil ST.nil) (ST.node
    (SV.tup []) ST.nil ST.nil)) (ST.node (SV.c (SC.int true IntKind.u64 (255 : Int))) (ST.node (SV.agg [SC.int true IntKind.i64 (255 : Int) Bd.any, SC.int true IntKind.u64 (0 : Int),
    SC.int true IntKind.u64 (0 : Int)]) ST.nil ST.nil) (ST.node (SV.tup []) ST.nil ST.nil)))) (ST.node (SV.c (SC.ptr (423 : Nat) (0 : Nat))) (ST.node (SV.c (SC.ptr (439 : Nat) (0 :
    Nat))) (ST.node (SV.c (SC.int true IntKind.i64 (3 : Int) Bd.any)) (ST.node (SV.c (SC.ptr (415 : Nat) (1 : Nat))) ST.nil ST.nil) (ST.node (SV.tup []) ST.nil ST.nil)) (ST.node (SV.c
    (SC.ptr (415 : Nat) (0 : Nat))) (ST.node (SV.c (SC.int true IntKind.u64 (0 : Int))) ST.nil ST.nil) (ST.node (SV.tup []) ST.nil ST.nil))) (ST.node (SV.tup []) (ST.node (SV.tup [])
    (ST.node (SV.c (SC.sli (415 : Nat) (1 : Nat) true (0 : Nat) true (3 : Nat) (3 : Nat))) ST.nil ST.nil) (ST.node (SV.tup []) ST.nil ST.nil)) (ST.node (SV.c (SC.int true IntKind.i64
    (255 : Int) Bd.any)) (ST.node (SV.tup []) ST.nil ST.nil) (ST.node (SV.tup []) ST.nil ST.nil))))) []) (Mem.mk [((8 : Nat), SO.cells [SC.int true IntKind.u64 (0 : Int), SC.int true
    IntKind.i64 (0 : Int), SC.int true IntKind.u64 (0 : Int), SC.int true IntKind.i64 (0 : Int), SC.int true IntKind.i64 (0 : Int), SC.int true IntKind.u64 (0 : Int), SC.int true
    IntKind.i64 (0 : Int)] (49 : Nat)), ((22 : Nat), SO.cells [SC.int true IntKind.u64 (0 : Int), SC.int true IntKind.u64 (0 : Int), SC.int true IntKind.u64 (0 : Int), SC.int true
    IntKind.u64 (0 : Int)] (25 : Nat)), ((103 : Nat), SO.cells [SC.int true IntKind.u64 (0 : Int), SC.int true IntKind.u64 (0 : Int), SC.int true IntKind.u64 (0 : Int) Bd.any, SC.int
    true IntKind.u64 (0 : Int), SC.int true IntKind.u64 (0 : Int) Bd.any, SC.int true IntKind.u64 (0 : Int) Bd.any, SC.int true IntKind.u64 (0 : Int), SC.int true IntKind.u64 (0 : Int)
    Bd.any] (25 : Nat)), ((106 : Nat), SO.cells [SC.int true IntKind.u64 (65537 : Int), SC.int true IntKind.u64 (0 : Int), SC.int true IntKind.u64 (0 : Int), SC.int true IntKind.u64
    (131074 : Int), SC.int true IntKind.u64 (255 : Int), SC.int true IntKind.u64 (1 : Int), SC.int true IntKind.u64 (0 : Int), SC.int true IntKind.u64 (0 : Int)] (25 : Nat)), ((112 :
    Nat), SO.cells [SC.int true IntKind.u64 (0 : Int) Bd.any, SC.int true IntKind.i64 (0 : Int) Bd.any, SC.int true IntKind.u64 (131074 : Int) Bd.any, SC.int true IntKind.i64 (255 :
    Int) Bd.any, SC.int true IntKind.i64 (1 : Int) Bd.any, SC.int true IntKind.u64 (0 : Int) Bd.any, SC.int true IntKind.i64 (0 : Int) Bd.any] (49 : Nat)), ((123 : Nat), SO.cells
    [SC.int true IntKind.i64 (254 : Int), SC.int true IntKind.u64 (30064771077 : Int), SC.int true IntKind.u64 (65537 : Int)] (119 : Nat)), ((133 : Nat), SO.cells [SC.int true
    IntKind.i64 (0 : Int) Bd.any, SC.int true IntKind.i64 (5 : Int) Bd.any] (57 : Nat)), ((147 : Nat), SO.cells [SC.int true IntKind.i64 (0 : Int) Bd.any, SC.int true IntKind.i64 (5 :
    Int) Bd.any] (57 : Nat)), ((159 : Nat), SO.cells [SC.int true IntKind.i64 (0 : Int) Bd.any, SC.int true IntKind.i64 (5 : Int) Bd.any] (57 : Nat)), ((164 : Nat), SO.cells [SC.int
    true IntKind.i64 (0 : Int) Bd.any, SC.int true IntKind.i64 (5 : Int) Bd.any] (57 : Nat)), ((221 : Nat), SO.cells [SC.int true IntKind.u64 (65537 : Int)] (25 : Nat)), ((251 : Nat),
    SO.cells [SC.int true IntKind.u64 (254 : Int) Bd.any, SC.int true IntKind.u64 (30064771077 : Int), SC.int true IntKind.u64 (65537 : Int)] (25 : Nat)), ((254 : Nat), SO.cells [SC.int
    true IntKind.u64 (3 : Int), SC.int true IntKind.u64 (4294967296 : Int), SC.int true IntKind.u64 (0 : Int)] (25 : Nat)), ((259 : Nat), SO.cells [SC.int true IntKind.i64 (3 : Int)
    Bd.any, SC.int true IntKind.u64 (4294967296 : Int), SC.int true IntKind.u64 (0 : Int)] (119 : Nat)), ((262 : Nat), SO.cells [SC.int true IntKind.i64 (3 : Int) Bd.any, SC.int true
    IntKind.u64 (4294967296 : Int), SC.int true IntKind.u64 (0 : Int)] (119 : Nat)), ((278 : Nat), SO.cells [SC.int true IntKind.i64 (3 : Int) Bd.any, SC.int true IntKind.u64
    (4294967296 : Int), SC.int true IntKind.u64 (0 : Int)] (119 : Nat)), ((287 : Nat), SO.cells [SC.int true IntKind.i64 (3 : Int) Bd.any, SC.int true IntKind.u64 (4294967296 : Int),
    SC.int true IntKind.u64 (0 : Int)] (119 : Nat)), ((297 : Nat), SO.cells [SC.int true IntKind.i64 (0 : Int) Bd.any, SC.int true IntKind.i64 (0 : Int) Bd.any] (57 : Nat)), ((311 :
    Nat), SO.cells [SC.int true IntKind.i64 (0 : Int) Bd.any, SC.int true IntKind.i64 (0 : Int) Bd.any] (57 : Nat)), ((323 : Nat), SO.cells [SC.int true IntKind.i64 (0 : Int) Bd.any,
    SC.int true IntKind.i64 (0 : Int) Bd.any] (57 : Nat)), ((328 : Nat), SO.cells [SC.int true IntKind.i64 (0 : Int) Bd.any, SC.int true IntKind.i64 (0 : Int) Bd.any] (57 : Nat)), ((377
    : Nat), SO.cells [SC.int true IntKind.u64 (0 : Int)] (25 : Nat)), ((407 : Nat), SO.cells [SC.int true IntKind.u64 (3 : Int) Bd.any, SC.int true IntKind.u64 (4294967296 : Int),
    SC.int true IntKind.u64 (0 : Int)] (25 : Nat)), ((415 : Nat), SO.cells [SC.int true IntKind.u64 (255 : Int), SC.int true IntKind.u64 (0 : Int), SC.int true IntKind.u64 (0 : Int)]
    (25 : Nat)), ((423 : Nat), SO.cells [SC.int true IntKind.i64 (0 : Int), SC.int true IntKind.u64 (0 : Int), SC.int true IntKind.u64 (0 : Int)] (119 : Nat)), ((439 : Nat), SO.cells
    [SC.int true IntKind.i64 (255 : Int) Bd.any, SC.int true IntKind.u64 (0 : Int), SC.int true IntKind.u64 (0 : Int)] (119 : Nat))] (441 : Nat)) Scr.nil ∧ True) ∧ True) ∧ True → (((0 :
    Int) ≤ (255 : Int) ∧ (255 : Int) ≤ (18446744073709551615 : Int)) ∧ (∀ (z : Un), True → K (SF.mk (31 : Nat) (ST.node (SV.c (SC.sli (415 : Nat) (1 : Nat) true (0 : Nat) true (3 : Nat)
    (3 : Nat))) (ST.node (SV.tup []) (ST.node (SV.c (SC.boo true false)) (ST.node (SV.c (SC.sli (415 : Nat) (1 : Nat) true (0 : Nat) true (3 : Nat) (3 : Nat))) (ST.node (SV.c (SC.sli
    (415 : Nat) (1 : Nat) true (0 : Nat) true (3 : Nat) (3 : Nat))) ST.nil ST.nil) (ST.node (SV.tup []) ST.nil ST.nil)) (ST.node (SV.c (SC.sli (415 : Nat) (1 : Nat) true (0 : Nat) true
    (3 : Nat) (3 : Nat))) (ST.node (SV.c (SC.ptr (415 : Nat) (2 : Nat))) ST.nil ST.nil) (ST.node (SV.tup []) ST.nil ST.nil))) (ST.node (SV.tup []) (ST.node (SV.c (SC.boo true false))
    (ST.node (SV.c (SC.int true IntKind.u64 (0 : Int))) ST.nil ST.nil) (ST.node (SV.tup []) ST.nil ST.nil)) (ST.node (SV.c (SC.int true IntKind.u64 (255 : Int))) (ST.node (SV.agg
    [SC.int true IntKind.i64 (255 : Int) Bd.any, SC.int true IntKind.u64 (0 : Int), SC.int true IntKind.u64 (0 : Int)]) ST.nil ST.nil) (ST.node (SV.tup []) ST.nil ST.nil)))) (ST.node
    (SV.c (SC.ptr (423 : Nat) (0 : Nat))) (ST.node (SV.c (SC.ptr (439 : Nat) (0 : Nat))) (ST.node (SV.c (SC.int true IntKind.i64 (3 : Int) Bd.any)) (ST.node (SV.c (SC.ptr (415 : Nat) (1
    : Nat))) ST.nil ST.nil) (ST.node (SV.tup []) ST.nil ST.nil)) (ST.node (SV.c (SC.ptr (415 : Nat) (0 : Nat))) (ST.node (SV.c (SC.int true IntKind.u64 (0 : Int))) ST.nil ST.nil)
    (ST.node (SV.tup []) ST.nil ST.nil))) (ST.node (SV.tup []) (ST.node (SV.tup []) (ST.node (SV.c (SC.sli (415 : Nat) (1 : Nat) true (0 : Nat) true (3 : Nat) (3 : Nat))) ST.nil ST.nil)
    (ST.node (SV.tup []) ST.nil ST.nil)) (ST.node (SV.c (SC.int true IntKind.i64 (255 : Int) Bd.any)) (ST.node (SV.tup []) ST.nil ST.nil) (ST.node (SV.tup []) ST.nil ST.nil))))) [])
    (Mem.mk [((8 : Nat), SO.cells [SC.int true IntKind.u64 (0 : Int), SC.int true IntKind.i64 (0 : Int), SC.int true IntKind.u64 (0 : Int), SC.int true IntKind.i64 (0 : Int), SC.int
    true IntKind.i64 (0 : Int), SC.int true IntKind.u64 (0 : Int), SC.int true IntKind.i64 (0 : Int)] (49 : Nat)), ((22 : Nat), SO.cells [SC.int true IntKind.u64 (0 : Int), SC.int true
    IntKind.u64 (0 : Int), SC.int true IntKind.u64 (0 : Int), SC.int true IntKind.u64 (0 : Int)] (25 : Nat)), ((103 : Nat), SO.cells [SC.int true IntKind.u64 (0 : Int), SC.int true
    IntKind.u64 (0 : Int), SC.int true IntKind.u64 (0 : Int) Bd.any, SC.int true IntKind.u64 (0 : Int), SC.int true IntKind.u64 (0 : Int) Bd.any, SC.int true IntKind.u64 (0 : Int)
    Bd.any, SC.int true IntKind.u64 (0 : Int), SC.int true IntKind.u64 (0 : Int) Bd.any] (25 : Nat)), ((106 : Nat), SO.cells [SC.int true IntKind.u64 (65537 : Int), SC.int true
    IntKind.u64 (0 : Int), SC.int true IntKind.u64 (0 : Int), SC.int true IntKind.u64 (131074 : Int), SC.int true IntKind.u64 (255 : Int), SC.int true IntKind.u64 (1 : Int), SC.int true
    IntKind.u64 (0 : Int), SC.int true IntKind.u64 (0 : Int)] (25 : Nat)), ((112 : Nat), SO.cells [SC.int true IntKind.u64 (0 : Int) Bd.any, SC.int true IntKind.i64 (0 : Int) Bd.any,
    SC.int true IntKind.u64 (131074 : Int) Bd.any, SC.int true IntKind.i64 (255 : Int) Bd.any, SC.int true IntKind.i64 (1 : Int) Bd.any, SC.int true IntKind.u64 (0 : Int) Bd.any, SC.int
    true IntKind.i64 (0 : Int) Bd.any] (49 : Nat)), ((123 : Nat), SO.cells [SC.int true IntKind.i64 (254 : Int), SC.int true IntKind.u64 (30064771077 : Int), SC.int true IntKind.u64
    (65537 : Int)] (119 : Nat)), ((133 : Nat), SO.cells [SC.int true IntKind.i64 (0 : Int) Bd.any, SC.int true IntKind.i64 (5 : Int) Bd.any] (57 : Nat)), ((147 : Nat), SO.cells [SC.int
    true IntKind.i64 (0 : Int) Bd.any, SC.int true IntKind.i64 (5 : Int) Bd.any] (57 : Nat)), ((159 : Nat), SO.cells [SC.int true IntKind.i64 (0 : Int) Bd.any, SC.int true IntKind.i64
    (5 : Int) Bd.any] (57 : Nat)), ((164 : Nat), SO.cells [SC.int true IntKind.i64 (0 : Int) Bd.any, SC.int true IntKind.i64 (5 : Int) Bd.any] (57 : Nat)), ((221 : Nat), SO.cells
    [SC.int true IntKind.u64 (65537 : Int)] (25 : Nat)), ((251 : Nat), SO.cells [SC.int true IntKind.u64 (254 : Int) Bd.any, SC.int true IntKind.u64 (30064771077 : Int), SC.int true
    IntKind.u64 (65537 : Int)] (25 : Nat)), ((254 : Nat), SO.cells [SC.int true IntKind.u64 (3 : Int), SC.int true IntKind.u64 (4294967296 : Int), SC.int true IntKind.u64 (0 : Int)] (25
    : Nat)), ((259 : Nat), SO.cells [SC.int true IntKind.i64 (3 : Int) Bd.any, SC.int true IntKind.u64 (4294967296 : Int), SC.int true IntKind.u64 (0 : Int)] (119 : Nat)), ((262 : Nat),
    SO.cells [SC.int true IntKind.i64 (3 : Int) Bd.any, SC.int true IntKind.u64 (4294967296 : Int), SC.int true IntKind.u64 (0 : Int)] (119 : Nat)), ((278 : Nat), SO.cells [SC.int true
    IntKind.i64 (3 : Int) Bd.any, SC.int true IntKind.u64 (4294967296 : Int), SC.int true IntKind.u64 (0 : Int)] (119 : Nat)), ((287 : Nat), SO.cells [SC.int true IntKind.i64 (3 : Int)
    Bd.any, SC.int true IntKind.u64 (4294967296 : Int), SC.int true IntKind.u64 (0 : Int)] (119 : Nat)), ((297 : Nat), SO.cells [SC.int true IntKind.i64 (0 : Int) Bd.any, SC.int true
    IntKind.i64 (0 : Int) Bd.any] (57 : Nat)), ((311 : Nat), SO.cells [SC.int true IntKind.i64 (0 : Int) Bd.any, SC.int true IntKind.i64 (0 : Int) Bd.any] (57 : Nat)), ((323 : Nat),
    SO.cells [SC.int true IntKind.i64 (0 : Int) Bd.any, SC.int true IntKind.i64 (0 : Int) Bd.any] (57 : Nat)), ((328 : Nat), SO.cells [SC.int true IntKind.i64 (0 : Int) Bd.any, SC.int
    true IntKind.i64 (0 : Int) Bd.any] (57 : Nat)), ((377 : Nat), SO.cells [SC.int true IntKind.u64 (0 : Int)] (25 : Nat)), ((407 : Nat), SO.cells [SC.int true IntKind.u64 (3 : Int)
    Bd.any, SC.int true IntKind.u64 (4294967296 : Int), SC.int true IntKind.u64 (0 : Int)] (25 : Nat)), ((415 : Nat), SO.cells [SC.int true IntKind.u64 (255 : Int), SC.int true
    IntKind.u64 (0 : Int), SC.int true IntKind.u64 (0 : Int)] (25 : Nat)), ((423 : Nat), SO.cells [SC.int true IntKind.i64 (0 : Int), SC.int true IntKind.u64 (0 : Int), SC.int true
    IntKind.u64 (0 : Int)] (119 : Nat)), ((439 : Nat), SO.cells [SC.int true IntKind.i64 (255 : Int) Bd.any, SC.int true IntKind.u64 (0 : Int), SC.int true IntKind.u64 (0 : Int)] (119 :
    Nat))] (441 : Nat)) Scr.nil ∧ True) ∧ True) ∧ True) ∧ True) ∧ True) ∧ True) ∧ True) ∧ (∀ (K : KO XE), ((0 : Int) ≤ (3 : Int) ∧ (3 : Int) ≤ (18446744073709551615 : Int)) ∧ (∀ (z :
    Un), True → (K (SF.mk (31 : Nat) (ST.node (SV.c (SC.sli (254 : Nat) (1 : Nat) true (0 : Nat) true (3 : Nat) (3 : Nat))) (ST.node (SV.tup []) (ST.node (SV.c (SC.boo true false))
    (ST.node (SV.c (SC.sli (254 : Nat) (1 : Nat) true (0 : Nat) true (3 : Nat) (3 : Nat))) (ST.node (SV.c (SC.sli (254 : Nat) (1 : Nat) true (0 : Nat) true (3 : Nat) (3 : Nat))) ST.nil
    ST.nil) (ST.node (SV.tup []) ST.nil ST.nil)) (ST.node (SV.c (SC.sli (254 : Nat) (1 : Nat) true (0 : Nat) true (3 : Nat) (3 : Nat))) (ST.node (SV.c (SC.ptr (254 : Nat) (2 : Nat)))
    ST.nil ST.nil) (ST.node (SV.tup []) ST.nil ST.nil))) (ST.node (SV.tup []) (ST.node (SV.c (SC.boo true false)) (ST.node (SV.c (SC.int true IntKind.u64 (4294967296 : Int))) ST.nil
    ST.nil) (ST.node (SV.tup []) ST.nil ST.nil)) (ST.node (SV.c (SC.int true IntKind.u64 (3 : Int))) (ST.node (SV.agg [SC.int true IntKind.i64 (3 : Int) Bd.any, SC.int true IntKind.u64
    (4294967296 : Int), SC.int true IntKind.u64 (0 : Int)]) ST.nil ST.nil) (ST.node (SV.tup []) ST.nil ST.nil)))) (ST.node (SV.c (SC.ptr (262 : Nat) (0 : Nat))) (ST.node (SV.c (SC.ptr
    (278 : Nat) (0 : Nat))) (ST.node (SV.c (SC.int true IntKind.i64 (3 : Int) Bd.any)) (ST.node (SV.c (SC.ptr (254 : Nat) (1 : Nat))) ST.nil ST.nil) (ST.node (SV.tup []) ST.nil ST.nil))
    (ST.node (SV.c (SC.ptr (254 : Nat) (0 : Nat))) (ST.node (SV.c (SC.int true IntKind.u64 (0 : Int))) ST.nil ST.nil) (ST.node (SV.tup []) ST.nil ST.nil))) (ST.node (SV.tup []) (ST.node
    (SV.tup []) (ST.node (SV.c (SC.sli (254 : Nat) (1 : Nat) true (0 : Nat) true (3 : Nat) (3 : Nat))) ST.nil ST.nil) (ST.node (SV.tup []) ST.nil ST.nil)) (ST.node (SV.c (SC.int true
    IntKind.i64 (3 : Int) Bd.any)) (ST.node (SV.tup []) ST.nil ST.nil) (ST.node (SV.tup []) ST.nil ST.nil))))) []) (Mem.mk [((8 : Nat), SO.cells [SC.int true IntKind.u64 (0 : Int),
    SC.int true IntKind.i64 (0 : Int), SC.int true IntKind.u64 (0 : Int), SC.int true IntKind.i64 (0 : Int), SC.int true IntKind.i64 (0 : Int), SC.int true IntKind.u64 (0 : Int), SC.int
    true IntKind.i64 (0 : Int)] (49 : Nat)), ((22 : Nat), SO.cells [SC.int true IntKind.u64 (0 : Int), SC.int true IntKind.u64 (0 : Int), SC.int true IntKind.u64 (0 : Int), SC.int true
    IntKind.u64 (0 : Int)] (25 : Nat)), ((103 : Nat), SO.cells [SC.int true IntKind.u64 (0 : Int), SC.int true IntKind.u64 (0 : Int), SC.int true IntKind.u64 (0 : Int) Bd.any, SC.int
    true IntKind.u64 (0 : Int), SC.int true IntKind.u64 (0 : Int) Bd.any, SC.int true IntKind.u64 (0 : Int) Bd.any, SC.int true IntKind.u64 (0 : Int), SC.int true IntKind.u64 (0 : Int)
    Bd.any] (25 : Nat)), ((106 : Nat), SO.cells [SC.int true IntKind.u64 (65537 : Int), SC.int true IntKind.u64 (0 : Int), SC.int true IntKind.u64 (0 : Int), SC.int true IntKind.u64
    (131074 : Int), SC.int true IntKind.u64 (255 : Int), SC.int true IntKind.u64 (1 : Int), SC.int true IntKind.u64 (0 : Int), SC.int true IntKind.u64 (0 : Int)] (25 : Nat)), ((112 :
    Nat), SO.cells [SC.int true IntKind.u64 (0 : Int) Bd.any, SC.int true IntKind.i64 (0 : Int) Bd.any, SC.int true IntKind.u64 (131074 : Int) Bd.any, SC.int true IntKind.i64 (255 :
    Int) Bd.any, SC.int true IntKind.i64 (1 : Int) Bd.any, SC.int true IntKind.u64 (0 : Int) Bd.any, SC.int true IntKind.i64 (0 : Int) Bd.any] (49 : Nat)), ((123 : Nat), SO.cells
    [SC.int true IntKind.i64 (254 : Int), SC.int true IntKind.u64 (30064771077 : Int), SC.int true IntKind.u64 (65537 : Int)] (119 : Nat)), ((133 : Nat), SO.cells [SC.int true
    IntKind.i64 (0 : Int) Bd.any, SC.int true IntKind.i64 (5 : Int) Bd.any] (57 : Nat)), ((147 : Nat), SO.cells [SC.int true IntKind.i64 (0 : Int) Bd.any, SC.int true IntKind.i64 (5 :
    Int) Bd.any] (57 : Nat)), ((159 : Nat), SO.cells [SC.int true IntKind.i64 (0 : Int) Bd.any, SC.int true IntKind.i64 (5 : Int) Bd.any] (57 : Nat)), ((164 : Nat), SO.cells [SC.int
    true IntKind.i64 (0 : Int) Bd.any, SC.int true IntKind.i64 (5 : Int) Bd.any] (57 : Nat)), ((221 : Nat), SO.cells [SC.int true IntKind.u64 (65537 : Int)] (25 : Nat)), ((251 : Nat),
    SO.cells [SC.int true IntKind.u64 (254 : Int) Bd.any, SC.int true IntKind.u64 (30064771077 : Int), SC.int true IntKind.u64 (65537 : Int)] (25 : Nat)), ((254 : Nat), SO.cells [SC.int
    true IntKind.u64 (3 : Int), SC.int true IntKind.u64 (4294967296 : Int), SC.int true IntKind.u64 (0 : Int)] (25 : Nat)), ((262 : Nat), SO.cells [SC.int true IntKind.i64 (0 : Int),
    SC.int true IntKind.u64 (0 : Int), SC.int true IntKind.u64 (0 : Int)] (119 : Nat)), ((278 : Nat), SO.cells [SC.int true IntKind.i64 (3 : Int) Bd.any, SC.int true IntKind.u64
    (4294967296 : Int), SC.int true IntKind.u64 (0 : Int)] (119 : Nat))] (280 : Nat)) Scr.nil ∧ True) ∧ True) ∧ True → (((0 : Int) ≤ (3 : Int) ∧ (3 : Int) ≤ (18446744073709551615 :
    Int)) ∧ (∀ (z : Un), True → K (SF.mk (31 : Nat) (ST.node (SV.c (SC.sli (254 : Nat) (1 : Nat) true (0 : Nat) true (3 : Nat) (3 : Nat))) (ST.node (SV.tup []) (ST.node (SV.c (SC.boo
    true false)) (ST.node (SV.c (SC.sli (254 : Nat) (1 : Nat) true (0 : Nat) true (3 : Nat) (3 : Nat))) (ST.node (SV.c (SC.sli (254 : Nat) (1 : Nat) true (0 : Nat) true (3 : Nat) (3 :
    Nat))) ST.nil ST.nil) (ST.node (SV.tup []) ST.nil ST.nil)) (ST.node (SV.c (SC.sli (254 : Nat) (1 : Nat) true (0 : Nat) true (3 : Nat) (3 : Nat))) (ST.node (SV.c (SC.ptr (254 : Nat)
    (2 : Nat))) ST.nil ST.nil) (ST.node (SV.tup []) ST.nil ST.nil))) (ST.node (SV.tup []) (ST.node (SV.c (SC.boo true false)) (ST.node (SV.c (SC.int true IntKind.u64 (4294967296 :
    Int))) ST.nil ST.nil) (ST.node (SV.tup []) ST.nil ST.nil)) (ST.node (SV.c (SC.int true IntKind.u64 (3 : Int))) (ST.node (SV.agg [SC.int true IntKind.i64 (3 : Int) Bd.any, SC.int
    true IntKind.u64 (4294967296 : Int), SC.int true IntKind.u64 (0 : Int)]) ST.nil ST.nil) (ST.node (SV.tup []) ST.nil ST.nil)))) (ST.node (SV.c (SC.ptr (262 : Nat) (0 : Nat)))
    (ST.node (SV.c (SC.ptr (278 : Nat) (0 : Nat))) (ST.node (SV.c (SC.int true IntKind.i64 (3 : Int) Bd.any)) (ST.node (SV.c (SC.ptr (254 : Nat) (1 : Nat))) ST.nil ST.nil) (ST.node
    (SV.tup []) ST.nil ST.nil)) (ST.node (SV.c (SC.ptr (254 : Nat) (0 : Nat))) (ST.node (SV.c (SC.int true IntKind.u64 (0 : Int))) ST.nil ST.nil) (ST.node (SV.tup []) ST.nil ST.nil)))
    (ST.node (SV.tup []) (ST.node (SV.tup []) (ST.node (SV.c (SC.sli (254 : Nat) (1 : Nat) true (0 : Nat) true (3 : Nat) (3 : Nat))) ST.nil ST.nil) (ST.node (SV.tup []) ST.nil ST.nil))
    (ST.node (SV.c (SC.int true IntKind.i64 (3 : Int) Bd.any)) (ST.node (SV.tup []) ST.nil ST.nil) (ST.node (SV.tup []) ST.nil ST.nil))))) []) (Mem.mk [((8 : Nat), SO.cells [SC.int true
    IntKind.u64 (0 : Int), SC.int true IntKind.i64 (0 : Int), SC.int true IntKind.u64 (0 : Int), SC.int true IntKind.i64 (0 : Int), SC.int true IntKind.i64 (0 : Int), SC.int true
    IntKind.u64 (0 : Int), SC.int true IntKind.i64 (0 : Int)] (49 : Nat)), ((22 : Nat), SO.cells [SC.int true IntKind.u64 (0 : Int), SC.int true IntKind.u64 (0 : Int), SC.int true
    IntKind.u64 (0 : Int), SC.int true IntKind.u64 (0 : Int)] (25 : Nat)), ((103 : Nat), SO.cells [SC.int true IntKind.u64 (0 : Int), SC.int true IntKind.u64 (0 : Int), SC.int true
    IntKind.u64 (0 : Int) Bd.any, SC.int true IntKind.u64 (0 : Int), SC.int true IntKind.u64 (0 : Int) Bd.any, SC.int true IntKind.u64 (0 : Int) Bd.any, SC.int true IntKind.u64 (0 :
    Int), SC.int true IntKind.u64 (0 : Int) Bd.any] (25 : Nat)), ((106 : Nat), SO.cells [SC.int true IntKind.u64 (65537 : Int), SC.int true IntKind.u64 (0 : Int), SC.int true
    IntKind.u64 (0 : Int), SC.int true IntKind.u64 (131074 : Int), SC.int true IntKind.u64 (255 : Int), SC.int true IntKind.u64 (1 : Int), SC.int true IntKind.u64 (0 : Int), SC.int true
    IntKind.u64 (0 : Int)] (25 : Nat)), ((112 : Nat), SO.cells [SC.int true IntKind.u64 (0 : Int) Bd.any, SC.int true IntKind.i64 (0 : Int) Bd.any, SC.int true IntKind.u64 (131074 :
    Int) Bd.any, SC.int true IntKind.i64 (255 : Int) Bd.any, SC.int true IntKind.i64 (1 : Int) Bd.any, SC.int true IntKind.u64 (0 : Int) Bd.any, SC.int true IntKind.i64 (0 : Int)
    Bd.any] (49 : Nat)), ((123 : Nat), SO.cells [SC.int true IntKind.i64 (254 : Int), SC.int true IntKind.u64 (30064771077 : Int), SC.int true IntKind.u64 (65537 : Int)] (119 : Nat)),
    ((133 : Nat), SO.cells [SC.int true IntKind.i64 (0 : Int) Bd.any, SC.int true IntKind.i64 (5 : Int) Bd.any] (57 : Nat)), ((147 : Nat), SO.cells [SC.int true IntKind.i64 (0 : Int)
    Bd.any, SC.int true IntKind.i64 (5 : Int) Bd.any] (57 : Nat)), ((159 : Nat), SO.cells [SC.int true IntKind.i64 (0 : Int) Bd.any, SC.int true IntKind.i64 (5 : Int) Bd.any] (57 :
    Nat)), ((164 : Nat), SO.cells [SC.int true IntKind.i64 (0 : Int) Bd.any, SC.int true IntKind.i64 (5 : Int) Bd.any] (57 : Nat)), ((221 : Nat), SO.cells [SC.int true IntKind.u64
    (65537 : Int)] (25 : Nat)), ((251 : Nat), SO.cells [SC.int true IntKind.u64 (254 : Int) Bd.any, SC.int true IntKind.u64 (30064771077 : Int), SC.int true IntKind.u64 (65537 : Int)]
    (25 : Nat)), ((254 : Nat), SO.cells [SC.int true IntKind.u64 (3 : Int), SC.int true IntKind.u64 (4294967296 : Int), SC.int true IntKind.u64 (0 : Int)] (25 : Nat)), ((262 : Nat),
    SO.cells [SC.int true IntKind.i64 (0 : Int), SC.int true IntKind.u64 (0 : Int), SC.int true IntKind.u64 (0 : Int)] (119 : Nat)), ((278 : Nat), SO.cells [SC.int true IntKind.i64 (3 :
    Int) Bd.any, SC.int true IntKind.u64 (4294967296 : Int), SC.int true IntKind.u64 (0 : Int)] (119 : Nat))] (280 : Nat)) Scr.nil ∧ True) ∧ True) ∧ True) ∧ True) ∧ True) ∧ True) := by
  kernel_rfl
theorem first09  : Run (callN Try.prog tblHF (fun _ _ => false) 100 20 55 [] ⟨[], 0⟩ .nil (fun v _ _ => retTrue v)) := by
  constructor
  rw [first09_vc]
  repeat' first
    | with_reducible apply And.intro
    | with_reducible exact trivial
    | with_reducible assumption
    | with_reducible exact Eq.refl _
    | (intro (K : KO XE); simp only [eq_self, true_and, and_true, forall_const, true_implies, and_imp]; intros; (repeat' first | with_reducible apply And.intro | with_reducible assumption); done)
    | intro _
  all_goals first
    | omega
    | exact of_decide_eq_true (by kernel_rfl)
    | kernel_rfl
end Go.Proofs.Ytnfpkadepomjjaa
