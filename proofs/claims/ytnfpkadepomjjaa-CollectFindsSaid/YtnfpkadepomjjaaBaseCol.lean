/- A collect: what it holds in memory, what a step does. No program in sight but in the shapes. -/
import Derived.Test.YtnfpkadepomjjaaBaseC
import Derived.Test.YtnfpkadepomjjaaBasePar
import Derived.Test.YtnfpkadepomjjaaSumDir
import Derived.Test.YtnfpkadepomjjaaWords
set_option linter.all false
namespace Go.Proofs.Ytnfpkadepomjjaa
open Go Go.RowKit

/-- What comes next (0: a look for a segment, 1: a node's count, else nothing); segment, node; the segments that were read; the places that were found. -/
structure Col where
  ph : Nat
  g : Nat
  node : Nat
  segs : Nat → Nat
  pl : List (Nat × Nat)
def plF (l : List (Nat × Nat)) (i : Nat) : List Value := [.int .u64 ((l.getD i (0, 0)).1 : Int), .int .i64 ((l.getD i (0, 0)).2 : Int)]
def colGear : Nat → SC
  | 0 => .fn (.func 98) [.ptr 0 0] []
  | 1 => .fn (.func 164) [.ptr 0 0] []
  | _ => .raw .nilFunc
def colPl (k cap : Nat) : List (Nat × Nat) → SC
  | [] => .nls
  | q :: l => .sli k 2 true 0 false (q :: l).length cap
def colMore (k cap : Nat) : List (Nat × Nat) → List (Nat × SO XE)
  | [] => []
  | q :: l => [(k, .vals 44 2 (q :: l).length cap (plF (q :: l)))]
def colHeap (x : Col) (cap : Nat) : SH XE :=
  (0, .cells [colGear x.ph, .ptr 1 0, .int false .i64 (x.g : Int), .int false .i64 (x.node : Int), .int false .u64 (x.segs 0 : Int), .int false .u64 (x.segs 1 : Int), .int false .u64 (x.segs 2 : Int), .int false .u64 (x.segs 3 : Int),
    .int false .u64 (x.segs 4 : Int), .int false .u64 (x.segs 5 : Int), .int false .u64 (x.segs 6 : Int), .int false .u64 (x.segs 7 : Int), colPl 10 cap x.pl] 168) :: colMore 10 cap x.pl
def colH : Hid XE := ⟨Col, Nat, colHeap⟩
/-- On to the next node. -/
def climb : Nat → Nat → Nat
  | 0, n => n
  | f + 1, n => if 1 < n ∧ n % 2 = 1 then climb f (n / 2) else n
def colOn (x : Col) : Col :=
  let m := climb x.node x.node
  if 1 < m then { x with node := m + 1 } else if x.g + 1 = 8 then { x with node := m, g := x.g + 1, ph := 2 } else { x with node := m, g := x.g + 1, ph := 0 }
def updS (s : Nat → Nat) (g h : Nat) : Nat → Nat := fun i => if i = g then h else s i
def colLook (x : Col) (A : Ar) : Col :=
  let h := A.rd 0 (x.g + 1 : Nat)
  if h = 0 then { x with segs := updS x.segs x.g h, ph := 2 } else { x with segs := updS x.segs x.g h, ph := 1, node := 1 }
def colCnt (x : Col) (A : Ar) : Col :=
  if A.rd (x.segs x.g : Nat) (5 * ((2 ^ x.g : Nat) : Int) + (x.node : Int)) = 0 then colOn x
  else if 2 ^ x.g ≤ x.node then colOn { x with pl := x.pl ++ [(x.segs x.g, x.node - 1)] }
  else { x with node := 2 * x.node }
def colStep (x : Col) (A : Ar) : Col := match x.ph with
  | 0 => colLook x A
  | 1 => colCnt x A
  | _ => x
def colRead (x : Col) (A : Ar) : Ar := match x.ph with
  | 0 => A.read
  | 1 => A.read
  | _ => A
/-- The shape that a collect in memory has. -/
def selCol (h : SH XE) : Nat := match h.get 0 with
  | some (.cells (f :: _ :: _ :: _ :: _ :: _ :: _ :: _ :: _ :: _ :: _ :: _ :: p :: _) _) =>
    (match f with
      | .fn (.func n) _ _ => bif Nat.beq n 98 then 0 else 2
      | _ => 4) + (match p with
      | .nls => 0
      | _ => 1)
  | _ => 9
def colAny (P : Col → Nat → Prop) : Nat → Prop
  | 0 => ∃ g node segs z, P ⟨0, g, node, segs, []⟩ z
  | 1 => ∃ g node segs q l z, P ⟨0, g, node, segs, q :: l⟩ z
  | 2 => ∃ g node segs z, P ⟨1, g, node, segs, []⟩ z
  | 3 => ∃ g node segs q l z, P ⟨1, g, node, segs, q :: l⟩ z
  | 4 => ∃ g node segs z, P ⟨2, g, node, segs, []⟩ z
  | 5 => ∃ g node segs q l z, P ⟨2, g, node, segs, q :: l⟩ z
  | _ => Stuck 801
theorem colAny_of {P : Col → Nat → Prop} {n : Nat} (h : colAny P n) : ∃ y z, P y z := by
  unfold colAny at h
  split at h
  · obtain ⟨g, node, segs, z, h⟩ := h; exact ⟨_, z, h⟩
  · obtain ⟨g, node, segs, q, l, z, h⟩ := h; exact ⟨_, z, h⟩
  · obtain ⟨g, node, segs, z, h⟩ := h; exact ⟨_, z, h⟩
  · obtain ⟨g, node, segs, q, l, z, h⟩ := h; exact ⟨_, z, h⟩
  · obtain ⟨g, node, segs, z, h⟩ := h; exact ⟨_, z, h⟩
  · obtain ⟨g, node, segs, q, l, z, h⟩ := h; exact ⟨_, z, h⟩
  · exact h.elim
def colPost (x : Col) (A : Ar) (v : SV) (m : MX) : Prop := colAny (fun y z => Is y x ∧ outM (.tup []) (colHeap y z ++ [(1, arO A)]) v m) (selCol m.hp)
theorem colPost_of {x : Col} {A : Ar} {v : SV} {m : MX} (h : colPost x A v m) : ∃ z : Nat, outM (.tup []) (colHeap x z ++ [(1, arO A)]) v m := by
  obtain ⟨y, z, e, h⟩ := colAny_of h
  cases e
  exact ⟨z, h⟩
theorem updS_cast (s : Nat → Nat) (g h i : Nat) : (updS s g h i : Int) = if (g : Int).toNat = i then (h : Int) else (s i : Int) := by
  unfold updS
  rw [Int.toNat_natCast]
  by_cases e : i = g
  · subst e; simp
  · rw [if_neg e, if_neg (fun e' => e e'.symm)]
theorem colLook_end {x : Col} {A : Ar} (h : ((A.rd 0 (x.g + 1 : Nat) : Int) == 0) = true) : Is (Col.mk 2 x.g x.node (updS x.segs x.g (A.rd 0 (x.g + 1 : Nat))) x.pl) (colLook x A) := by
  have h : A.rd 0 (x.g + 1 : Nat) = 0 := by have := eq_of_beq h; omega
  unfold Is colLook
  simp only [h, if_true]
theorem colLook_on {x : Col} {A : Ar} (h : ((A.rd 0 (x.g + 1 : Nat) : Int) == 0) = false) : Is (Col.mk 1 x.g 1 (updS x.segs x.g (A.rd 0 (x.g + 1 : Nat))) x.pl) (colLook x A) := by
  have h : ¬ A.rd 0 (x.g + 1 : Nat) = 0 := by have := beq_eq_false_iff_ne.1 h; omega
  unfold Is colLook
  simp only [h, if_false]
theorem climb_fuel : ∀ (f f' n : Nat), n ≤ f → n ≤ f' → climb f n = climb f' n
  | 0, 0, n, _, _ => rfl
  | 0, f' + 1, n, h, _ => by
    obtain rfl : n = 0 := by omega
    simp [climb]
  | f + 1, 0, n, _, h => by
    obtain rfl : n = 0 := by omega
    simp [climb]
  | f + 1, f' + 1, n, h, h' => by
    simp only [climb]
    split
    · exact climb_fuel f f' (n / 2) (by omega) (by omega)
    · rfl
theorem climb_step {n : Nat} (h : 1 < n) (h2 : n % 2 = 1) : climb n n = climb (n / 2) (n / 2) := by
  obtain ⟨m, rfl⟩ : ∃ m, n = m + 1 := ⟨n - 1, by omega⟩
  rw [climb, if_pos ⟨h, h2⟩]
  exact climb_fuel _ _ _ (by omega) (Nat.le_refl _)
theorem climb_stop {n : Nat} (h : ¬ (1 < n ∧ n % 2 = 1)) : climb n n = n := by
  cases n with
  | zero => rfl
  | succ m => rw [climb, if_neg h]
theorem segs_getD (s : Nat → Nat) {g : Nat} (h : g < 8) : ([(s 0 : Int), (s 1 : Int), (s 2 : Int), (s 3 : Int), (s 4 : Int), (s 5 : Int), (s 6 : Int), (s 7 : Int)].getD g 0) = (s g : Int) := by
  match g, h with
  | 0, _ => rfl
  | 1, _ => rfl
  | 2, _ => rfl
  | 3, _ => rfl
  | 4, _ => rfl
  | 5, _ => rfl
  | 6, _ => rfl
  | 7, _ => rfl
/-- The way up, under way: the node that is come to. -/
abbrev OnY (node : Nat) : Type := { y : Nat × Nat // climb y.1 y.1 = climb node node ∧ y.1 ≤ node }
def onHead (g : Nat) (segs : Nat → Nat) (pl : List (Nat × Nat)) (node : Nat) (n : Nat) (y : OnY node) : List (Nat × SV) × List (Nat × SO XE) :=
  ([], (0, .cells [colGear 1, .ptr 1 0, .int false .i64 (g : Int), .int false .i64 (y.1.1 : Int), .int false .u64 (segs 0 : Int), .int false .u64 (segs 1 : Int), .int false .u64 (segs 2 : Int), .int false .u64 (segs 3 : Int),
    .int false .u64 (segs 4 : Int), .int false .u64 (segs 5 : Int), .int false .u64 (segs 6 : Int), .int false .u64 (segs 7 : Int), colPl n y.1.2 pl] 168) :: colMore n y.1.2 pl)
def live0 (l : List Nat) (t : Nat) : Bool := !(l.any fun k => Nat.beq k t)
def bothS : Nat → Scr XE
  | 0 => .nil
  | n + 1 => .both (bothS n) (bothS n)
def onScr (g : Nat) (segs : Nat → Nat) (pl : List (Nat × Nat)) (node : Nat) : Scr XE := .inv (live0 [0]) (0 :: (List.range 400).map (· + 10)) (OnY node) (onHead g segs pl node) (fun y => y.1.1) fun _ => bothS 8
theorem inC_nat {g n : Nat} (hg : g < 8) (h1 : 1 ≤ n) (h2 : n < 2 * 2 ^ g) : inC (g : Int) (n : Int) = true := by
  unfold inC inG
  rw [Int.toNat_natCast]
  simp only [Bool.and_eq_true, decide_eq_true_eq]
  refine ⟨⟨by omega, by omega⟩, by omega, ?_⟩
  omega
theorem node_bd {g n : Nat} (hg : g < 8) (h : n < 2 * 2 ^ g) : n ≤ 255 := by
  have : 2 ^ g ≤ 2 ^ 7 := Nat.pow_le_pow_right (by omega) (by omega)
  omega
theorem cnt_up {x : Col} {A : Ar} (h : ((A.rd (x.segs x.g : Nat) (5 * ((2 ^ x.g : Nat) : Int) + (x.node : Int)) : Int) == 0) = true) : colCnt x A = colOn x := by
  have h : A.rd (x.segs x.g : Nat) (5 * ((2 ^ x.g : Nat) : Int) + (x.node : Int)) = 0 := by have := eq_of_beq h; omega
  unfold colCnt
  rw [if_pos h]
theorem inL_of {g n : Nat} (hg : g < 8) (h2 : n < 2 * 2 ^ g) : inL (g : Int) (n : Int) = decide (2 ^ g ≤ n) := by
  unfold inL inG
  rw [Int.toNat_natCast]
  by_cases h : 2 ^ g ≤ n
  · simp only [h, decide_true]
    simp only [Bool.and_eq_true, decide_eq_true_eq]
    exact ⟨⟨by omega, by omega⟩, by omega, by omega⟩
  · simp only [h, decide_false]
    simp only [Bool.and_eq_false_iff, decide_eq_false_iff_not]
    exact .inr (.inl (by omega))
theorem cnt_leaf {x : Col} {A : Ar} (hg : x.g < 8) (hn : x.node < 2 * 2 ^ x.g) (h : ((A.rd (x.segs x.g : Nat) (5 * ((2 ^ x.g : Nat) : Int) + (x.node : Int)) : Int) == 0) = false) (hl : inL (x.g : Int) (x.node : Int) = true) :
    colCnt x A = colOn { x with pl := x.pl ++ [(x.segs x.g, x.node - 1)] } := by
  have h : ¬ A.rd (x.segs x.g : Nat) (5 * ((2 ^ x.g : Nat) : Int) + (x.node : Int)) = 0 := by have := beq_eq_false_iff_ne.1 h; omega
  rw [inL_of hg hn] at hl
  unfold colCnt
  rw [if_neg h, if_pos (of_decide_eq_true hl)]
theorem cnt_down {x : Col} {A : Ar} (hg : x.g < 8) (hn : x.node < 2 * 2 ^ x.g) (h : ((A.rd (x.segs x.g : Nat) (5 * ((2 ^ x.g : Nat) : Int) + (x.node : Int)) : Int) == 0) = false) (hl : inL (x.g : Int) (x.node : Int) = false) :
    Is { x with node := 2 * x.node } (colCnt x A) := by
  have h : ¬ A.rd (x.segs x.g : Nat) (5 * ((2 ^ x.g : Nat) : Int) + (x.node : Int)) = 0 := by have := beq_eq_false_iff_ne.1 h; omega
  rw [inL_of hg hn] at hl
  unfold colCnt Is
  rw [if_neg h, if_neg (of_decide_eq_false hl)]
theorem on_stay {z : Col} {y : Nat} (hc : climb y y = climb z.node z.node) (h1 : decide ((y : Int) > 1) = true) (h2 : ((y : Int) % 2 == 1) = false) : colOn z = { z with node := y + 1 } := by
  have h1 := of_decide_eq_true h1
  have h2 := beq_eq_false_iff_ne.1 h2
  unfold colOn
  simp only [← hc]
  rw [climb_stop (by omega), if_pos (by omega)]
theorem on_end {z : Col} {y : Nat} (hc : climb y y = climb z.node z.node) (h1 : decide ((y : Int) > 1) = false) (h8 : ((z.g : Int) + 1 == 8) = true) : colOn z = { z with node := y, g := z.g + 1, ph := 2 } := by
  have h1 := of_decide_eq_false h1
  have h8 := eq_of_beq h8
  unfold colOn
  simp only [← hc]
  rw [climb_stop (by omega), if_neg (by omega), if_pos (by omega)]
theorem on_next {z : Col} {y : Nat} (hc : climb y y = climb z.node z.node) (h1 : decide ((y : Int) > 1) = false) (h8 : ((z.g : Int) + 1 == 8) = false) : colOn z = { z with node := y, g := z.g + 1, ph := 0 } := by
  have h1 := of_decide_eq_false h1
  have h8 := beq_eq_false_iff_ne.1 h8
  unfold colOn
  simp only [← hc]
  rw [climb_stop (by omega), if_neg (by omega), if_neg (by omega)]
theorem is_trans {a b : Col} {c : Col} (h1 : c = b) (h2 : b = a) : Is a c := (h1.trans h2).symm
theorem leaf_val {g node sg : Nat} (h1 : 1 ≤ node) (hl : inL (g : Int) (node : Int) = true) : [Value.int .u64 (sg : Int), .int .i64 ((node - 1 : Nat) : Int)] = [Value.int .u64 (sg : Int), .int .i64 (if inL (g : Int) (node : Int) = true then (node : Int) - 1 else 0)] := by
  rw [if_pos hl, Int.natCast_sub h1]
  rfl
theorem onY_half {node : Nat} (y : OnY node) (h1 : decide ((y.1.1 : Int) > 1) = true) (h2 : ((y.1.1 : Int) % 2 == 1) = true) : climb (y.1.1 / 2) (y.1.1 / 2) = climb node node ∧ y.1.1 / 2 ≤ node := by
  have h1 := of_decide_eq_true h1
  have h2 := eq_of_beq h2
  refine ⟨?_, by have := y.2.2; omega⟩
  rw [← climb_step (by omega) (by omega)]
  exact y.2.1
theorem len_snoc (q x : Nat × Nat) (l : List (Nat × Nat)) : (q :: (l ++ [x])).length = (q :: l).length + 1 := by simp
theorem plF_snoc {q x : Nat × Nat} {l : List (Nat × Nat)} {i : Nat} {v : List Value} (hi : i < (q :: (l ++ [x])).length) (hv : [Value.int .u64 (x.1 : Int), .int .i64 (x.2 : Int)] = v) :
    [Value.int .u64 (((q :: (l ++ [x])).getD i (0, 0)).1 : Int), .int .i64 (((q :: (l ++ [x])).getD i (0, 0)).2 : Int)] = if i < (q :: l).length then plF (q :: l) i else v := by
  have e : (q :: (l ++ [x])) = (q :: l) ++ [x] := rfl
  rw [len_snoc] at hi
  rw [e]
  by_cases h : i < (q :: l).length
  · rw [if_pos h]
    unfold plF
    rw [List.getD_eq_getElem?_getD, List.getD_eq_getElem?_getD, List.getElem?_append_left h]
  · rw [if_neg h, ← hv]
    have hi' : i = (q :: l).length := by omega
    subst hi'
    rw [List.getD_eq_getElem?_getD, List.getElem?_append_right (Nat.le_refl _)]
    simp
def colPostR (res : SV) (x : Col) (A : Ar) (v : SV) (m : MX) : Prop := colAny (fun y z => Is y x ∧ outM res (colHeap y z ++ [(1, arO A)]) v m) (selCol m.hp)
theorem colPostR_of {res : SV} {x : Col} {A : Ar} {v : SV} {m : MX} (h : colPostR res x A v m) : ∃ z : Nat, outM res (colHeap x z ++ [(1, arO A)]) v m := by
  obtain ⟨y, z, e, h⟩ := colAny_of h
  cases e
  exact ⟨z, h⟩
theorem oneCell_two {k k' : IntKind} {a b : Int} {u : Value} (h : List.Mem u [Value.int k a, Value.int k' b]) : u.oneCell' = true := by
  have h : u ∈ [Value.int k a, Value.int k' b] := h
  simp only [List.mem_cons, List.not_mem_nil, or_false] at h
  rcases h with rfl | rfl <;> rfl
end Go.Proofs.Ytnfpkadepomjjaa

/- A step of a collect, by the executor. -/
namespace Go.Proofs.Ytnfpkadepomjjaa
open Go
set_option maxRecDepth 1000000
set_option maxHeartbeats 0
def tblC0a : List (Smry Try.prog XE) := [readX, fixedS, counterS, slotS]
/-- What the executor leaves to be shown, written out. -/
theorem colS0a_vc (g node : Nat) (segs : Nat → Nat) (A : Ar) (cap : Nat) (hg : g < 8) : (callN Try.prog tblC0a (fun _ _ => false) 100 20 19 [.c (.ptr 0 0)] ⟨colH.heap ⟨0, g, node, segs, []⟩ cap ++ [(1, arO A)], 100⟩ (.both .nil .nil) (fun v m _ => colPost (colLook ⟨0, g, node, segs, []⟩ A) A.read v m)) = (
    ((↑g : Int) = (↑g : Int) ∧ (↑node : Int) = (↑node : Int) ∧ (↑(segs (0 : Nat)) : Int) = (↑(segs (0 : Nat)) : Int) ∧ (↑(segs (1 : Nat)) : Int) = (↑(segs (1 : Nat)) : Int) ∧ (↑(segs (2
    : Nat)) : Int) = (↑(segs (2 : Nat)) : Int) ∧ (↑(segs (3 : Nat)) : Int) = (↑(segs (3 : Nat)) : Int) ∧ (↑(segs (4 : Nat)) : Int) = (↑(segs (4 : Nat)) : Int) ∧ (↑(segs (5 : Nat)) :
    Int) = (↑(segs (5 : Nat)) : Int) ∧ (↑(segs (6 : Nat)) : Int) = (↑(segs (6 : Nat)) : Int) ∧ (↑(segs (7 : Nat)) : Int) = (↑(segs (7 : Nat)) : Int) ∧ (A.Has (0 : Int) ((1 : Int) + max
    (0 : Int) (min (↑g : Int) (7 : Int))) ∧ (((0 : Int) ≤ (↑g : Int) ∧ (↑g : Int) < (8 : Int)) ∧ ((↑g : Int).toNat < (8 : Nat) ∧ (((↑(A.rd (0 : Int) ((1 : Int) + max (0 : Int) (min (↑g
    : Int) (7 : Int)))) : Int) == (0 : Int)) = true → ∃ (g_1 : Nat), ∃ (node_1 : Nat), ∃ (segs_1 : Nat → Nat), ∃ (z : Nat), Is (Col.mk (2 : Nat) g_1 node_1 segs_1 []) (colLook (Col.mk
    (0 : Nat) g node segs []) A) ∧ (Value.nilFunc = Value.nilFunc ∧ (0 : Nat) = (0 : Nat) ∧ (↑g_1 : Int) = (↑g : Int) ∧ (↑node_1 : Int) = (↑node : Int) ∧ ((↑(segs_1 (0 : Nat)) : Int) =
    if (↑g : Int).toNat = (0 : Nat) then (↑(A.rd (0 : Int) ((1 : Int) + max (0 : Int) (min (↑g : Int) (7 : Int)))) : Int) else (↑(segs (0 : Nat)) : Int)) ∧ ((↑(segs_1 (1 : Nat)) : Int)
    = if (↑g : Int).toNat = (1 : Nat) then (↑(A.rd (0 : Int) ((1 : Int) + max (0 : Int) (min (↑g : Int) (7 : Int)))) : Int) else (↑(segs (1 : Nat)) : Int)) ∧ ((↑(segs_1 (2 : Nat)) :
    Int) = if (↑g : Int).toNat = (2 : Nat) then (↑(A.rd (0 : Int) ((1 : Int) + max (0 : Int) (min (↑g : Int) (7 : Int)))) : Int) else (↑(segs (2 : Nat)) : Int)) ∧ ((↑(segs_1 (3 : Nat))
    : Int) = if (↑g : Int).toNat = (3 : Nat) then (↑(A.rd (0 : Int) ((1 : Int) + max (0 : Int) (min (↑g : Int) (7 : Int)))) : Int) else (↑(segs (3 : Nat)) : Int)) ∧ ((↑(segs_1 (4 :
    Nat)) : Int) = if (↑g : Int).toNat = (4 : Nat) then (↑(A.rd (0 : Int) ((1 : Int) + max (0 : Int) (min (↑g : Int) (7 : Int)))) : Int) else (↑(segs (4 : Nat)) : Int)) ∧ ((↑(segs_1 (5
    : Nat)) : Int) = if (↑g : Int).toNat = (5 : Nat) then (↑(A.rd (0 : Int) ((1 : Int) + max (0 : Int) (min (↑g : Int) (7 : Int)))) : Int) else (↑(segs (5 : Nat)) : Int)) ∧ ((↑(segs_1
    (6 : Nat)) : Int) = if (↑g : Int).toNat = (6 : Nat) then (↑(A.rd (0 : Int) ((1 : Int) + max (0 : Int) (min (↑g : Int) (7 : Int)))) : Int) else (↑(segs (6 : Nat)) : Int)) ∧
    ((↑(segs_1 (7 : Nat)) : Int) = if (↑g : Int).toNat = (7 : Nat) then (↑(A.rd (0 : Int) ((1 : Int) + max (0 : Int) (min (↑g : Int) (7 : Int)))) : Int) else (↑(segs (7 : Nat)) : Int))
    ∧ True ∧ True) ∧ A.read = A.read ∧ True) ∧ (((↑(A.rd (0 : Int) ((1 : Int) + max (0 : Int) (min (↑g : Int) (7 : Int)))) : Int) == (0 : Int)) = false → ∃ (g_1 : Nat), ∃ (node_1 :
    Nat), ∃ (segs_1 : Nat → Nat), ∃ (z : Nat), Is (Col.mk (1 : Nat) g_1 node_1 segs_1 []) (colLook (Col.mk (0 : Nat) g node segs []) A) ∧ ((((0 : Nat) = (0 : Nat) ∧ True) ∧ True) ∧ (0 :
    Nat) = (0 : Nat) ∧ (↑g_1 : Int) = (↑g : Int) ∧ (↑node_1 : Int) = (1 : Int) ∧ ((↑(segs_1 (0 : Nat)) : Int) = if (↑g : Int).toNat = (0 : Nat) then (↑(A.rd (0 : Int) ((1 : Int) + max
    (0 : Int) (min (↑g : Int) (7 : Int)))) : Int) else (↑(segs (0 : Nat)) : Int)) ∧ ((↑(segs_1 (1 : Nat)) : Int) = if (↑g : Int).toNat = (1 : Nat) then (↑(A.rd (0 : Int) ((1 : Int) +
    max (0 : Int) (min (↑g : Int) (7 : Int)))) : Int) else (↑(segs (1 : Nat)) : Int)) ∧ ((↑(segs_1 (2 : Nat)) : Int) = if (↑g : Int).toNat = (2 : Nat) then (↑(A.rd (0 : Int) ((1 : Int)
    + max (0 : Int) (min (↑g : Int) (7 : Int)))) : Int) else (↑(segs (2 : Nat)) : Int)) ∧ ((↑(segs_1 (3 : Nat)) : Int) = if (↑g : Int).toNat = (3 : Nat) then (↑(A.rd (0 : Int) ((1 :
    Int) + max (0 : Int) (min (↑g : Int) (7 : Int)))) : Int) else (↑(segs (3 : Nat)) : Int)) ∧ ((↑(segs_1 (4 : Nat)) : Int) = if (↑g : Int).toNat = (4 : Nat) then (↑(A.rd (0 : Int) ((1
    : Int) + max (0 : Int) (min (↑g : Int) (7 : Int)))) : Int) else (↑(segs (4 : Nat)) : Int)) ∧ ((↑(segs_1 (5 : Nat)) : Int) = if (↑g : Int).toNat = (5 : Nat) then (↑(A.rd (0 : Int)
    ((1 : Int) + max (0 : Int) (min (↑g : Int) (7 : Int)))) : Int) else (↑(segs (5 : Nat)) : Int)) ∧ ((↑(segs_1 (6 : Nat)) : Int) = if (↑g : Int).toNat = (6 : Nat) then (↑(A.rd (0 :
    Int) ((1 : Int) + max (0 : Int) (min (↑g : Int) (7 : Int)))) : Int) else (↑(segs (6 : Nat)) : Int)) ∧ ((↑(segs_1 (7 : Nat)) : Int) = if (↑g : Int).toNat = (7 : Nat) then (↑(A.rd (0
    : Int) ((1 : Int) + max (0 : Int) (min (↑g : Int) (7 : Int)))) : Int) else (↑(segs (7 : Nat)) : Int)) ∧ True ∧ True) ∧ A.read = A.read ∧ True)) ∧ True) ∧ True) ∧ True) ∧ True) := by
  kernel_rfl
theorem colS0a (g node : Nat) (segs : Nat → Nat) (A : Ar) (cap : Nat) (hg : g < 8) : Run (callN Try.prog tblC0a (fun _ _ => false) 100 20 19 [.c (.ptr 0 0)] ⟨colH.heap ⟨0, g, node, segs, []⟩ cap ++ [(1, arO A)], 100⟩ (.both .nil .nil) (fun v m _ => colPost (colLook ⟨0, g, node, segs, []⟩ A) A.read v m)) := by
  constructor
  rw [colS0a_vc]
  have e : (1 : Int) + max (0 : Int) (min (g : Int) 7) = ((g + 1 : Nat) : Int) := by omega
  have hf : A.Has 0 ((g + 1 : Nat) : Int) := has_fixed A (by omega)
  simp only [e]
  repeat' first
    | with_reducible apply And.intro
    | with_reducible exact trivial
    | with_reducible exact fun _ h => h
    | with_reducible exact hf
    | intro _
    | with_reducible exact Eq.refl _
    | with_reducible exact updS_cast _ _ _ _
    | omega
    | with_reducible exact colLook_end (x := Col.mk 0 g node segs []) ‹_›
    | with_reducible exact colLook_on (x := Col.mk 0 g node segs []) ‹_›
    | (with_reducible refine Exists.intro g (Exists.intro node (Exists.intro (updS segs g (A.rd 0 ((g + 1 : Nat) : Int))) (Exists.intro cap ?_))); first | with_reducible refine And.intro (colLook_end (x := Col.mk 0 g node segs []) ‹_›) ?_ | fail)
    | (with_reducible refine Exists.intro g (Exists.intro 1 (Exists.intro (updS segs g (A.rd 0 ((g + 1 : Nat) : Int))) (Exists.intro cap ?_))); first | with_reducible refine And.intro (colLook_on (x := Col.mk 0 g node segs []) ‹_›) ?_ | fail)
end Go.Proofs.Ytnfpkadepomjjaa

/- A step of a collect, by the executor. -/
namespace Go.Proofs.Ytnfpkadepomjjaa
open Go
set_option maxRecDepth 1000000
set_option maxHeartbeats 0
def tblC0b : List (Smry Try.prog XE) := [readX, fixedS, counterS, slotS]
/-- What the executor leaves to be shown, written out. -/
theorem colS0b_vc (g node : Nat) (segs : Nat → Nat) (q : Nat × Nat) (l : List (Nat × Nat)) (A : Ar) (cap : Nat) (hg : g < 8) : (callN Try.prog tblC0b (fun _ _ => false) 100 20 19 [.c (.ptr 0 0)] ⟨colH.heap ⟨0, g, node, segs, q :: l⟩ cap ++ [(1, arO A)], 100⟩ (.both .nil .nil) (fun v m _ => colPost (colLook ⟨0, g, node, segs, q :: l⟩ A) A.read v m)) = (
    ((↑g : Int) = (↑g : Int) ∧ (↑node : Int) = (↑node : Int) ∧ (↑(segs (0 : Nat)) : Int) = (↑(segs (0 : Nat)) : Int) ∧ (↑(segs (1 : Nat)) : Int) = (↑(segs (1 : Nat)) : Int) ∧ (↑(segs (2
    : Nat)) : Int) = (↑(segs (2 : Nat)) : Int) ∧ (↑(segs (3 : Nat)) : Int) = (↑(segs (3 : Nat)) : Int) ∧ (↑(segs (4 : Nat)) : Int) = (↑(segs (4 : Nat)) : Int) ∧ (↑(segs (5 : Nat)) :
    Int) = (↑(segs (5 : Nat)) : Int) ∧ (↑(segs (6 : Nat)) : Int) = (↑(segs (6 : Nat)) : Int) ∧ (↑(segs (7 : Nat)) : Int) = (↑(segs (7 : Nat)) : Int) ∧ (0 : Nat) = (0 : Nat) ∧ (q ::
    l).length = (q :: l).length ∧ cap = cap ∧ (q :: l).length = (q :: l).length ∧ cap = cap ∧ plF (q :: l) = plF (q :: l) ∧ (A.Has (0 : Int) ((1 : Int) + max (0 : Int) (min (↑g : Int)
    (7 : Int))) ∧ (((0 : Int) ≤ (↑g : Int) ∧ (↑g : Int) < (8 : Int)) ∧ ((↑g : Int).toNat < (8 : Nat) ∧ (((↑(A.rd (0 : Int) ((1 : Int) + max (0 : Int) (min (↑g : Int) (7 : Int)))) : Int)
    == (0 : Int)) = true → ∃ (g_1 : Nat), ∃ (node_1 : Nat), ∃ (segs_1 : Nat → Nat), ∃ (q_1 : Nat × Nat), ∃ (l_1 : List (Nat × Nat)), ∃ (z : Nat), Is (Col.mk (2 : Nat) g_1 node_1 segs_1
    (q_1 :: l_1)) (colLook (Col.mk (0 : Nat) g node segs (q :: l)) A) ∧ (Value.nilFunc = Value.nilFunc ∧ (0 : Nat) = (0 : Nat) ∧ (↑g_1 : Int) = (↑g : Int) ∧ (↑node_1 : Int) = (↑node :
    Int) ∧ ((↑(segs_1 (0 : Nat)) : Int) = if (↑g : Int).toNat = (0 : Nat) then (↑(A.rd (0 : Int) ((1 : Int) + max (0 : Int) (min (↑g : Int) (7 : Int)))) : Int) else (↑(segs (0 : Nat)) :
    Int)) ∧ ((↑(segs_1 (1 : Nat)) : Int) = if (↑g : Int).toNat = (1 : Nat) then (↑(A.rd (0 : Int) ((1 : Int) + max (0 : Int) (min (↑g : Int) (7 : Int)))) : Int) else (↑(segs (1 : Nat))
    : Int)) ∧ ((↑(segs_1 (2 : Nat)) : Int) = if (↑g : Int).toNat = (2 : Nat) then (↑(A.rd (0 : Int) ((1 : Int) + max (0 : Int) (min (↑g : Int) (7 : Int)))) : Int) else (↑(segs (2 :
    Nat)) : Int)) ∧ ((↑(segs_1 (3 : Nat)) : Int) = if (↑g : Int).toNat = (3 : Nat) then (↑(A.rd (0 : Int) ((1 : Int) + max (0 : Int) (min (↑g : Int) (7 : Int)))) : Int) else (↑(segs (3
    : Nat)) : Int)) ∧ ((↑(segs_1 (4 : Nat)) : Int) = if (↑g : Int).toNat = (4 : Nat) then (↑(A.rd (0 : Int) ((1 : Int) + max (0 : Int) (min (↑g : Int) (7 : Int)))) : Int) else (↑(segs
    (4 : Nat)) : Int)) ∧ ((↑(segs_1 (5 : Nat)) : Int) = if (↑g : Int).toNat = (5 : Nat) then (↑(A.rd (0 : Int) ((1 : Int) + max (0 : Int) (min (↑g : Int) (7 : Int)))) : Int) else
    (↑(segs (5 : Nat)) : Int)) ∧ ((↑(segs_1 (6 : Nat)) : Int) = if (↑g : Int).toNat = (6 : Nat) then (↑(A.rd (0 : Int) ((1 : Int) + max (0 : Int) (min (↑g : Int) (7 : Int)))) : Int)
    else (↑(segs (6 : Nat)) : Int)) ∧ ((↑(segs_1 (7 : Nat)) : Int) = if (↑g : Int).toNat = (7 : Nat) then (↑(A.rd (0 : Int) ((1 : Int) + max (0 : Int) (min (↑g : Int) (7 : Int)))) :
    Int) else (↑(segs (7 : Nat)) : Int)) ∧ ((0 : Nat) = (0 : Nat) ∧ (q_1 :: l_1).length = (q :: l).length ∧ z = cap) ∧ True) ∧ ((q_1 :: l_1).length = (q :: l).length ∧ z = cap ∧ ∀ (i :
    Nat), i < (q_1 :: l_1).length → [Value.int IntKind.u64 (↑((q_1 :: l_1).getD i ((0 : Nat), (0 : Nat))).fst : Int), Value.int IntKind.i64 (↑((q_1 :: l_1).getD i ((0 : Nat), (0 :
    Nat))).snd : Int)] = [Value.int IntKind.u64 (↑((q :: l).getD i ((0 : Nat), (0 : Nat))).fst : Int), Value.int IntKind.i64 (↑((q :: l).getD i ((0 : Nat), (0 : Nat))).snd : Int)]) ∧
    A.read = A.read ∧ True) ∧ (((↑(A.rd (0 : Int) ((1 : Int) + max (0 : Int) (min (↑g : Int) (7 : Int)))) : Int) == (0 : Int)) = false → ∃ (g_1 : Nat), ∃ (node_1 : Nat), ∃ (segs_1 : Nat
    → Nat), ∃ (q_1 : Nat × Nat), ∃ (l_1 : List (Nat × Nat)), ∃ (z : Nat), Is (Col.mk (1 : Nat) g_1 node_1 segs_1 (q_1 :: l_1)) (colLook (Col.mk (0 : Nat) g node segs (q :: l)) A) ∧
    ((((0 : Nat) = (0 : Nat) ∧ True) ∧ True) ∧ (0 : Nat) = (0 : Nat) ∧ (↑g_1 : Int) = (↑g : Int) ∧ (↑node_1 : Int) = (1 : Int) ∧ ((↑(segs_1 (0 : Nat)) : Int) = if (↑g : Int).toNat = (0
    : Nat) then (↑(A.rd (0 : Int) ((1 : Int) + max (0 : Int) (min (↑g : Int) (7 : Int)))) : Int) else (↑(segs (0 : Nat)) : Int)) ∧ ((↑(segs_1 (1 : Nat)) : Int) = if (↑g : Int).toNat =
    (1 : Nat) then (↑(A.rd (0 : Int) ((1 : Int) + max (0 : Int) (min (↑g : Int) (7 : Int)))) : Int) else (↑(segs (1 : Nat)) : Int)) ∧ ((↑(segs_1 (2 : Nat)) : Int) = if (↑g : Int).toNat
    = (2 : Nat) then (↑(A.rd (0 : Int) ((1 : Int) + max (0 : Int) (min (↑g : Int) (7 : Int)))) : Int) else (↑(segs (2 : Nat)) : Int)) ∧ ((↑(segs_1 (3 : Nat)) : Int) = if (↑g :
    Int).toNat = (3 : Nat) then (↑(A.rd (0 : Int) ((1 : Int) + max (0 : Int) (min (↑g : Int) (7 : Int)))) : Int) else (↑(segs (3 : Nat)) : Int)) ∧ ((↑(segs_1 (4 : Nat)) : Int) = if (↑g
    : Int).toNat = (4 : Nat) then (↑(A.rd (0 : Int) ((1 : Int) + max (0 : Int) (min (↑g : Int) (7 : Int)))) : Int) else (↑(segs (4 : Nat)) : Int)) ∧ ((↑(segs_1 (5 : Nat)) : Int) = if
    (↑g : Int).toNat = (5 : Nat) then (↑(A.rd (0 : Int) ((1 : Int) + max (0 : Int) (min (↑g : Int) (7 : Int)))) : Int) else (↑(segs (5 : Nat)) : Int)) ∧ ((↑(segs_1 (6 : Nat)) : Int) =
    if (↑g : Int).toNat = (6 : Nat) then (↑(A.rd (0 : Int) ((1 : Int) + max (0 : Int) (min (↑g : Int) (7 : Int)))) : Int) else (↑(segs (6 : Nat)) : Int)) ∧ ((↑(segs_1 (7 : Nat)) : Int)
    = if (↑g : Int).toNat = (7 : Nat) then (↑(A.rd (0 : Int) ((1 : Int) + max (0 : Int) (min (↑g : Int) (7 : Int)))) : Int) else (↑(segs (7 : Nat)) : Int)) ∧ ((0 : Nat) = (0 : Nat) ∧
    (q_1 :: l_1).length = (q :: l).length ∧ z = cap) ∧ True) ∧ ((q_1 :: l_1).length = (q :: l).length ∧ z = cap ∧ ∀ (i : Nat), i < (q_1 :: l_1).length → [Value.int IntKind.u64 (↑((q_1
    :: l_1).getD i ((0 : Nat), (0 : Nat))).fst : Int), Value.int IntKind.i64 (↑((q_1 :: l_1).getD i ((0 : Nat), (0 : Nat))).snd : Int)] = [Value.int IntKind.u64 (↑((q :: l).getD i ((0 :
    Nat), (0 : Nat))).fst : Int), Value.int IntKind.i64 (↑((q :: l).getD i ((0 : Nat), (0 : Nat))).snd : Int)]) ∧ A.read = A.read ∧ True)) ∧ True) ∧ True) ∧ True) ∧ True) := by
  kernel_rfl
theorem colS0b (g node : Nat) (segs : Nat → Nat) (q : Nat × Nat) (l : List (Nat × Nat)) (A : Ar) (cap : Nat) (hg : g < 8) : Run (callN Try.prog tblC0b (fun _ _ => false) 100 20 19 [.c (.ptr 0 0)] ⟨colH.heap ⟨0, g, node, segs, q :: l⟩ cap ++ [(1, arO A)], 100⟩ (.both .nil .nil) (fun v m _ => colPost (colLook ⟨0, g, node, segs, q :: l⟩ A) A.read v m)) := by
  constructor
  rw [colS0b_vc]
  have e : (1 : Int) + max (0 : Int) (min (g : Int) 7) = ((g + 1 : Nat) : Int) := by omega
  have hf : A.Has 0 ((g + 1 : Nat) : Int) := has_fixed A (by omega)
  simp only [e]
  repeat' first
    | with_reducible apply And.intro
    | with_reducible exact trivial
    | with_reducible exact fun _ h => h
    | with_reducible exact hf
    | intro _
    | with_reducible exact Eq.refl _
    | with_reducible exact updS_cast _ _ _ _
    | omega
    | with_reducible exact colLook_end (x := Col.mk 0 g node segs (q :: l)) ‹_›
    | with_reducible exact colLook_on (x := Col.mk 0 g node segs (q :: l)) ‹_›
    | (with_reducible refine Exists.intro g (Exists.intro node (Exists.intro (updS segs g (A.rd 0 ((g + 1 : Nat) : Int))) (Exists.intro q (Exists.intro l (Exists.intro cap ?_))))); first | with_reducible refine And.intro (colLook_end (x := Col.mk 0 g node segs (q :: l)) ‹_›) ?_ | fail)
    | (with_reducible refine Exists.intro g (Exists.intro 1 (Exists.intro (updS segs g (A.rd 0 ((g + 1 : Nat) : Int))) (Exists.intro q (Exists.intro l (Exists.intro cap ?_))))); first | with_reducible refine And.intro (colLook_on (x := Col.mk 0 g node segs (q :: l)) ‹_›) ?_ | fail)
end Go.Proofs.Ytnfpkadepomjjaa

/- A step of a collect, by the executor. -/
namespace Go.Proofs.Ytnfpkadepomjjaa
open Go
set_option maxRecDepth 1000000
set_option maxHeartbeats 0
def tblC1a : List (Smry Try.prog XE) := [readX, fixedS, counterS, slotS]
def scrC1a (g node : Nat) (segs : Nat → Nat) : Scr XE := .both (onScr g segs [] node) (.both (onScr g segs [(segs g, node - 1)] node) .nil)
/-- What the executor leaves to be shown, written out. -/
theorem colS1a_vc (g node : Nat) (segs : Nat → Nat) (A : Ar) (cap : Nat) (hg : g < 8) (hn : 1 ≤ node ∧ node < 2 * 2 ^ g) (hA : A.Has (segs g : Int) (5 * 2 ^ g + node : Nat)) : (callN Try.prog tblC1a (fun _ _ => false) 100 20 19 [.c (.ptr 0 0)] ⟨colH.heap ⟨1, g, node, segs, []⟩ cap ++ [(1, arO A)], 100⟩ (scrC1a g node segs) (fun v m _ => colPost (colCnt ⟨1, g, node, segs, []⟩ A) A.read v m)) = (
    ((0 : Int) ≤ (↑g : Int) ∧ (↑g : Int) < (8 : Int)) ∧ (↑g : Int).toNat < (8 : Nat) ∧ ((0 : Int) ≤ [(↑(segs (0 : Nat)) : Int), (↑(segs (1 : Nat)) : Int), (↑(segs (2 : Nat)) : Int),
    (↑(segs (3 : Nat)) : Int), (↑(segs (4 : Nat)) : Int), (↑(segs (5 : Nat)) : Int), (↑(segs (6 : Nat)) : Int), (↑(segs (7 : Nat)) : Int)].getD (↑g : Int).toNat (0 : Int) ∧ (((A.Has (if
    inC (↑g : Int) (↑node : Int) = true then [(↑(segs (0 : Nat)) : Int), (↑(segs (1 : Nat)) : Int), (↑(segs (2 : Nat)) : Int), (↑(segs (3 : Nat)) : Int), (↑(segs (4 : Nat)) : Int),
    (↑(segs (5 : Nat)) : Int), (↑(segs (6 : Nat)) : Int), (↑(segs (7 : Nat)) : Int)].getD (↑g : Int).toNat (0 : Int) else (0 : Int)) (if inC (↑g : Int) (↑node : Int) = true then (5 :
    Int) * (↑((2 : Nat) ^ (↑g : Int).toNat) : Int) + (↑node : Int) else (0 : Int)) ∧ ((((↑(A.rd (if inC (↑g : Int) (↑node : Int) = true then [(↑(segs (0 : Nat)) : Int), (↑(segs (1 :
    Nat)) : Int), (↑(segs (2 : Nat)) : Int), (↑(segs (3 : Nat)) : Int), (↑(segs (4 : Nat)) : Int), (↑(segs (5 : Nat)) : Int), (↑(segs (6 : Nat)) : Int), (↑(segs (7 : Nat)) : Int)].getD
    (↑g : Int).toNat (0 : Int) else (0 : Int)) (if inC (↑g : Int) (↑node : Int) = true then (5 : Int) * (↑((2 : Nat) ^ (↑g : Int).toNat) : Int) + (↑node : Int) else (0 : Int))) : Int)
    == (0 : Int)) = true → (∃ (y : OnY node), XO.ar A.read = XO.ar A.read ∧ ((((0 : Nat) = (0 : Nat) ∧ True) ∧ True) ∧ (0 : Nat) = (0 : Nat) ∧ (↑g : Int) = (↑g : Int) ∧ (↑y.val.fst :
    Int) = (↑node : Int) ∧ (↑(segs (0 : Nat)) : Int) = (↑(segs (0 : Nat)) : Int) ∧ (↑(segs (1 : Nat)) : Int) = (↑(segs (1 : Nat)) : Int) ∧ (↑(segs (2 : Nat)) : Int) = (↑(segs (2 : Nat))
    : Int) ∧ (↑(segs (3 : Nat)) : Int) = (↑(segs (3 : Nat)) : Int) ∧ (↑(segs (4 : Nat)) : Int) = (↑(segs (4 : Nat)) : Int) ∧ (↑(segs (5 : Nat)) : Int) = (↑(segs (5 : Nat)) : Int) ∧
    (↑(segs (6 : Nat)) : Int) = (↑(segs (6 : Nat)) : Int) ∧ (↑(segs (7 : Nat)) : Int) = (↑(segs (7 : Nat)) : Int) ∧ True ∧ True) ∧ True) ∧ ∀ (y : OnY node) (ρ : Nat → Value), (decide
    ((↑y.val.fst : Int) > (1 : Int)) = true → ((0 : Int) ≤ (↑y.val.fst : Int) ∧ (0 : Int) < (2 : Int)) ∧ (((↑y.val.fst : Int) % (2 : Int) == (1 : Int)) = true → ((0 : Int) ≤ (↑y.val.fst
    : Int) ∧ (0 : Int) < (2 : Int) ∧ (-9223372036854775808 : Int) ≤ (↑y.val.fst : Int) ∧ (↑y.val.fst : Int) ≤ (9223372036854775807 : Int)) ∧ ∃ (y' : OnY node), y'.val.fst < y.val.fst ∧
    XO.ar A.read = XO.ar A.read ∧ ((((0 : Nat) = (0 : Nat) ∧ True) ∧ True) ∧ (0 : Nat) = (0 : Nat) ∧ (↑g : Int) = (↑g : Int) ∧ (↑y'.val.fst : Int) = (↑y.val.fst : Int) / (2 : Int) ∧
    (↑(segs (0 : Nat)) : Int) = (↑(segs (0 : Nat)) : Int) ∧ (↑(segs (1 : Nat)) : Int) = (↑(segs (1 : Nat)) : Int) ∧ (↑(segs (2 : Nat)) : Int) = (↑(segs (2 : Nat)) : Int) ∧ (↑(segs (3 :
    Nat)) : Int) = (↑(segs (3 : Nat)) : Int) ∧ (↑(segs (4 : Nat)) : Int) = (↑(segs (4 : Nat)) : Int) ∧ (↑(segs (5 : Nat)) : Int) = (↑(segs (5 : Nat)) : Int) ∧ (↑(segs (6 : Nat)) : Int)
    = (↑(segs (6 : Nat)) : Int) ∧ (↑(segs (7 : Nat)) : Int) = (↑(segs (7 : Nat)) : Int) ∧ True ∧ True) ∧ True) ∧ (((↑y.val.fst : Int) % (2 : Int) == (1 : Int)) = false → (decide
    ((↑y.val.fst : Int) > (1 : Int)) = true → ((-9223372036854775808 : Int) ≤ (↑y.val.fst : Int) + (1 : Int) ∧ (↑y.val.fst : Int) + (1 : Int) ≤ (9223372036854775807 : Int)) ∧ ∃ (g_1 :
    Nat), ∃ (node_1 : Nat), ∃ (segs_1 : Nat → Nat), ∃ (z : Nat), Is (Col.mk (1 : Nat) g_1 node_1 segs_1 []) (colCnt (Col.mk (1 : Nat) g node segs []) A) ∧ ((((0 : Nat) = (0 : Nat) ∧
    True) ∧ True) ∧ (0 : Nat) = (0 : Nat) ∧ (↑g_1 : Int) = (↑g : Int) ∧ (↑node_1 : Int) = (↑y.val.fst : Int) + (1 : Int) ∧ (↑(segs_1 (0 : Nat)) : Int) = (↑(segs (0 : Nat)) : Int) ∧
    (↑(segs_1 (1 : Nat)) : Int) = (↑(segs (1 : Nat)) : Int) ∧ (↑(segs_1 (2 : Nat)) : Int) = (↑(segs (2 : Nat)) : Int) ∧ (↑(segs_1 (3 : Nat)) : Int) = (↑(segs (3 : Nat)) : Int) ∧
    (↑(segs_1 (4 : Nat)) : Int) = (↑(segs (4 : Nat)) : Int) ∧ (↑(segs_1 (5 : Nat)) : Int) = (↑(segs (5 : Nat)) : Int) ∧ (↑(segs_1 (6 : Nat)) : Int) = (↑(segs (6 : Nat)) : Int) ∧
    (↑(segs_1 (7 : Nat)) : Int) = (↑(segs (7 : Nat)) : Int) ∧ True ∧ True) ∧ A.read = A.read ∧ True) ∧ (decide ((↑y.val.fst : Int) > (1 : Int)) = false → ((-9223372036854775808 : Int) ≤
    (↑g : Int) + (1 : Int) ∧ (↑g : Int) + (1 : Int) ≤ (9223372036854775807 : Int)) ∧ (((↑g : Int) + (1 : Int) == (8 : Int)) = true → ∃ (g_1 : Nat), ∃ (node_1 : Nat), ∃ (segs_1 : Nat →
    Nat), ∃ (z : Nat), Is (Col.mk (2 : Nat) g_1 node_1 segs_1 []) (colCnt (Col.mk (1 : Nat) g node segs []) A) ∧ (Value.nilFunc = Value.nilFunc ∧ (0 : Nat) = (0 : Nat) ∧ (↑g_1 : Int) =
    (↑g : Int) + (1 : Int) ∧ (↑node_1 : Int) = (↑y.val.fst : Int) ∧ (↑(segs_1 (0 : Nat)) : Int) = (↑(segs (0 : Nat)) : Int) ∧ (↑(segs_1 (1 : Nat)) : Int) = (↑(segs (1 : Nat)) : Int) ∧
    (↑(segs_1 (2 : Nat)) : Int) = (↑(segs (2 : Nat)) : Int) ∧ (↑(segs_1 (3 : Nat)) : Int) = (↑(segs (3 : Nat)) : Int) ∧ (↑(segs_1 (4 : Nat)) : Int) = (↑(segs (4 : Nat)) : Int) ∧
    (↑(segs_1 (5 : Nat)) : Int) = (↑(segs (5 : Nat)) : Int) ∧ (↑(segs_1 (6 : Nat)) : Int) = (↑(segs (6 : Nat)) : Int) ∧ (↑(segs_1 (7 : Nat)) : Int) = (↑(segs (7 : Nat)) : Int) ∧ True ∧
    True) ∧ A.read = A.read ∧ True) ∧ (((↑g : Int) + (1 : Int) == (8 : Int)) = false → ∃ (g_1 : Nat), ∃ (node_1 : Nat), ∃ (segs_1 : Nat → Nat), ∃ (z : Nat), Is (Col.mk (0 : Nat) g_1
    node_1 segs_1 []) (colCnt (Col.mk (1 : Nat) g node segs []) A) ∧ ((((0 : Nat) = (0 : Nat) ∧ True) ∧ True) ∧ (0 : Nat) = (0 : Nat) ∧ (↑g_1 : Int) = (↑g : Int) + (1 : Int) ∧ (↑node_1
    : Int) = (↑y.val.fst : Int) ∧ (↑(segs_1 (0 : Nat)) : Int) = (↑(segs (0 : Nat)) : Int) ∧ (↑(segs_1 (1 : Nat)) : Int) = (↑(segs (1 : Nat)) : Int) ∧ (↑(segs_1 (2 : Nat)) : Int) =
    (↑(segs (2 : Nat)) : Int) ∧ (↑(segs_1 (3 : Nat)) : Int) = (↑(segs (3 : Nat)) : Int) ∧ (↑(segs_1 (4 : Nat)) : Int) = (↑(segs (4 : Nat)) : Int) ∧ (↑(segs_1 (5 : Nat)) : Int) = (↑(segs
    (5 : Nat)) : Int) ∧ (↑(segs_1 (6 : Nat)) : Int) = (↑(segs (6 : Nat)) : Int) ∧ (↑(segs_1 (7 : Nat)) : Int) = (↑(segs (7 : Nat)) : Int) ∧ True ∧ True) ∧ A.read = A.read ∧ True)))) ∧
    (decide ((↑y.val.fst : Int) > (1 : Int)) = false → (decide ((↑y.val.fst : Int) > (1 : Int)) = true → ((-9223372036854775808 : Int) ≤ (↑y.val.fst : Int) + (1 : Int) ∧ (↑y.val.fst :
    Int) + (1 : Int) ≤ (9223372036854775807 : Int)) ∧ ∃ (g_1 : Nat), ∃ (node_1 : Nat), ∃ (segs_1 : Nat → Nat), ∃ (z : Nat), Is (Col.mk (1 : Nat) g_1 node_1 segs_1 []) (colCnt (Col.mk (1
    : Nat) g node segs []) A) ∧ ((((0 : Nat) = (0 : Nat) ∧ True) ∧ True) ∧ (0 : Nat) = (0 : Nat) ∧ (↑g_1 : Int) = (↑g : Int) ∧ (↑node_1 : Int) = (↑y.val.fst : Int) + (1 : Int) ∧
    (↑(segs_1 (0 : Nat)) : Int) = (↑(segs (0 : Nat)) : Int) ∧ (↑(segs_1 (1 : Nat)) : Int) = (↑(segs (1 : Nat)) : Int) ∧ (↑(segs_1 (2 : Nat)) : Int) = (↑(segs (2 : Nat)) : Int) ∧
    (↑(segs_1 (3 : Nat)) : Int) = (↑(segs (3 : Nat)) : Int) ∧ (↑(segs_1 (4 : Nat)) : Int) = (↑(segs (4 : Nat)) : Int) ∧ (↑(segs_1 (5 : Nat)) : Int) = (↑(segs (5 : Nat)) : Int) ∧
    (↑(segs_1 (6 : Nat)) : Int) = (↑(segs (6 : Nat)) : Int) ∧ (↑(segs_1 (7 : Nat)) : Int) = (↑(segs (7 : Nat)) : Int) ∧ True ∧ True) ∧ A.read = A.read ∧ True) ∧ (decide ((↑y.val.fst :
    Int) > (1 : Int)) = false → ((-9223372036854775808 : Int) ≤ (↑g : Int) + (1 : Int) ∧ (↑g : Int) + (1 : Int) ≤ (9223372036854775807 : Int)) ∧ (((↑g : Int) + (1 : Int) == (8 : Int)) =
    true → ∃ (g_1 : Nat), ∃ (node_1 : Nat), ∃ (segs_1 : Nat → Nat), ∃ (z : Nat), Is (Col.mk (2 : Nat) g_1 node_1 segs_1 []) (colCnt (Col.mk (1 : Nat) g node segs []) A) ∧ (Value.nilFunc
    = Value.nilFunc ∧ (0 : Nat) = (0 : Nat) ∧ (↑g_1 : Int) = (↑g : Int) + (1 : Int) ∧ (↑node_1 : Int) = (↑y.val.fst : Int) ∧ (↑(segs_1 (0 : Nat)) : Int) = (↑(segs (0 : Nat)) : Int) ∧
    (↑(segs_1 (1 : Nat)) : Int) = (↑(segs (1 : Nat)) : Int) ∧ (↑(segs_1 (2 : Nat)) : Int) = (↑(segs (2 : Nat)) : Int) ∧ (↑(segs_1 (3 : Nat)) : Int) = (↑(segs (3 : Nat)) : Int) ∧
    (↑(segs_1 (4 : Nat)) : Int) = (↑(segs (4 : Nat)) : Int) ∧ (↑(segs_1 (5 : Nat)) : Int) = (↑(segs (5 : Nat)) : Int) ∧ (↑(segs_1 (6 : Nat)) : Int) = (↑(segs (6 : Nat)) : Int) ∧
    (↑(segs_1 (7 : Nat)) : Int) = (↑(segs (7 : Nat)) : Int) ∧ True ∧ True) ∧ A.read = A.read ∧ True) ∧ (((↑g : Int) + (1 : Int) == (8 : Int)) = false → ∃ (g_1 : Nat), ∃ (node_1 : Nat),
    ∃ (segs_1 : Nat → Nat), ∃ (z : Nat), Is (Col.mk (0 : Nat) g_1 node_1 segs_1 []) (colCnt (Col.mk (1 : Nat) g node segs []) A) ∧ ((((0 : Nat) = (0 : Nat) ∧ True) ∧ True) ∧ (0 : Nat) =
    (0 : Nat) ∧ (↑g_1 : Int) = (↑g : Int) + (1 : Int) ∧ (↑node_1 : Int) = (↑y.val.fst : Int) ∧ (↑(segs_1 (0 : Nat)) : Int) = (↑(segs (0 : Nat)) : Int) ∧ (↑(segs_1 (1 : Nat)) : Int) =
    (↑(segs (1 : Nat)) : Int) ∧ (↑(segs_1 (2 : Nat)) : Int) = (↑(segs (2 : Nat)) : Int) ∧ (↑(segs_1 (3 : Nat)) : Int) = (↑(segs (3 : Nat)) : Int) ∧ (↑(segs_1 (4 : Nat)) : Int) = (↑(segs
    (4 : Nat)) : Int) ∧ (↑(segs_1 (5 : Nat)) : Int) = (↑(segs (5 : Nat)) : Int) ∧ (↑(segs_1 (6 : Nat)) : Int) = (↑(segs (6 : Nat)) : Int) ∧ (↑(segs_1 (7 : Nat)) : Int) = (↑(segs (7 :
    Nat)) : Int) ∧ True ∧ True) ∧ A.read = A.read ∧ True)))) ∧ (((↑(A.rd (if inC (↑g : Int) (↑node : Int) = true then [(↑(segs (0 : Nat)) : Int), (↑(segs (1 : Nat)) : Int), (↑(segs (2 :
    Nat)) : Int), (↑(segs (3 : Nat)) : Int), (↑(segs (4 : Nat)) : Int), (↑(segs (5 : Nat)) : Int), (↑(segs (6 : Nat)) : Int), (↑(segs (7 : Nat)) : Int)].getD (↑g : Int).toNat (0 : Int)
    else (0 : Int)) (if inC (↑g : Int) (↑node : Int) = true then (5 : Int) * (↑((2 : Nat) ^ (↑g : Int).toNat) : Int) + (↑node : Int) else (0 : Int))) : Int) == (0 : Int)) = false → (inL
    (↑g : Int) (↑node : Int) = true → ((((0 : Int) ≤ (↑g : Int) ∧ (↑g : Int) < (8 : Int)) ∧ ((↑g : Int).toNat < (8 : Nat) ∧ ((True ∧ True ∧ (1 : Nat) ≤ (1000000000 : Nat) ∧ ∀ (cap :
    Nat), (1 : Nat) ≤ cap → ((∃ (y : OnY node), XO.ar A.read = XO.ar A.read ∧ ((((0 : Nat) = (0 : Nat) ∧ True) ∧ True) ∧ (0 : Nat) = (0 : Nat) ∧ (↑g : Int) = (↑g : Int) ∧ (↑y.val.fst :
    Int) = (↑node : Int) ∧ (↑(segs (0 : Nat)) : Int) = (↑(segs (0 : Nat)) : Int) ∧ (↑(segs (1 : Nat)) : Int) = (↑(segs (1 : Nat)) : Int) ∧ (↑(segs (2 : Nat)) : Int) = (↑(segs (2 : Nat))
    : Int) ∧ (↑(segs (3 : Nat)) : Int) = (↑(segs (3 : Nat)) : Int) ∧ (↑(segs (4 : Nat)) : Int) = (↑(segs (4 : Nat)) : Int) ∧ (↑(segs (5 : Nat)) : Int) = (↑(segs (5 : Nat)) : Int) ∧
    (↑(segs (6 : Nat)) : Int) = (↑(segs (6 : Nat)) : Int) ∧ (↑(segs (7 : Nat)) : Int) = (↑(segs (7 : Nat)) : Int) ∧ ((0 : Nat) = (0 : Nat) ∧ (1 : Nat) = (1 : Nat) ∧ y.val.snd = cap) ∧
    True) ∧ ((1 : Nat) = (1 : Nat) ∧ y.val.snd = cap ∧ (2 : Nat) = (2 : Nat) ∧ [Value.int IntKind.u64 (↑(segs g) : Int), Value.int IntKind.i64 (↑(node - (1 : Nat)) : Int)] = [Value.int
    IntKind.u64 ([(↑(segs (0 : Nat)) : Int), (↑(segs (1 : Nat)) : Int), (↑(segs (2 : Nat)) : Int), (↑(segs (3 : Nat)) : Int), (↑(segs (4 : Nat)) : Int), (↑(segs (5 : Nat)) : Int),
    (↑(segs (6 : Nat)) : Int), (↑(segs (7 : Nat)) : Int)].getD (↑g : Int).toNat (0 : Int)), Value.int IntKind.i64 (if inL (↑g : Int) (↑node : Int) = true then (↑node : Int) - (1 : Int)
    else (0 : Int))] ∧ True) ∧ True) ∧ ∀ (y : OnY node) (ρ : Nat → Value), (decide ((↑y.val.fst : Int) > (1 : Int)) = true → ((0 : Int) ≤ (↑y.val.fst : Int) ∧ (0 : Int) < (2 : Int)) ∧
    (((↑y.val.fst : Int) % (2 : Int) == (1 : Int)) = true → ((0 : Int) ≤ (↑y.val.fst : Int) ∧ (0 : Int) < (2 : Int) ∧ (-9223372036854775808 : Int) ≤ (↑y.val.fst : Int) ∧ (↑y.val.fst :
    Int) ≤ (9223372036854775807 : Int)) ∧ ∃ (y' : OnY node), y'.val.fst < y.val.fst ∧ XO.ar A.read = XO.ar A.read ∧ ((((0 : Nat) = (0 : Nat) ∧ True) ∧ True) ∧ (0 : Nat) = (0 : Nat) ∧
    (↑g : Int) = (↑g : Int) ∧ (↑y'.val.fst : Int) = (↑y.val.fst : Int) / (2 : Int) ∧ (↑(segs (0 : Nat)) : Int) = (↑(segs (0 : Nat)) : Int) ∧ (↑(segs (1 : Nat)) : Int) = (↑(segs (1 :
    Nat)) : Int) ∧ (↑(segs (2 : Nat)) : Int) = (↑(segs (2 : Nat)) : Int) ∧ (↑(segs (3 : Nat)) : Int) = (↑(segs (3 : Nat)) : Int) ∧ (↑(segs (4 : Nat)) : Int) = (↑(segs (4 : Nat)) : Int)
    ∧ (↑(segs (5 : Nat)) : Int) = (↑(segs (5 : Nat)) : Int) ∧ (↑(segs (6 : Nat)) : Int) = (↑(segs (6 : Nat)) : Int) ∧ (↑(segs (7 : Nat)) : Int) = (↑(segs (7 : Nat)) : Int) ∧ ((0 : Nat)
    = (0 : Nat) ∧ (1 : Nat) = (1 : Nat) ∧ y'.val.snd = y.val.snd) ∧ True) ∧ ((1 : Nat) = (1 : Nat) ∧ y'.val.snd = y.val.snd ∧ ∀ (i : Nat), i < (1 : Nat) → [Value.int IntKind.u64
    (↑([(segs g, node - (1 : Nat))].getD i ((0 : Nat), (0 : Nat))).fst : Int), Value.int IntKind.i64 (↑([(segs g, node - (1 : Nat))].getD i ((0 : Nat), (0 : Nat))).snd : Int)] =
    [Value.int IntKind.u64 (↑([(segs g, node - (1 : Nat))].getD i ((0 : Nat), (0 : Nat))).fst : Int), Value.int IntKind.i64 (↑([(segs g, node - (1 : Nat))].getD i ((0 : Nat), (0 :
    Nat))).snd : Int)]) ∧ True) ∧ (((↑y.val.fst : Int) % (2 : Int) == (1 : Int)) = false → (decide ((↑y.val.fst : Int) > (1 : Int)) = true → ((-9223372036854775808 : Int) ≤ (↑y.val.fst
    : Int) + (1 : Int) ∧ (↑y.val.fst : Int) + (1 : Int) ≤ (9223372036854775807 : Int)) ∧ ∃ (g_1 : Nat), ∃ (node_1 : Nat), ∃ (segs_1 : Nat → Nat), ∃ (q : Nat × Nat), ∃ (l : List (Nat ×
    Nat)), ∃ (z : Nat), Is (Col.mk (1 : Nat) g_1 node_1 segs_1 (q :: l)) (colCnt (Col.mk (1 : Nat) g node segs []) A) ∧ ((((0 : Nat) = (0 : Nat) ∧ True) ∧ True) ∧ (0 : Nat) = (0 : Nat)
    ∧ (↑g_1 : Int) = (↑g : Int) ∧ (↑node_1 : Int) = (↑y.val.fst : Int) + (1 : Int) ∧ (↑(segs_1 (0 : Nat)) : Int) = (↑(segs (0 : Nat)) : Int) ∧ (↑(segs_1 (1 : Nat)) : Int) = (↑(segs (1 :
    Nat)) : Int) ∧ (↑(segs_1 (2 : Nat)) : Int) = (↑(segs (2 : Nat)) : Int) ∧ (↑(segs_1 (3 : Nat)) : Int) = (↑(segs (3 : Nat)) : Int) ∧ (↑(segs_1 (4 : Nat)) : Int) = (↑(segs (4 : Nat)) :
    Int) ∧ (↑(segs_1 (5 : Nat)) : Int) = (↑(segs (5 : Nat)) : Int) ∧ (↑(segs_1 (6 : Nat)) : Int) = (↑(segs (6 : Nat)) : Int) ∧ (↑(segs_1 (7 : Nat)) : Int) = (↑(segs (7 : Nat)) : Int) ∧
    ((0 : Nat) = (0 : Nat) ∧ (q :: l).length = (1 : Nat) ∧ z = y.val.snd) ∧ True) ∧ ((q :: l).length = (1 : Nat) ∧ z = y.val.snd ∧ ∀ (i : Nat), i < (q :: l).length → [Value.int
    IntKind.u64 (↑((q :: l).getD i ((0 : Nat), (0 : Nat))).fst : Int), Value.int IntKind.i64 (↑((q :: l).getD i ((0 : Nat), (0 : Nat))).snd : Int)] = [Value.int IntKind.u64 (↑([(segs g,
    node - (1 : Nat))].getD i ((0 : Nat), (0 : Nat))).fst : Int), Value.int IntKind.i64 (↑([(segs g, node - (1 : Nat))].getD i ((0 : Nat), (0 : Nat))).snd : Int)]) ∧ A.read = A.read ∧
    True) ∧ (decide ((↑y.val.fst : Int) > (1 : Int)) = false → ((-9223372036854775808 : Int) ≤ (↑g : Int) + (1 : Int) ∧ (↑g : Int) + (1 : Int) ≤ (9223372036854775807 : Int)) ∧ (((↑g :
    Int) + (1 : Int) == (8 : Int)) = true → ∃ (g_1 : Nat), ∃ (node_1 : Nat), ∃ (segs_1 : Nat → Nat), ∃ (q : Nat × Nat), ∃ (l : List (Nat × Nat)), ∃ (z : Nat), Is (Col.mk (2 : Nat) g_1
    node_1 segs_1 (q :: l)) (colCnt (Col.mk (1 : Nat) g node segs []) A) ∧ (Value.nilFunc = Value.nilFunc ∧ (0 : Nat) = (0 : Nat) ∧ (↑g_1 : Int) = (↑g : Int) + (1 : Int) ∧ (↑node_1 :
    Int) = (↑y.val.fst : Int) ∧ (↑(segs_1 (0 : Nat)) : Int) = (↑(segs (0 : Nat)) : Int) ∧ (↑(segs_1 (1 : Nat)) : Int) = (↑(segs (1 : Nat)) : Int) ∧ (↑(segs_1 (2 : Nat)) : Int) = (↑(segs
    (2 : Nat)) : Int) ∧ (↑(segs_1 (3 : Nat)) : Int) = (↑(segs (3 : Nat)) : Int) ∧ (↑(segs_1 (4 : Nat)) : Int) = (↑(segs (4 : Nat)) : Int) ∧ (↑(segs_1 (5 : Nat)) : Int) = (↑(segs (5 :
    Nat)) : Int) ∧ (↑(segs_1 (6 : Nat)) : Int) = (↑(segs (6 : Nat)) : Int) ∧ (↑(segs_1 (7 : Nat)) : Int) = (↑(segs (7 : Nat)) : Int) ∧ ((0 : Nat) = (0 : Nat) ∧ (q :: l).length = (1 :
    Nat) ∧ z = y.val.snd) ∧ True) ∧ ((q :: l).length = (1 : Nat) ∧ z = y.val.snd ∧ ∀ (i : Nat), i < (q :: l).length → [Value.int IntKind.u64 (↑((q :: l).getD i ((0 : Nat), (0 :
    Nat))).fst : Int), Value.int IntKind.i64 (↑((q :: l).getD i ((0 : Nat), (0 : Nat))).snd : Int)] = [Value.int IntKind.u64 (↑([(segs g, node - (1 : Nat))].getD i ((0 : Nat), (0 :
    Nat))).fst : Int), Value.int IntKind.i64 (↑([(segs g, node - (1 : Nat))].getD i ((0 : Nat), (0 : Nat))).snd : Int)]) ∧ A.read = A.read ∧ True) ∧ (((↑g : Int) + (1 : Int) == (8 :
    Int)) = false → ∃ (g_1 : Nat), ∃ (node_1 : Nat), ∃ (segs_1 : Nat → Nat), ∃ (q : Nat × Nat), ∃ (l : List (Nat × Nat)), ∃ (z : Nat), Is (Col.mk (0 : Nat) g_1 node_1 segs_1 (q :: l))
    (colCnt (Col.mk (1 : Nat) g node segs []) A) ∧ ((((0 : Nat) = (0 : Nat) ∧ True) ∧ True) ∧ (0 : Nat) = (0 : Nat) ∧ (↑g_1 : Int) = (↑g : Int) + (1 : Int) ∧ (↑node_1 : Int) =
    (↑y.val.fst : Int) ∧ (↑(segs_1 (0 : Nat)) : Int) = (↑(segs (0 : Nat)) : Int) ∧ (↑(segs_1 (1 : Nat)) : Int) = (↑(segs (1 : Nat)) : Int) ∧ (↑(segs_1 (2 : Nat)) : Int) = (↑(segs (2 :
    Nat)) : Int) ∧ (↑(segs_1 (3 : Nat)) : Int) = (↑(segs (3 : Nat)) : Int) ∧ (↑(segs_1 (4 : Nat)) : Int) = (↑(segs (4 : Nat)) : Int) ∧ (↑(segs_1 (5 : Nat)) : Int) = (↑(segs (5 : Nat)) :
    Int) ∧ (↑(segs_1 (6 : Nat)) : Int) = (↑(segs (6 : Nat)) : Int) ∧ (↑(segs_1 (7 : Nat)) : Int) = (↑(segs (7 : Nat)) : Int) ∧ ((0 : Nat) = (0 : Nat) ∧ (q :: l).length = (1 : Nat) ∧ z =
    y.val.snd) ∧ True) ∧ ((q :: l).length = (1 : Nat) ∧ z = y.val.snd ∧ ∀ (i : Nat), i < (q :: l).length → [Value.int IntKind.u64 (↑((q :: l).getD i ((0 : Nat), (0 : Nat))).fst : Int),
    Value.int IntKind.i64 (↑((q :: l).getD i ((0 : Nat), (0 : Nat))).snd : Int)] = [Value.int IntKind.u64 (↑([(segs g, node - (1 : Nat))].getD i ((0 : Nat), (0 : Nat))).fst : Int),
    Value.int IntKind.i64 (↑([(segs g, node - (1 : Nat))].getD i ((0 : Nat), (0 : Nat))).snd : Int)]) ∧ A.read = A.read ∧ True)))) ∧ (decide ((↑y.val.fst : Int) > (1 : Int)) = false →
    (decide ((↑y.val.fst : Int) > (1 : Int)) = true → ((-9223372036854775808 : Int) ≤ (↑y.val.fst : Int) + (1 : Int) ∧ (↑y.val.fst : Int) + (1 : Int) ≤ (9223372036854775807 : Int)) ∧ ∃
    (g_1 : Nat), ∃ (node_1 : Nat), ∃ (segs_1 : Nat → Nat), ∃ (q : Nat × Nat), ∃ (l : List (Nat × Nat)), ∃ (z : Nat), Is (Col.mk (1 : Nat) g_1 node_1 segs_1 (q :: l)) (colCnt (Col.mk (1
    : Nat) g node segs []) A) ∧ ((((0 : Nat) = (0 : Nat) ∧ True) ∧ True) ∧ (0 : Nat) = (0 : Nat) ∧ (↑g_1 : Int) = (↑g : Int) ∧ (↑node_1 : Int) = (↑y.val.fst : Int) + (1 : Int) ∧
    (↑(segs_1 (0 : Nat)) : Int) = (↑(segs (0 : Nat)) : Int) ∧ (↑(segs_1 (1 : Nat)) : Int) = (↑(segs (1 : Nat)) : Int) ∧ (↑(segs_1 (2 : Nat)) : Int) = (↑(segs (2 : Nat)) : Int) ∧
    (↑(segs_1 (3 : Nat)) : Int) = (↑(segs (3 : Nat)) : Int) ∧ (↑(segs_1 (4 : Nat)) : Int) = (↑(segs (4 : Nat)) : Int) ∧ (↑(segs_1 (5 : Nat)) : Int) = (↑(segs (5 : Nat)) : Int) ∧
    (↑(segs_1 (6 : Nat)) : Int) = (↑(segs (6 : Nat)) : Int) ∧ (↑(segs_1 (7 : Nat)) : Int) = (↑(segs (7 : Nat)) : Int) ∧ ((0 : Nat) = (0 : Nat) ∧ (q :: l).length = (1 : Nat) ∧ z =
    y.val.snd) ∧ True) ∧ ((q :: l).length = (1 : Nat) ∧ z = y.val.snd ∧ ∀ (i : Nat), i < (q :: l).length → [Value.int IntKind.u64 (↑((q :: l).getD i ((0 : Nat), (0 : Nat))).fst : Int),
    Value.int IntKind.i64 (↑((q :: l).getD i ((0 : Nat), (0 : Nat))).snd : Int)] = [Value.int IntKind.u64 (↑([(segs g, node - (1 : Nat))].getD i ((0 : Nat), (0 : Nat))).fst : Int),
    Value.int IntKind.i64 (↑([(segs g, node - (1 : Nat))].getD i ((0 : Nat), (0 : Nat))).snd : Int)]) ∧ A.read = A.read ∧ True) ∧ (decide ((↑y.val.fst : Int) > (1 : Int)) = false →
    ((-9223372036854775808 : Int) ≤ (↑g : Int) + (1 : Int) ∧ (↑g : Int) + (1 : Int) ≤ (9223372036854775807 : Int)) ∧ (((↑g : Int) + (1 : Int) == (8 : Int)) = true → ∃ (g_1 : Nat), ∃
    (node_1 : Nat), ∃ (segs_1 : Nat → Nat), ∃ (q : Nat × Nat), ∃ (l : List (Nat × Nat)), ∃ (z : Nat), Is (Col.mk (2 : Nat) g_1 node_1 segs_1 (q :: l)) (colCnt (Col.mk (1 : Nat) g node
    segs []) A) ∧ (Value.nilFunc = Value.nilFunc ∧ (0 : Nat) = (0 : Nat) ∧ (↑g_1 : Int) = (↑g : Int) + (1 : Int) ∧ (↑node_1 : Int) = (↑y.val.fst : Int) ∧ (↑(segs_1 (0 : Nat)) : Int) =
    (↑(segs (0 : Nat)) : Int) ∧ (↑(segs_1 (1 : Nat)) : Int) = (↑(segs (1 : Nat)) : Int) ∧ (↑(segs_1 (2 : Nat)) : Int) = (↑(segs (2 : Nat)) : Int) ∧ (↑(segs_1 (3 : Nat)) : Int) = (↑(segs
    (3 : Nat)) : Int) ∧ (↑(segs_1 (4 : Nat)) : Int) = (↑(segs (4 : Nat)) : Int) ∧ (↑(segs_1 (5 : Nat)) : Int) = (↑(segs (5 : Nat)) : Int) ∧ (↑(segs_1 (6 : Nat)) : Int) = (↑(segs (6 :
    Nat)) : Int) ∧ (↑(segs_1 (7 : Nat)) : Int) = (↑(segs (7 : Nat)) : Int) ∧ ((0 : Nat) = (0 : Nat) ∧ (q :: l).length = (1 : Nat) ∧ z = y.val.snd) ∧ True) ∧ ((q :: l).length = (1 : Nat)
    ∧ z = y.val.snd ∧ ∀ (i : Nat), i < (q :: l).length → [Value.int IntKind.u64 (↑((q :: l).getD i ((0 : Nat), (0 : Nat))).fst : Int), Value.int IntKind.i64 (↑((q :: l).getD i ((0 :
    Nat), (0 : Nat))).snd : Int)] = [Value.int IntKind.u64 (↑([(segs g, node - (1 : Nat))].getD i ((0 : Nat), (0 : Nat))).fst : Int), Value.int IntKind.i64 (↑([(segs g, node - (1 :
    Nat))].getD i ((0 : Nat), (0 : Nat))).snd : Int)]) ∧ A.read = A.read ∧ True) ∧ (((↑g : Int) + (1 : Int) == (8 : Int)) = false → ∃ (g_1 : Nat), ∃ (node_1 : Nat), ∃ (segs_1 : Nat →
    Nat), ∃ (q : Nat × Nat), ∃ (l : List (Nat × Nat)), ∃ (z : Nat), Is (Col.mk (0 : Nat) g_1 node_1 segs_1 (q :: l)) (colCnt (Col.mk (1 : Nat) g node segs []) A) ∧ ((((0 : Nat) = (0 :
    Nat) ∧ True) ∧ True) ∧ (0 : Nat) = (0 : Nat) ∧ (↑g_1 : Int) = (↑g : Int) + (1 : Int) ∧ (↑node_1 : Int) = (↑y.val.fst : Int) ∧ (↑(segs_1 (0 : Nat)) : Int) = (↑(segs (0 : Nat)) : Int)
    ∧ (↑(segs_1 (1 : Nat)) : Int) = (↑(segs (1 : Nat)) : Int) ∧ (↑(segs_1 (2 : Nat)) : Int) = (↑(segs (2 : Nat)) : Int) ∧ (↑(segs_1 (3 : Nat)) : Int) = (↑(segs (3 : Nat)) : Int) ∧
    (↑(segs_1 (4 : Nat)) : Int) = (↑(segs (4 : Nat)) : Int) ∧ (↑(segs_1 (5 : Nat)) : Int) = (↑(segs (5 : Nat)) : Int) ∧ (↑(segs_1 (6 : Nat)) : Int) = (↑(segs (6 : Nat)) : Int) ∧
    (↑(segs_1 (7 : Nat)) : Int) = (↑(segs (7 : Nat)) : Int) ∧ ((0 : Nat) = (0 : Nat) ∧ (q :: l).length = (1 : Nat) ∧ z = y.val.snd) ∧ True) ∧ ((q :: l).length = (1 : Nat) ∧ z =
    y.val.snd ∧ ∀ (i : Nat), i < (q :: l).length → [Value.int IntKind.u64 (↑((q :: l).getD i ((0 : Nat), (0 : Nat))).fst : Int), Value.int IntKind.i64 (↑((q :: l).getD i ((0 : Nat), (0
    : Nat))).snd : Int)] = [Value.int IntKind.u64 (↑([(segs g, node - (1 : Nat))].getD i ((0 : Nat), (0 : Nat))).fst : Int), Value.int IntKind.i64 (↑([(segs g, node - (1 : Nat))].getD i
    ((0 : Nat), (0 : Nat))).snd : Int)]) ∧ A.read = A.read ∧ True)))) ∧ True) ∧ True) ∧ True) ∧ True) ∧ True) ∧ (∀ (K : KO XE), (fun X0 : (Nat) → Prop => (((0 : Int) ≤ (↑g : Int) ∧ (↑g
    : Int) < (8 : Int)) ∧ ((↑g : Int).toNat < (8 : Nat) ∧ ((True ∧ True ∧ (1 : Nat) ≤ (1000000000 : Nat) ∧ ∀ (cap : Nat), (1 : Nat) ≤ cap → (X0 cap) ∧ True) ∧ True) ∧ True) ∧ True) ∧
    True → ((0 : Int) ≤ (↑g : Int) ∧ (↑g : Int) < (8 : Int)) ∧ (((↑g : Int).toNat < (8 : Nat) ∧ ((True ∧ True ∧ (1 : Nat) ≤ (1000000000 : Nat) ∧ ∀ (cap : Nat), (1 : Nat) ≤ cap → (X0
    cap) ∧ True) ∧ True) ∧ True) ∧ True) ∧ (∀ (K : KO XE), (fun X1 : (Nat) → Prop => ((↑g : Int).toNat < (8 : Nat) ∧ ((True ∧ True ∧ (1 : Nat) ≤ (1000000000 : Nat) ∧ ∀ (cap : Nat), (1 :
    Nat) ≤ cap → (X1 cap) ∧ True) ∧ True) ∧ True) ∧ True → (↑g : Int).toNat < (8 : Nat) ∧ (((True ∧ True ∧ (1 : Nat) ≤ (1000000000 : Nat) ∧ ∀ (cap : Nat), (1 : Nat) ≤ cap → (X1 cap) ∧
    True) ∧ True) ∧ True) ∧ (∀ (K : KO XE), (fun X2 : (Nat) → Prop => ((True ∧ True ∧ (1 : Nat) ≤ (1000000000 : Nat) ∧ ∀ (cap : Nat), (1 : Nat) ≤ cap → (X2 cap) ∧ True) ∧ True) ∧ True →
    ((True ∧ True ∧ (1 : Nat) ≤ (1000000000 : Nat) ∧ ∀ (cap : Nat), (1 : Nat) ≤ cap → (X2 cap) ∧ True) ∧ True) ∧ True) (fun (cap : Nat) => K (SF.mk (86 : Nat) (ST.node (SV.c (SC.ptr (0
    : Nat) (0 : Nat))) (ST.node (SV.tup []) (ST.node (SV.c (SC.boo false (inC (↑(Col.mk (1 : Nat) g node segs []).g : Int) (↑(Col.mk (1 : Nat) g node segs []).node : Int)))) (ST.node
    (SV.c (SC.boo false (inL (↑(Col.mk (1 : Nat) g node segs []).g : Int) (↑(Col.mk (1 : Nat) g node segs []).node : Int)))) (ST.node (SV.c (SC.ptr (0 : Nat) (4 : Nat))) (ST.node (SV.c
    (SC.ptr (0 : Nat) (0 : Nat))) (ST.node (SV.c (SC.boo false (inL (↑(Col.mk (1 : Nat) g node segs []).g : Int) (↑(Col.mk (1 : Nat) g node segs []).node : Int)))) ST.nil ST.nil)
    ST.nil) (ST.node (SV.tup [(false, [SC.int false IntKind.i64 (if inL (↑g : Int) (↑node : Int) = true then (↑node : Int) - (1 : Int) else (0 : Int)) (Bd.w (0 : Int) (254 : Int)
    (slot_bd._proof_3 (↑(Col.mk (1 : Nat) g node segs []).g : Int) (↑(Col.mk (1 : Nat) g node segs []).node : Int)))]), (false, [SC.boo false (inL (↑(Col.mk (1 : Nat) g node segs []).g
    : Int) (↑(Col.mk (1 : Nat) g node segs []).node : Int))])]) (ST.node (SV.agg [SC.int false IntKind.u64 ([(↑(segs (0 : Nat)) : Int), (↑(segs (1 : Nat)) : Int), (↑(segs (2 : Nat)) :
    Int), (↑(segs (3 : Nat)) : Int), (↑(segs (4 : Nat)) : Int), (↑(segs (5 : Nat)) : Int), (↑(segs (6 : Nat)) : Int), (↑(segs (7 : Nat)) : Int)].getD (↑g : Int).toNat (0 : Int)) Bd.any,
    SC.int false IntKind.i64 (if inL (↑g : Int) (↑node : Int) = true then (↑node : Int) - (1 : Int) else (0 : Int)) (Bd.w (0 : Int) (254 : Int) (slot_bd._proof_3 (↑(Col.mk (1 : Nat) g
    node segs []).g : Int) (↑(Col.mk (1 : Nat) g node segs []).node : Int)))]) ST.nil ST.nil) ST.nil)) (ST.node (SV.c (SC.ptr (0 : Nat) (0 : Nat))) (ST.node (SV.c (SC.ptr (0 : Nat) (0 :
    Nat))) (ST.node (SV.c (SC.ptr (0 : Nat) (0 : Nat))) ST.nil ST.nil) ST.nil) (ST.node (SV.tup []) ST.nil ST.nil))) (ST.node (SV.c (SC.ptr (0 : Nat) (0 : Nat))) (ST.node (SV.c (SC.ptr
    (0 : Nat) (0 : Nat))) (ST.node (SV.tup [(false, [SC.int false IntKind.u64 (↑(A.rd (if inC (↑g : Int) (↑node : Int) = true then [(↑(segs (0 : Nat)) : Int), (↑(segs (1 : Nat)) : Int),
    (↑(segs (2 : Nat)) : Int), (↑(segs (3 : Nat)) : Int), (↑(segs (4 : Nat)) : Int), (↑(segs (5 : Nat)) : Int), (↑(segs (6 : Nat)) : Int), (↑(segs (7 : Nat)) : Int)].getD (↑g :
    Int).toNat (0 : Int) else (0 : Int)) (if inC (↑g : Int) (↑node : Int) = true then (5 : Int) * (↑((2 : Nat) ^ (↑g : Int).toNat) : Int) + (↑node : Int) else (0 : Int))) : Int)
    Bd.any]), (false, [SC.int true IntKind.i64 (0 : Int)])]) (ST.node (SV.c (SC.ptr (0 : Nat) (12 : Nat))) ST.nil ST.nil) ST.nil) (ST.node (SV.tup []) (ST.node (SV.c (SC.ptr (0 : Nat)
    (12 : Nat))) ST.nil ST.nil) ST.nil)) (ST.node (SV.agg [SC.int false IntKind.u64 (if inC (↑g : Int) (↑node : Int) = true then [(↑(segs (0 : Nat)) : Int), (↑(segs (1 : Nat)) : Int),
    (↑(segs (2 : Nat)) : Int), (↑(segs (3 : Nat)) : Int), (↑(segs (4 : Nat)) : Int), (↑(segs (5 : Nat)) : Int), (↑(segs (6 : Nat)) : Int), (↑(segs (7 : Nat)) : Int)].getD (↑g :
    Int).toNat (0 : Int) else (0 : Int)) Bd.any, SC.int false IntKind.i64 (if inC (↑g : Int) (↑node : Int) = true then (5 : Int) * (↑((2 : Nat) ^ (↑g : Int).toNat) : Int) + (↑node :
    Int) else (0 : Int)) (Bd.w (0 : Int) (895 : Int) (counter_bd._proof_4 (↑(Col.mk (1 : Nat) g node segs []).g : Int) (↑(Col.mk (1 : Nat) g node segs []).node : Int)))]) (ST.node (SV.c
    (SC.ptr (0 : Nat) (0 : Nat))) (ST.node (SV.c (SC.ptr (0 : Nat) (4 : Nat))) ST.nil ST.nil) ST.nil) (ST.node (SV.c (SC.boo false ((↑(A.rd (if inC (↑(Col.mk (1 : Nat) g node segs []).g
    : Int) (↑(Col.mk (1 : Nat) g node segs []).node : Int) = true then [(↑((Col.mk (1 : Nat) g node segs []).segs (0 : Nat)) : Int), (↑((Col.mk (1 : Nat) g node segs []).segs (1 : Nat))
    : Int), (↑((Col.mk (1 : Nat) g node segs []).segs (2 : Nat)) : Int), (↑((Col.mk (1 : Nat) g node segs []).segs (3 : Nat)) : Int), (↑((Col.mk (1 : Nat) g node segs []).segs (4 :
    Nat)) : Int), (↑((Col.mk (1 : Nat) g node segs []).segs (5 : Nat)) : Int), (↑((Col.mk (1 : Nat) g node segs []).segs (6 : Nat)) : Int), (↑((Col.mk (1 : Nat) g node segs []).segs (7
    : Nat)) : Int)].getD (↑(Col.mk (1 : Nat) g node segs []).g : Int).toNat (0 : Int) else (0 : Int)) (if inC (↑(Col.mk (1 : Nat) g node segs []).g : Int) (↑(Col.mk (1 : Nat) g node
    segs []).node : Int) = true then (5 : Int) * (↑((2 : Nat) ^ (↑(Col.mk (1 : Nat) g node segs []).g : Int).toNat) : Int) + (↑(Col.mk (1 : Nat) g node segs []).node : Int) else (0 :
    Int))) : Int) == (0 : Int)))) ST.nil ST.nil)))) (ST.node (SV.c (SC.int true IntKind.i64 (0 : Int))) (ST.node (SV.c (SC.ptr (0 : Nat) (0 : Nat))) (ST.node (SV.c (SC.int false
    IntKind.u64 ([(↑(segs (0 : Nat)) : Int), (↑(segs (1 : Nat)) : Int), (↑(segs (2 : Nat)) : Int), (↑(segs (3 : Nat)) : Int), (↑(segs (4 : Nat)) : Int), (↑(segs (5 : Nat)) : Int),
    (↑(segs (6 : Nat)) : Int), (↑(segs (7 : Nat)) : Int)].getD (↑g : Int).toNat (0 : Int)) Bd.any)) (ST.node (SV.c (SC.ptr (1 : Nat) (0 : Nat))) (ST.node (SV.c (SC.ptr (0 : Nat) (0 :
    Nat))) ST.nil ST.nil) ST.nil) (ST.node (SV.c (SC.boo false (inL (↑(Col.mk (1 : Nat) g node segs []).g : Int) (↑(Col.mk (1 : Nat) g node segs []).node : Int)))) (ST.node (SV.c
    (SC.sli (187 : Nat) (2 : Nat) true (0 : Nat) true (1 : Nat) cap)) ST.nil ST.nil) ST.nil)) (ST.node (SV.c (SC.int false IntKind.i64 (↑node : Int) Bd.any)) (ST.node (SV.c (SC.ptr (0 :
    Nat) (2 : Nat))) (ST.node (SV.c (SC.int false IntKind.i64 (↑g : Int) Bd.any)) ST.nil ST.nil) ST.nil) (ST.node (SV.c (SC.boo true false)) ST.nil ST.nil))) (ST.node (SV.c (SC.int
    false IntKind.i64 (↑g : Int) Bd.any)) (ST.node (SV.c (SC.int false IntKind.i64 (↑g : Int) Bd.any)) (ST.node (SV.c (SC.int true IntKind.i64 (0 : Int))) (ST.node (SV.c (SC.ptr (0 :
    Nat) (0 : Nat))) ST.nil ST.nil) ST.nil) (ST.node (SV.tup []) (ST.node (SV.tup []) ST.nil ST.nil) ST.nil)) (ST.node (SV.tup [(false, [SC.int false IntKind.u64 (↑(A.rd (if inC (↑g :
    Int) (↑node : Int) = true then [(↑(segs (0 : Nat)) : Int), (↑(segs (1 : Nat)) : Int), (↑(segs (2 : Nat)) : Int), (↑(segs (3 : Nat)) : Int), (↑(segs (4 : Nat)) : Int), (↑(segs (5 :
    Nat)) : Int), (↑(segs (6 : Nat)) : Int), (↑(segs (7 : Nat)) : Int)].getD (↑g : Int).toNat (0 : Int) else (0 : Int)) (if inC (↑g : Int) (↑node : Int) = true then (5 : Int) * (↑((2 :
    Nat) ^ (↑g : Int).toNat) : Int) + (↑node : Int) else (0 : Int))) : Int) Bd.any]), (false, [SC.int true IntKind.i64 (0 : Int)])]) (ST.node (SV.c (SC.ptr (0 : Nat) (3 : Nat)))
    (ST.node (SV.c (SC.int false IntKind.u64 ([(↑(segs (0 : Nat)) : Int), (↑(segs (1 : Nat)) : Int), (↑(segs (2 : Nat)) : Int), (↑(segs (3 : Nat)) : Int), (↑(segs (4 : Nat)) : Int),
    (↑(segs (5 : Nat)) : Int), (↑(segs (6 : Nat)) : Int), (↑(segs (7 : Nat)) : Int)].getD (↑g : Int).toNat (0 : Int)) Bd.any)) ST.nil ST.nil) ST.nil) (ST.node (SV.tup []) ST.nil
    ST.nil))))) (ST.node (SV.c (SC.ptr (137 : Nat) (0 : Nat))) (ST.node (SV.c (SC.int false IntKind.u64 (↑(A.rd (if inC (↑g : Int) (↑node : Int) = true then [(↑(segs (0 : Nat)) : Int),
    (↑(segs (1 : Nat)) : Int), (↑(segs (2 : Nat)) : Int), (↑(segs (3 : Nat)) : Int), (↑(segs (4 : Nat)) : Int), (↑(segs (5 : Nat)) : Int), (↑(segs (6 : Nat)) : Int), (↑(segs (7 : Nat))
    : Int)].getD (↑g : Int).toNat (0 : Int) else (0 : Int)) (if inC (↑g : Int) (↑node : Int) = true then (5 : Int) * (↑((2 : Nat) ^ (↑g : Int).toNat) : Int) + (↑node : Int) else (0 :
    Int))) : Int) Bd.any)) (ST.node (SV.tup [(true, [SC.int false IntKind.u64 (if inC (↑g : Int) (↑node : Int) = true then [(↑(segs (0 : Nat)) : Int), (↑(segs (1 : Nat)) : Int), (↑(segs
    (2 : Nat)) : Int), (↑(segs (3 : Nat)) : Int), (↑(segs (4 : Nat)) : Int), (↑(segs (5 : Nat)) : Int), (↑(segs (6 : Nat)) : Int), (↑(segs (7 : Nat)) : Int)].getD (↑g : Int).toNat (0 :
    Int) else (0 : Int)) Bd.any, SC.int false IntKind.i64 (if inC (↑g : Int) (↑node : Int) = true then (5 : Int) * (↑((2 : Nat) ^ (↑g : Int).toNat) : Int) + (↑node : Int) else (0 :
    Int)) (Bd.w (0 : Int) (895 : Int) (counter_bd._proof_4 (↑(Col.mk (1 : Nat) g node segs []).g : Int) (↑(Col.mk (1 : Nat) g node segs []).node : Int)))]), (false, [SC.boo false (inC
    (↑(Col.mk (1 : Nat) g node segs []).g : Int) (↑(Col.mk (1 : Nat) g node segs []).node : Int))])]) (ST.node (SV.c (SC.elp (0 : Nat) (↑g : Int).toNat (1 : Nat) (4 : Nat))) (ST.node
    (SV.c (SC.ptr (0 : Nat) (1 : Nat))) (ST.node (SV.c (SC.ptr (0 : Nat) (0 : Nat))) ST.nil ST.nil) ST.nil) (ST.node (SV.c (SC.int false IntKind.i64 (if inL (↑g : Int) (↑node : Int) =
    true then (↑node : Int) - (1 : Int) else (0 : Int)) (Bd.w (0 : Int) (254 : Int) (slot_bd._proof_3 (↑(Col.mk (1 : Nat) g node segs []).g : Int) (↑(Col.mk (1 : Nat) g node segs
    []).node : Int))))) (ST.node (SV.c (SC.sli (186 : Nat) (2 : Nat) true (0 : Nat) true (1 : Nat) (1 : Nat))) ST.nil ST.nil) ST.nil)) (ST.node (SV.c (SC.ptr (0 : Nat) (3 : Nat)))
    (ST.node (SV.c (SC.ptr (0 : Nat) (0 : Nat))) (ST.node (SV.c (SC.ptr (0 : Nat) (2 : Nat))) ST.nil ST.nil) ST.nil) (ST.node (SV.tup []) ST.nil ST.nil))) (ST.node (SV.c (SC.ptr (0 :
    Nat) (2 : Nat))) (ST.node (SV.c (SC.ptr (0 : Nat) (2 : Nat))) (ST.node (SV.c (SC.int false IntKind.u64 (↑(A.rd (if inC (↑g : Int) (↑node : Int) = true then [(↑(segs (0 : Nat)) :
    Int), (↑(segs (1 : Nat)) : Int), (↑(segs (2 : Nat)) : Int), (↑(segs (3 : Nat)) : Int), (↑(segs (4 : Nat)) : Int), (↑(segs (5 : Nat)) : Int), (↑(segs (6 : Nat)) : Int), (↑(segs (7 :
    Nat)) : Int)].getD (↑g : Int).toNat (0 : Int) else (0 : Int)) (if inC (↑g : Int) (↑node : Int) = true then (5 : Int) * (↑((2 : Nat) ^ (↑g : Int).toNat) : Int) + (↑node : Int) else
    (0 : Int))) : Int) Bd.any)) (ST.node (SV.c SC.nls) ST.nil ST.nil) ST.nil) (ST.node (SV.tup []) (ST.node (SV.tup []) ST.nil ST.nil) ST.nil)) (ST.node (SV.c (SC.boo false (inC
    (↑(Col.mk (1 : Nat) g node segs []).g : Int) (↑(Col.mk (1 : Nat) g node segs []).node : Int)))) (ST.node (SV.c (SC.ptr (0 : Nat) (0 : Nat))) (ST.node (SV.c (SC.elp (0 : Nat) (↑g :
    Int).toNat (1 : Nat) (4 : Nat))) ST.nil ST.nil) ST.nil) (ST.node (SV.tup []) ST.nil ST.nil)))) (ST.node (SV.c (SC.int false IntKind.i64 (if inL (↑g : Int) (↑node : Int) = true then
    (↑node : Int) - (1 : Int) else (0 : Int)) (Bd.w (0 : Int) (254 : Int) (slot_bd._proof_3 (↑(Col.mk (1 : Nat) g node segs []).g : Int) (↑(Col.mk (1 : Nat) g node segs []).node :
    Int))))) (ST.node (SV.c (SC.ptr (0 : Nat) (0 : Nat))) (ST.node (SV.c (SC.ptr (0 : Nat) (0 : Nat))) (ST.node (SV.agg [SC.int false IntKind.u64 (if inC (↑g : Int) (↑node : Int) = true
    then [(↑(segs (0 : Nat)) : Int), (↑(segs (1 : Nat)) : Int), (↑(segs (2 : Nat)) : Int), (↑(segs (3 : Nat)) : Int), (↑(segs (4 : Nat)) : Int), (↑(segs (5 : Nat)) : Int), (↑(segs (6 :
    Nat)) : Int), (↑(segs (7 : Nat)) : Int)].getD (↑g : Int).toNat (0 : Int) else (0 : Int)) Bd.any, SC.int false IntKind.i64 (if inC (↑g : Int) (↑node : Int) = true then (5 : Int) *
    (↑((2 : Nat) ^ (↑g : Int).toNat) : Int) + (↑node : Int) else (0 : Int)) (Bd.w (0 : Int) (895 : Int) (counter_bd._proof_4 (↑(Col.mk (1 : Nat) g node segs []).g : Int) (↑(Col.mk (1 :
    Nat) g node segs []).node : Int)))]) (ST.node (SV.c (SC.ptr (0 : Nat) (0 : Nat))) ST.nil ST.nil) ST.nil) (ST.node (SV.tup []) (ST.node (SV.c (SC.ptr (0 : Nat) (0 : Nat))) ST.nil
    ST.nil) ST.nil)) (ST.node (SV.tup [(true, [SC.int false IntKind.u64 (if inC (↑g : Int) (↑node : Int) = true then [(↑(segs (0 : Nat)) : Int), (↑(segs (1 : Nat)) : Int), (↑(segs (2 :
    Nat)) : Int), (↑(segs (3 : Nat)) : Int), (↑(segs (4 : Nat)) : Int), (↑(segs (5 : Nat)) : Int), (↑(segs (6 : Nat)) : Int), (↑(segs (7 : Nat)) : Int)].getD (↑g : Int).toNat (0 : Int)
    else (0 : Int)) Bd.any, SC.int false IntKind.i64 (if inC (↑g : Int) (↑node : Int) = true then (5 : Int) * (↑((2 : Nat) ^ (↑g : Int).toNat) : Int) + (↑node : Int) else (0 : Int))
    (Bd.w (0 : Int) (895 : Int) (counter_bd._proof_4 (↑(Col.mk (1 : Nat) g node segs []).g : Int) (↑(Col.mk (1 : Nat) g node segs []).node : Int)))]), (false, [SC.boo false (inC
    (↑(Col.mk (1 : Nat) g node segs []).g : Int) (↑(Col.mk (1 : Nat) g node segs []).node : Int))])]) (ST.node (SV.c (SC.int false IntKind.i64 (↑g : Int) Bd.any)) (ST.node (SV.c (SC.ptr
    (0 : Nat) (0 : Nat))) ST.nil ST.nil) ST.nil) (ST.node (SV.c (SC.int false IntKind.u64 (↑(A.rd (if inC (↑g : Int) (↑node : Int) = true then [(↑(segs (0 : Nat)) : Int), (↑(segs (1 :
    Nat)) : Int), (↑(segs (2 : Nat)) : Int), (↑(segs (3 : Nat)) : Int), (↑(segs (4 : Nat)) : Int), (↑(segs (5 : Nat)) : Int), (↑(segs (6 : Nat)) : Int), (↑(segs (7 : Nat)) : Int)].getD
    (↑g : Int).toNat (0 : Int) else (0 : Int)) (if inC (↑g : Int) (↑node : Int) = true then (5 : Int) * (↑((2 : Nat) ^ (↑g : Int).toNat) : Int) + (↑node : Int) else (0 : Int))) : Int)
    Bd.any)) ST.nil ST.nil))) (ST.node (SV.c (SC.ptr (0 : Nat) (0 : Nat))) (ST.node (SV.c (SC.ptr (0 : Nat) (0 : Nat))) (ST.node (SV.tup [(false, [SC.int false IntKind.i64 (if inL (↑g :
    Int) (↑node : Int) = true then (↑node : Int) - (1 : Int) else (0 : Int)) (Bd.w (0 : Int) (254 : Int) (slot_bd._proof_3 (↑(Col.mk (1 : Nat) g node segs []).g : Int) (↑(Col.mk (1 :
    Nat) g node segs []).node : Int)))]), (false, [SC.boo false (inL (↑(Col.mk (1 : Nat) g node segs []).g : Int) (↑(Col.mk (1 : Nat) g node segs []).node : Int))])]) (ST.node (SV.c
    (SC.ptr (0 : Nat) (0 : Nat))) ST.nil ST.nil) ST.nil) (ST.node (SV.tup []) ST.nil ST.nil)) (ST.node (SV.c (SC.ptr (0 : Nat) (0 : Nat))) (ST.node (SV.c (SC.int false IntKind.i64
    (↑node : Int) Bd.any)) (ST.node (SV.c (SC.int false IntKind.i64 (if inL (↑g : Int) (↑node : Int) = true then (↑node : Int) - (1 : Int) else (0 : Int)) (Bd.w (0 : Int) (254 : Int)
    (slot_bd._proof_3 (↑(Col.mk (1 : Nat) g node segs []).g : Int) (↑(Col.mk (1 : Nat) g node segs []).node : Int))))) ST.nil ST.nil) ST.nil) (ST.node (SV.c (SC.boo true true)) ST.nil
    ST.nil)))))) []) (Mem.mk [((0 : Nat), SO.cells [SC.fn (Fn.func (OfNat.ofNat (164 : Nat))) [SC.ptr (0 : Nat) (0 : Nat)] [], SC.ptr (1 : Nat) (0 : Nat), SC.int false IntKind.i64 (↑g :
    Int) Bd.any, SC.int false IntKind.i64 (↑node : Int) Bd.any, SC.int false IntKind.u64 (↑(segs (0 : Nat)) : Int) Bd.any, SC.int false IntKind.u64 (↑(segs (1 : Nat)) : Int) Bd.any,
    SC.int false IntKind.u64 (↑(segs (2 : Nat)) : Int) Bd.any, SC.int false IntKind.u64 (↑(segs (3 : Nat)) : Int) Bd.any, SC.int false IntKind.u64 (↑(segs (4 : Nat)) : Int) Bd.any,
    SC.int false IntKind.u64 (↑(segs (5 : Nat)) : Int) Bd.any, SC.int false IntKind.u64 (↑(segs (6 : Nat)) : Int) Bd.any, SC.int false IntKind.u64 (↑(segs (7 : Nat)) : Int) Bd.any,
    SC.sli (187 : Nat) (2 : Nat) true (0 : Nat) true (1 : Nat) cap] (OfNat.ofNat (168 : Nat))), ((1 : Nat), SO.ext (XO.ar A.read)), ((137 : Nat), SO.cells [SC.int false IntKind.u64 (if
    inC (↑g : Int) (↑node : Int) = true then [(↑(segs (0 : Nat)) : Int), (↑(segs (1 : Nat)) : Int), (↑(segs (2 : Nat)) : Int), (↑(segs (3 : Nat)) : Int), (↑(segs (4 : Nat)) : Int),
    (↑(segs (5 : Nat)) : Int), (↑(segs (6 : Nat)) : Int), (↑(segs (7 : Nat)) : Int)].getD (↑g : Int).toNat (0 : Int) else (0 : Int)) Bd.any, SC.int false IntKind.i64 (if inC (↑g : Int)
    (↑node : Int) = true then (5 : Int) * (↑((2 : Nat) ^ (↑g : Int).toNat) : Int) + (↑node : Int) else (0 : Int)) (Bd.w (0 : Int) (895 : Int) (counter_bd._proof_4 (↑(Col.mk (1 : Nat) g
    node segs []).g : Int) (↑(Col.mk (1 : Nat) g node segs []).node : Int)))] (96 : Nat)), ((186 : Nat), SO.cells [SC.int false IntKind.u64 ([(↑(segs (0 : Nat)) : Int), (↑(segs (1 :
    Nat)) : Int), (↑(segs (2 : Nat)) : Int), (↑(segs (3 : Nat)) : Int), (↑(segs (4 : Nat)) : Int), (↑(segs (5 : Nat)) : Int), (↑(segs (6 : Nat)) : Int), (↑(segs (7 : Nat)) : Int)].getD
    (↑g : Int).toNat (0 : Int)) Bd.any, SC.int false IntKind.i64 (if inL (↑g : Int) (↑node : Int) = true then (↑node : Int) - (1 : Int) else (0 : Int)) (Bd.w (0 : Int) (254 : Int)
    (slot_bd._proof_3 (↑(Col.mk (1 : Nat) g node segs []).g : Int) (↑(Col.mk (1 : Nat) g node segs []).node : Int)))] (44 : Nat)), ((187 : Nat), SO.row (44 : Nat) (2 : Nat) (1 : Nat)
    cap [SC.int false IntKind.u64 ([(↑(segs (0 : Nat)) : Int), (↑(segs (1 : Nat)) : Int), (↑(segs (2 : Nat)) : Int), (↑(segs (3 : Nat)) : Int), (↑(segs (4 : Nat)) : Int), (↑(segs (5 :
    Nat)) : Int), (↑(segs (6 : Nat)) : Int), (↑(segs (7 : Nat)) : Int)].getD (↑g : Int).toNat (0 : Int)) Bd.any, SC.int false IntKind.i64 (if inL (↑g : Int) (↑node : Int) = true then
    (↑node : Int) - (1 : Int) else (0 : Int)) (Bd.w (0 : Int) (254 : Int) (slot_bd._proof_3 (↑(Col.mk (1 : Nat) g node segs []).g : Int) (↑(Col.mk (1 : Nat) g node segs []).node :
    Int)))])] (170 : Nat)) (onScr g segs [(segs g, node - (1 : Nat))] node))) ∧ True) (fun (cap : Nat) => K (SF.mk (86 : Nat) (ST.node (SV.c (SC.ptr (0 : Nat) (0 : Nat))) (ST.node
    (SV.tup []) (ST.node (SV.c (SC.boo false (inC (↑(Col.mk (1 : Nat) g node segs []).g : Int) (↑(Col.mk (1 : Nat) g node segs []).node : Int)))) (ST.node (SV.c (SC.boo false (inL
    (↑(Col.mk (1 : Nat) g node segs []).g : Int) (↑(Col.mk (1 : Nat) g node segs []).node : Int)))) (ST.node (SV.c (SC.ptr (0 : Nat) (4 : Nat))) (ST.node (SV.c (SC.ptr (0 : Nat) (0 :
    Nat))) (ST.node (SV.c (SC.boo false (inL (↑(Col.mk (1 : Nat) g node segs []).g : Int) (↑(Col.mk (1 : Nat) g node segs []).node : Int)))) ST.nil ST.nil) ST.nil) (ST.node (SV.tup
    [(false, [SC.int false IntKind.i64 (if inL (↑g : Int) (↑node : Int) = true then (↑node : Int) - (1 : Int) else (0 : Int)) (Bd.w (0 : Int) (254 : Int) (slot_bd._proof_3 (↑(Col.mk (1
    : Nat) g node segs []).g : Int) (↑(Col.mk (1 : Nat) g node segs []).node : Int)))]), (false, [SC.boo false (inL (↑(Col.mk (1 : Nat) g node segs []).g : Int) (↑(Col.mk (1 : Nat) g
    node segs []).node : Int))])]) (ST.node (SV.agg [SC.int false IntKind.u64 ([(↑(segs (0 : Nat)) : Int), (↑(segs (1 : Nat)) : Int), (↑(segs (2 : Nat)) : Int), (↑(segs (3 : Nat)) :
    Int), (↑(segs (4 : Nat)) : Int), (↑(segs (5 : Nat)) : Int), (↑(segs (6 : Nat)) : Int), (↑(segs (7 : Nat)) : Int)].getD (↑g : Int).toNat (0 : Int)) Bd.any, SC.int false IntKind.i64
    (if inL (↑g : Int) (↑node : Int) = true then (↑node : Int) - (1 : Int) else (0 : Int)) (Bd.w (0 : Int) (254 : Int) (slot_bd._proof_3 (↑(Col.mk (1 : Nat) g node segs []).g : Int)
    (↑(Col.mk (1 : Nat) g node segs []).node : Int)))]) ST.nil ST.nil) ST.nil)) (ST.node (SV.c (SC.ptr (0 : Nat) (0 : Nat))) (ST.node (SV.c (SC.ptr (0 : Nat) (0 : Nat))) (ST.node (SV.c
    (SC.ptr (0 : Nat) (0 : Nat))) ST.nil ST.nil) ST.nil) (ST.node (SV.tup []) ST.nil ST.nil))) (ST.node (SV.c (SC.ptr (0 : Nat) (0 : Nat))) (ST.node (SV.c (SC.ptr (0 : Nat) (0 : Nat)))
    (ST.node (SV.tup [(false, [SC.int false IntKind.u64 (↑(A.rd (if inC (↑g : Int) (↑node : Int) = true then [(↑(segs (0 : Nat)) : Int), (↑(segs (1 : Nat)) : Int), (↑(segs (2 : Nat)) :
    Int), (↑(segs (3 : Nat)) : Int), (↑(segs (4 : Nat)) : Int), (↑(segs (5 : Nat)) : Int), (↑(segs (6 : Nat)) : Int), (↑(segs (7 : Nat)) : Int)].getD (↑g : Int).toNat (0 : Int) else (0
    : Int)) (if inC (↑g : Int) (↑node : Int) = true then (5 : Int) * (↑((2 : Nat) ^ (↑g : Int).toNat) : Int) + (↑node : Int) else (0 : Int))) : Int) Bd.any]), (false, [SC.int true
    IntKind.i64 (0 : Int)])]) (ST.node (SV.c (SC.ptr (0 : Nat) (12 : Nat))) ST.nil ST.nil) ST.nil) (ST.node (SV.tup []) (ST.node (SV.c (SC.ptr (0 : Nat) (12 : Nat))) ST.nil ST.nil)
    ST.nil)) (ST.node (SV.agg [SC.int false IntKind.u64 (if inC (↑g : Int) (↑node : Int) = true then [(↑(segs (0 : Nat)) : Int), (↑(segs (1 : Nat)) : Int), (↑(segs (2 : Nat)) : Int),
    (↑(segs (3 : Nat)) : Int), (↑(segs (4 : Nat)) : Int), (↑(segs (5 : Nat)) : Int), (↑(segs (6 : Nat)) : Int), (↑(segs (7 : Nat)) : Int)].getD (↑g : Int).toNat (0 : Int) else (0 :
    Int)) Bd.any, SC.int false IntKind.i64 (if inC (↑g : Int) (↑node : Int) = true then (5 : Int) * (↑((2 : Nat) ^ (↑g : Int).toNat) : Int) + (↑node : Int) else (0 : Int)) (Bd.w (0 :
    Int) (895 : Int) (counter_bd._proof_4 (↑(Col.mk (1 : Nat) g node segs []).g : Int) (↑(Col.mk (1 : Nat) g node segs []).node : Int)))]) (ST.node (SV.c (SC.ptr (0 : Nat) (0 : Nat)))
    (ST.node (SV.c (SC.ptr (0 : Nat) (4 : Nat))) ST.nil ST.nil) ST.nil) (ST.node (SV.c (SC.boo false ((↑(A.rd (if inC (↑(Col.mk (1 : Nat) g node segs []).g : Int) (↑(Col.mk (1 : Nat) g
    node segs []).node : Int) = true then [(↑((Col.mk (1 : Nat) g node segs []).segs (0 : Nat)) : Int), (↑((Col.mk (1 : Nat) g node segs []).segs (1 : Nat)) : Int), (↑((Col.mk (1 : Nat)
    g node segs []).segs (2 : Nat)) : Int), (↑((Col.mk (1 : Nat) g node segs []).segs (3 : Nat)) : Int), (↑((Col.mk (1 : Nat) g node segs []).segs (4 : Nat)) : Int), (↑((Col.mk (1 :
    Nat) g node segs []).segs (5 : Nat)) : Int), (↑((Col.mk (1 : Nat) g node segs []).segs (6 : Nat)) : Int), (↑((Col.mk (1 : Nat) g node segs []).segs (7 : Nat)) : Int)].getD (↑(Col.mk
    (1 : Nat) g node segs []).g : Int).toNat (0 : Int) else (0 : Int)) (if inC (↑(Col.mk (1 : Nat) g node segs []).g : Int) (↑(Col.mk (1 : Nat) g node segs []).node : Int) = true then
    (5 : Int) * (↑((2 : Nat) ^ (↑(Col.mk (1 : Nat) g node segs []).g : Int).toNat) : Int) + (↑(Col.mk (1 : Nat) g node segs []).node : Int) else (0 : Int))) : Int) == (0 : Int))))
    ST.nil ST.nil)))) (ST.node (SV.c (SC.int true IntKind.i64 (0 : Int))) (ST.node (SV.c (SC.ptr (0 : Nat) (0 : Nat))) (ST.node (SV.c (SC.int false IntKind.u64 ([(↑(segs (0 : Nat)) :
    Int), (↑(segs (1 : Nat)) : Int), (↑(segs (2 : Nat)) : Int), (↑(segs (3 : Nat)) : Int), (↑(segs (4 : Nat)) : Int), (↑(segs (5 : Nat)) : Int), (↑(segs (6 : Nat)) : Int), (↑(segs (7 :
    Nat)) : Int)].getD (↑g : Int).toNat (0 : Int)) Bd.any)) (ST.node (SV.c (SC.ptr (1 : Nat) (0 : Nat))) (ST.node (SV.c (SC.ptr (0 : Nat) (0 : Nat))) ST.nil ST.nil) ST.nil) (ST.node
    (SV.c (SC.boo false (inL (↑(Col.mk (1 : Nat) g node segs []).g : Int) (↑(Col.mk (1 : Nat) g node segs []).node : Int)))) (ST.node (SV.c (SC.sli (187 : Nat) (2 : Nat) true (0 : Nat)
    true (1 : Nat) cap)) ST.nil ST.nil) ST.nil)) (ST.node (SV.c (SC.int false IntKind.i64 (↑node : Int) Bd.any)) (ST.node (SV.c (SC.ptr (0 : Nat) (2 : Nat))) (ST.node (SV.c (SC.int
    false IntKind.i64 (↑g : Int) Bd.any)) ST.nil ST.nil) ST.nil) (ST.node (SV.c (SC.boo true false)) ST.nil ST.nil))) (ST.node (SV.c (SC.int false IntKind.i64 (↑g : Int) Bd.any))
    (ST.node (SV.c (SC.int false IntKind.i64 (↑g : Int) Bd.any)) (ST.node (SV.c (SC.int true IntKind.i64 (0 : Int))) (ST.node (SV.c (SC.ptr (0 : Nat) (0 : Nat))) ST.nil ST.nil) ST.nil)
    (ST.node (SV.tup []) (ST.node (SV.tup []) ST.nil ST.nil) ST.nil)) (ST.node (SV.tup [(false, [SC.int false IntKind.u64 (↑(A.rd (if inC (↑g : Int) (↑node : Int) = true then [(↑(segs
    (0 : Nat)) : Int), (↑(segs (1 : Nat)) : Int), (↑(segs (2 : Nat)) : Int), (↑(segs (3 : Nat)) : Int), (↑(segs (4 : Nat)) : Int), (↑(segs (5 : Nat)) : Int), (↑(segs (6 : Nat)) : Int),
    (↑(segs (7 : Nat)) : Int)].getD (↑g : Int).toNat (0 : Int) else (0 : Int)) (if inC (↑g : Int) (↑node : Int) = true then (5 : Int) * (↑((2 : Nat) ^ (↑g : Int).toNat) : Int) + (↑node
    : Int) else (0 : Int))) : Int) Bd.any]), (false, [SC.int true IntKind.i64 (0 : Int)])]) (ST.node (SV.c (SC.ptr (0 : Nat) (3 : Nat))) (ST.node (SV.c (SC.int false IntKind.u64
    ([(↑(segs (0 : Nat)) : Int), (↑(segs (1 : Nat)) : Int), (↑(segs (2 : Nat)) : Int), (↑(segs (3 : Nat)) : Int), (↑(segs (4 : Nat)) : Int), (↑(segs (5 : Nat)) : Int), (↑(segs (6 :
    Nat)) : Int), (↑(segs (7 : Nat)) : Int)].getD (↑g : Int).toNat (0 : Int)) Bd.any)) ST.nil ST.nil) ST.nil) (ST.node (SV.tup []) ST.nil ST.nil))))) (ST.node (SV.c (SC.ptr (137 : Nat)
    (0 : Nat))) (ST.node (SV.c (SC.int false IntKind.u64 (↑(A.rd (if inC (↑g : Int) (↑node : Int) = true then [(↑(segs (0 : Nat)) : Int), (↑(segs (1 : Nat)) : Int), (↑(segs (2 : Nat)) :
    Int), (↑(segs (3 : Nat)) : Int), (↑(segs (4 : Nat)) : Int), (↑(segs (5 : Nat)) : Int), (↑(segs (6 : Nat)) : Int), (↑(segs (7 : Nat)) : Int)].getD (↑g : Int).toNat (0 : Int) else (0
    : Int)) (if inC (↑g : Int) (↑node : Int) = true then (5 : Int) * (↑((2 : Nat) ^ (↑g : Int).toNat) : Int) + (↑node : Int) else (0 : Int))) : Int) Bd.any)) (ST.node (SV.tup [(true,
    [SC.int false IntKind.u64 (if inC (↑g : Int) (↑node : Int) = true then [(↑(segs (0 : Nat)) : Int), (↑(segs (1 : Nat)) : Int), (↑(segs (2 : Nat)) : Int), (↑(segs (3 : Nat)) : Int),
    (↑(segs (4 : Nat)) : Int), (↑(segs (5 : Nat)) : Int), (↑(segs (6 : Nat)) : Int), (↑(segs (7 : Nat)) : Int)].getD (↑g : Int).toNat (0 : Int) else (0 : Int)) Bd.any, SC.int false
    IntKind.i64 (if inC (↑g : Int) (↑node : Int) = true then (5 : Int) * (↑((2 : Nat) ^ (↑g : Int).toNat) : Int) + (↑node : Int) else (0 : Int)) (Bd.w (0 : Int) (895 : Int)
    (counter_bd._proof_4 (↑(Col.mk (1 : Nat) g node segs []).g : Int) (↑(Col.mk (1 : Nat) g node segs []).node : Int)))]), (false, [SC.boo false (inC (↑(Col.mk (1 : Nat) g node segs
    []).g : Int) (↑(Col.mk (1 : Nat) g node segs []).node : Int))])]) (ST.node (SV.c (SC.elp (0 : Nat) (↑g : Int).toNat (1 : Nat) (4 : Nat))) (ST.node (SV.c (SC.ptr (0 : Nat) (1 :
    Nat))) (ST.node (SV.c (SC.ptr (0 : Nat) (0 : Nat))) ST.nil ST.nil) ST.nil) (ST.node (SV.c (SC.int false IntKind.i64 (if inL (↑g : Int) (↑node : Int) = true then (↑node : Int) - (1 :
    Int) else (0 : Int)) (Bd.w (0 : Int) (254 : Int) (slot_bd._proof_3 (↑(Col.mk (1 : Nat) g node segs []).g : Int) (↑(Col.mk (1 : Nat) g node segs []).node : Int))))) (ST.node (SV.c
    (SC.sli (186 : Nat) (2 : Nat) true (0 : Nat) true (1 : Nat) (1 : Nat))) ST.nil ST.nil) ST.nil)) (ST.node (SV.c (SC.ptr (0 : Nat) (3 : Nat))) (ST.node (SV.c (SC.ptr (0 : Nat) (0 :
    Nat))) (ST.node (SV.c (SC.ptr (0 : Nat) (2 : Nat))) ST.nil ST.nil) ST.nil) (ST.node (SV.tup []) ST.nil ST.nil))) (ST.node (SV.c (SC.ptr (0 : Nat) (2 : Nat))) (ST.node (SV.c (SC.ptr
    (0 : Nat) (2 : Nat))) (ST.node (SV.c (SC.int false IntKind.u64 (↑(A.rd (if inC (↑g : Int) (↑node : Int) = true then [(↑(segs (0 : Nat)) : Int), (↑(segs (1 : Nat)) : Int), (↑(segs (2
    : Nat)) : Int), (↑(segs (3 : Nat)) : Int), (↑(segs (4 : Nat)) : Int), (↑(segs (5 : Nat)) : Int), (↑(segs (6 : Nat)) : Int), (↑(segs (7 : Nat)) : Int)].getD (↑g : Int).toNat (0 :
    Int) else (0 : Int)) (if inC (↑g : Int) (↑node : Int) = true then (5 : Int) * (↑((2 : Nat) ^ (↑g : Int).toNat) : Int) + (↑node : Int) else (0 : Int))) : Int) Bd.any)) (ST.node (SV.c
    SC.nls) ST.nil ST.nil) ST.nil) (ST.node (SV.tup []) (ST.node (SV.tup []) ST.nil ST.nil) ST.nil)) (ST.node (SV.c (SC.boo false (inC (↑(Col.mk (1 : Nat) g node segs []).g : Int)
    (↑(Col.mk (1 : Nat) g node segs []).node : Int)))) (ST.node (SV.c (SC.ptr (0 : Nat) (0 : Nat))) (ST.node (SV.c (SC.elp (0 : Nat) (↑g : Int).toNat (1 : Nat) (4 : Nat))) ST.nil
    ST.nil) ST.nil) (ST.node (SV.tup []) ST.nil ST.nil)))) (ST.node (SV.c (SC.int false IntKind.i64 (if inL (↑g : Int) (↑node : Int) = true then (↑node : Int) - (1 : Int) else (0 :
    Int)) (Bd.w (0 : Int) (254 : Int) (slot_bd._proof_3 (↑(Col.mk (1 : Nat) g node segs []).g : Int) (↑(Col.mk (1 : Nat) g node segs []).node : Int))))) (ST.node (SV.c (SC.ptr (0 : Nat)
    (0 : Nat))) (ST.node (SV.c (SC.ptr (0 : Nat) (0 : Nat))) (ST.node (SV.agg [SC.int false IntKind.u64 (if inC (↑g : Int) (↑node : Int) = true then [(↑(segs (0 : Nat)) : Int), (↑(segs
    (1 : Nat)) : Int), (↑(segs (2 : Nat)) : Int), (↑(segs (3 : Nat)) : Int), (↑(segs (4 : Nat)) : Int), (↑(segs (5 : Nat)) : Int), (↑(segs (6 : Nat)) : Int), (↑(segs (7 : Nat)) :
    Int)].getD (↑g : Int).toNat (0 : Int) else (0 : Int)) Bd.any, SC.int false IntKind.i64 (if inC (↑g : Int) (↑node : Int) = true then (5 : Int) * (↑((2 : Nat) ^ (↑g : Int).toNat) :
    Int) + (↑node : Int) else (0 : Int)) (Bd.w (0 : Int) (895 : Int) (counter_bd._proof_4 (↑(Col.mk (1 : Nat) g node segs []).g : Int) (↑(Col.mk (1 : Nat) g node segs []).node :
    Int)))]) (ST.node (SV.c (SC.ptr (0 : Nat) (0 : Nat))) ST.nil ST.nil) ST.nil) (ST.node (SV.tup []) (ST.node (SV.c (SC.ptr (0 : Nat) (0 : Nat))) ST.nil ST.nil) ST.nil)) (ST.node
    (SV.tup [(true, [SC.int false IntKind.u64 (if inC (↑g : Int) (↑node : Int) = true then [(↑(segs (0 : Nat)) : Int), (↑(segs (1 : Nat)) : Int), (↑(segs (2 : Nat)) : Int), (↑(segs (3 :
    Nat)) : Int), (↑(segs (4 : Nat)) : Int), (↑(segs (5 : Nat)) : Int), (↑(segs (6 : Nat)) : Int), (↑(segs (7 : Nat)) : Int)].getD (↑g : Int).toNat (0 : Int) else (0 : Int)) Bd.any,
    SC.int false IntKind.i64 (if inC (↑g : Int) (↑node : Int) = true then (5 : Int) * (↑((2 : Nat) ^ (↑g : Int).toNat) : Int) + (↑node : Int) else (0 : Int)) (Bd.w (0 : Int) (895 : Int)
    (counter_bd._proof_4 (↑(Col.mk (1 : Nat) g node segs []).g : Int) (↑(Col.mk (1 : Nat) g node segs []).node : Int)))]), (false, [SC.boo false (inC (↑(Col.mk (1 : Nat) g node segs
    []).g : Int) (↑(Col.mk (1 : Nat) g node segs []).node : Int))])]) (ST.node (SV.c (SC.int false IntKind.i64 (↑g : Int) Bd.any)) (ST.node (SV.c (SC.ptr (0 : Nat) (0 : Nat))) ST.nil
    ST.nil) ST.nil) (ST.node (SV.c (SC.int false IntKind.u64 (↑(A.rd (if inC (↑g : Int) (↑node : Int) = true then [(↑(segs (0 : Nat)) : Int), (↑(segs (1 : Nat)) : Int), (↑(segs (2 :
    Nat)) : Int), (↑(segs (3 : Nat)) : Int), (↑(segs (4 : Nat)) : Int), (↑(segs (5 : Nat)) : Int), (↑(segs (6 : Nat)) : Int), (↑(segs (7 : Nat)) : Int)].getD (↑g : Int).toNat (0 : Int)
    else (0 : Int)) (if inC (↑g : Int) (↑node : Int) = true then (5 : Int) * (↑((2 : Nat) ^ (↑g : Int).toNat) : Int) + (↑node : Int) else (0 : Int))) : Int) Bd.any)) ST.nil ST.nil)))
    (ST.node (SV.c (SC.ptr (0 : Nat) (0 : Nat))) (ST.node (SV.c (SC.ptr (0 : Nat) (0 : Nat))) (ST.node (SV.tup [(false, [SC.int false IntKind.i64 (if inL (↑g : Int) (↑node : Int) = true
    then (↑node : Int) - (1 : Int) else (0 : Int)) (Bd.w (0 : Int) (254 : Int) (slot_bd._proof_3 (↑(Col.mk (1 : Nat) g node segs []).g : Int) (↑(Col.mk (1 : Nat) g node segs []).node :
    Int)))]), (false, [SC.boo false (inL (↑(Col.mk (1 : Nat) g node segs []).g : Int) (↑(Col.mk (1 : Nat) g node segs []).node : Int))])]) (ST.node (SV.c (SC.ptr (0 : Nat) (0 : Nat)))
    ST.nil ST.nil) ST.nil) (ST.node (SV.tup []) ST.nil ST.nil)) (ST.node (SV.c (SC.ptr (0 : Nat) (0 : Nat))) (ST.node (SV.c (SC.int false IntKind.i64 (↑node : Int) Bd.any)) (ST.node
    (SV.c (SC.int false IntKind.i64 (if inL (↑g : Int) (↑node : Int) = true then (↑node : Int) - (1 : Int) else (0 : Int)) (Bd.w (0 : Int) (254 : Int) (slot_bd._proof_3 (↑(Col.mk (1 :
    Nat) g node segs []).g : Int) (↑(Col.mk (1 : Nat) g node segs []).node : Int))))) ST.nil ST.nil) ST.nil) (ST.node (SV.c (SC.boo true true)) ST.nil ST.nil)))))) []) (Mem.mk [((0 :
    Nat), SO.cells [SC.fn (Fn.func (OfNat.ofNat (164 : Nat))) [SC.ptr (0 : Nat) (0 : Nat)] [], SC.ptr (1 : Nat) (0 : Nat), SC.int false IntKind.i64 (↑g : Int) Bd.any, SC.int false
    IntKind.i64 (↑node : Int) Bd.any, SC.int false IntKind.u64 (↑(segs (0 : Nat)) : Int) Bd.any, SC.int false IntKind.u64 (↑(segs (1 : Nat)) : Int) Bd.any, SC.int false IntKind.u64
    (↑(segs (2 : Nat)) : Int) Bd.any, SC.int false IntKind.u64 (↑(segs (3 : Nat)) : Int) Bd.any, SC.int false IntKind.u64 (↑(segs (4 : Nat)) : Int) Bd.any, SC.int false IntKind.u64
    (↑(segs (5 : Nat)) : Int) Bd.any, SC.int false IntKind.u64 (↑(segs (6 : Nat)) : Int) Bd.any, SC.int false IntKind.u64 (↑(segs (7 : Nat)) : Int) Bd.any, SC.sli (187 : Nat) (2 : Nat)
    true (0 : Nat) true (1 : Nat) cap] (OfNat.ofNat (168 : Nat))), ((1 : Nat), SO.ext (XO.ar A.read)), ((137 : Nat), SO.cells [SC.int false IntKind.u64 (if inC (↑g : Int) (↑node : Int)
    = true then [(↑(segs (0 : Nat)) : Int), (↑(segs (1 : Nat)) : Int), (↑(segs (2 : Nat)) : Int), (↑(segs (3 : Nat)) : Int), (↑(segs (4 : Nat)) : Int), (↑(segs (5 : Nat)) : Int),
    (↑(segs (6 : Nat)) : Int), (↑(segs (7 : Nat)) : Int)].getD (↑g : Int).toNat (0 : Int) else (0 : Int)) Bd.any, SC.int false IntKind.i64 (if inC (↑g : Int) (↑node : Int) = true then
    (5 : Int) * (↑((2 : Nat) ^ (↑g : Int).toNat) : Int) + (↑node : Int) else (0 : Int)) (Bd.w (0 : Int) (895 : Int) (counter_bd._proof_4 (↑(Col.mk (1 : Nat) g node segs []).g : Int)
    (↑(Col.mk (1 : Nat) g node segs []).node : Int)))] (96 : Nat)), ((186 : Nat), SO.cells [SC.int false IntKind.u64 ([(↑(segs (0 : Nat)) : Int), (↑(segs (1 : Nat)) : Int), (↑(segs (2 :
    Nat)) : Int), (↑(segs (3 : Nat)) : Int), (↑(segs (4 : Nat)) : Int), (↑(segs (5 : Nat)) : Int), (↑(segs (6 : Nat)) : Int), (↑(segs (7 : Nat)) : Int)].getD (↑g : Int).toNat (0 : Int))
    Bd.any, SC.int false IntKind.i64 (if inL (↑g : Int) (↑node : Int) = true then (↑node : Int) - (1 : Int) else (0 : Int)) (Bd.w (0 : Int) (254 : Int) (slot_bd._proof_3 (↑(Col.mk (1 :
    Nat) g node segs []).g : Int) (↑(Col.mk (1 : Nat) g node segs []).node : Int)))] (44 : Nat)), ((187 : Nat), SO.row (44 : Nat) (2 : Nat) (1 : Nat) cap [SC.int false IntKind.u64
    ([(↑(segs (0 : Nat)) : Int), (↑(segs (1 : Nat)) : Int), (↑(segs (2 : Nat)) : Int), (↑(segs (3 : Nat)) : Int), (↑(segs (4 : Nat)) : Int), (↑(segs (5 : Nat)) : Int), (↑(segs (6 :
    Nat)) : Int), (↑(segs (7 : Nat)) : Int)].getD (↑g : Int).toNat (0 : Int)) Bd.any, SC.int false IntKind.i64 (if inL (↑g : Int) (↑node : Int) = true then (↑node : Int) - (1 : Int)
    else (0 : Int)) (Bd.w (0 : Int) (254 : Int) (slot_bd._proof_3 (↑(Col.mk (1 : Nat) g node segs []).g : Int) (↑(Col.mk (1 : Nat) g node segs []).node : Int)))])] (170 : Nat)) (onScr g
    segs [(segs g, node - (1 : Nat))] node))) ∧ True) (fun (cap : Nat) => K (SF.mk (86 : Nat) (ST.node (SV.c (SC.ptr (0 : Nat) (0 : Nat))) (ST.node (SV.tup []) (ST.node (SV.c (SC.boo
    false (inC (↑(Col.mk (1 : Nat) g node segs []).g : Int) (↑(Col.mk (1 : Nat) g node segs []).node : Int)))) (ST.node (SV.c (SC.boo false (inL (↑(Col.mk (1 : Nat) g node segs []).g :
    Int) (↑(Col.mk (1 : Nat) g node segs []).node : Int)))) (ST.node (SV.c (SC.ptr (0 : Nat) (4 : Nat))) (ST.node (SV.c (SC.ptr (0 : Nat) (0 : Nat))) (ST.node (SV.c (SC.boo false (inL
    (↑(Col.mk (1 : Nat) g node segs []).g : Int) (↑(Col.mk (1 : Nat) g node segs []).node : Int)))) ST.nil ST.nil) ST.nil) (ST.node (SV.tup [(false, [SC.int false IntKind.i64 (if inL
    (↑g : Int) (↑node : Int) = true then (↑node : Int) - (1 : Int) else (0 : Int)) (Bd.w (0 : Int) (254 : Int) (slot_bd._proof_3 (↑(Col.mk (1 : Nat) g node segs []).g : Int) (↑(Col.mk
    (1 : Nat) g node segs []).node : Int)))]), (false, [SC.boo false (inL (↑(Col.mk (1 : Nat) g node segs []).g : Int) (↑(Col.mk (1 : Nat) g node segs []).node : Int))])]) (ST.node
    (SV.agg [SC.int false IntKind.u64 ([(↑(segs (0 : Nat)) : Int), (↑(segs (1 : Nat)) : Int), (↑(segs (2 : Nat)) : Int), (↑(segs (3 : Nat)) : Int), (↑(segs (4 : Nat)) : Int), (↑(segs (5
    : Nat)) : Int), (↑(segs (6 : Nat)) : Int), (↑(segs (7 : Nat)) : Int)].getD (↑g : Int).toNat (0 : Int)) Bd.any, SC.int false IntKind.i64 (if inL (↑g : Int) (↑node : Int) = true then
    (↑node : Int) - (1 : Int) else (0 : Int)) (Bd.w (0 : Int) (254 : Int) (slot_bd._proof_3 (↑(Col.mk (1 : Nat) g node segs []).g : Int) (↑(Col.mk (1 : Nat) g node segs []).node :
    Int)))]) ST.nil ST.nil) ST.nil)) (ST.node (SV.c (SC.ptr (0 : Nat) (0 : Nat))) (ST.node (SV.c (SC.ptr (0 : Nat) (0 : Nat))) (ST.node (SV.c (SC.ptr (0 : Nat) (0 : Nat))) ST.nil
    ST.nil) ST.nil) (ST.node (SV.tup []) ST.nil ST.nil))) (ST.node (SV.c (SC.ptr (0 : Nat) (0 : Nat))) (ST.node (SV.c (SC.ptr (0 : Nat) (0 : Nat))) (ST.node (SV.tup [(false, [SC.int
    false IntKind.u64 (↑(A.rd (if inC (↑g : Int) (↑node : Int) = true then [(↑(segs (0 : Nat)) : Int), (↑(segs (1 : Nat)) : Int), (↑(segs (2 : Nat)) : Int), (↑(segs (3 : Nat)) : Int),
    (↑(segs (4 : Nat)) : Int), (↑(segs (5 : Nat)) : Int), (↑(segs (6 : Nat)) : Int), (↑(segs (7 : Nat)) : Int)].getD (↑g : Int).toNat (0 : Int) else (0 : Int)) (if inC (↑g : Int) (↑node
    : Int) = true then (5 : Int) * (↑((2 : Nat) ^ (↑g : Int).toNat) : Int) + (↑node : Int) else (0 : Int))) : Int) Bd.any]), (false, [SC.int true IntKind.i64 (0 : Int)])]) (ST.node
    (SV.c (SC.ptr (0 : Nat) (12 : Nat))) ST.nil ST.nil) ST.nil) (ST.node (SV.tup []) (ST.node (SV.c (SC.ptr (0 : Nat) (12 : Nat))) ST.nil ST.nil) ST.nil)) (ST.node (SV.agg [SC.int false
    IntKind.u64 (if inC (↑g : Int) (↑node : Int) = true then [(↑(segs (0 : Nat)) : Int), (↑(segs (1 : Nat)) : Int), (↑(segs (2 : Nat)) : Int), (↑(segs (3 : Nat)) : Int), (↑(segs (4 :
    Nat)) : Int), (↑(segs (5 : Nat)) : Int), (↑(segs (6 : Nat)) : Int), (↑(segs (7 : Nat)) : Int)].getD (↑g : Int).toNat (0 : Int) else (0 : Int)) Bd.any, SC.int false IntKind.i64 (if
    inC (↑g : Int) (↑node : Int) = true then (5 : Int) * (↑((2 : Nat) ^ (↑g : Int).toNat) : Int) + (↑node : Int) else (0 : Int)) (Bd.w (0 : Int) (895 : Int) (counter_bd._proof_4
    (↑(Col.mk (1 : Nat) g node segs []).g : Int) (↑(Col.mk (1 : Nat) g node segs []).node : Int)))]) (ST.node (SV.c (SC.ptr (0 : Nat) (0 : Nat))) (ST.node (SV.c (SC.ptr (0 : Nat) (4 :
    Nat))) ST.nil ST.nil) ST.nil) (ST.node (SV.c (SC.boo false ((↑(A.rd (if inC (↑(Col.mk (1 : Nat) g node segs []).g : Int) (↑(Col.mk (1 : Nat) g node segs []).node : Int) = true then
    [(↑((Col.mk (1 : Nat) g node segs []).segs (0 : Nat)) : Int), (↑((Col.mk (1 : Nat) g node segs []).segs (1 : Nat)) : Int), (↑((Col.mk (1 : Nat) g node segs []).segs (2 : Nat)) :
    Int), (↑((Col.mk (1 : Nat) g node segs []).segs (3 : Nat)) : Int), (↑((Col.mk (1 : Nat) g node segs []).segs (4 : Nat)) : Int), (↑((Col.mk (1 : Nat) g node segs []).segs (5 : Nat))
    : Int), (↑((Col.mk (1 : Nat) g node segs []).segs (6 : Nat)) : Int), (↑((Col.mk (1 : Nat) g node segs []).segs (7 : Nat)) : Int)].getD (↑(Col.mk (1 : Nat) g node segs []).g :
    Int).toNat (0 : Int) else (0 : Int)) (if inC (↑(Col.mk (1 : Nat) g node segs []).g : Int) (↑(Col.mk (1 : Nat) g node segs []).node : Int) = true then (5 : Int) * (↑((2 : Nat) ^
    (↑(Col.mk (1 : Nat) g node segs []).g : Int).toNat) : Int) + (↑(Col.mk (1 : Nat) g node segs []).node : Int) else (0 : Int))) : Int) == (0 : Int)))) ST.nil ST.nil)))) (ST.node (SV.c
    (SC.int true IntKind.i64 (0 : Int))) (ST.node (SV.c (SC.ptr (0 : Nat) (0 : Nat))) (ST.node (SV.c (SC.int false IntKind.u64 ([(↑(segs (0 : Nat)) : Int), (↑(segs (1 : Nat)) : Int),
    (↑(segs (2 : Nat)) : Int), (↑(segs (3 : Nat)) : Int), (↑(segs (4 : Nat)) : Int), (↑(segs (5 : Nat)) : Int), (↑(segs (6 : Nat)) : Int), (↑(segs (7 : Nat)) : Int)].getD (↑g :
    Int).toNat (0 : Int)) Bd.any)) (ST.node (SV.c (SC.ptr (1 : Nat) (0 : Nat))) (ST.node (SV.c (SC.ptr (0 : Nat) (0 : Nat))) ST.nil ST.nil) ST.nil) (ST.node (SV.c (SC.boo false (inL
    (↑(Col.mk (1 : Nat) g node segs []).g : Int) (↑(Col.mk (1 : Nat) g node segs []).node : Int)))) (ST.node (SV.c (SC.sli (187 : Nat) (2 : Nat) true (0 : Nat) true (1 : Nat) cap))
    ST.nil ST.nil) ST.nil)) (ST.node (SV.c (SC.int false IntKind.i64 (↑node : Int) Bd.any)) (ST.node (SV.c (SC.ptr (0 : Nat) (2 : Nat))) (ST.node (SV.c (SC.int false IntKind.i64 (↑g :
    Int) Bd.any)) ST.nil ST.nil) ST.nil) (ST.node (SV.c (SC.boo true false)) ST.nil ST.nil))) (ST.node (SV.c (SC.int false IntKind.i64 (↑g : Int) Bd.any)) (ST.node (SV.c (SC.int false
    IntKind.i64 (↑g : Int) Bd.any)) (ST.node (SV.c (SC.int true IntKind.i64 (0 : Int))) (ST.node (SV.c (SC.ptr (0 : Nat) (0 : Nat))) ST.nil ST.nil) ST.nil) (ST.node (SV.tup []) (ST.node
    (SV.tup []) ST.nil ST.nil) ST.nil)) (ST.node (SV.tup [(false, [SC.int false IntKind.u64 (↑(A.rd (if inC (↑g : Int) (↑node : Int) = true then [(↑(segs (0 : Nat)) : Int), (↑(segs (1 :
    Nat)) : Int), (↑(segs (2 : Nat)) : Int), (↑(segs (3 : Nat)) : Int), (↑(segs (4 : Nat)) : Int), (↑(segs (5 : Nat)) : Int), (↑(segs (6 : Nat)) : Int), (↑(segs (7 : Nat)) : Int)].getD
    (↑g : Int).toNat (0 : Int) else (0 : Int)) (if inC (↑g : Int) (↑node : Int) = true then (5 : Int) * (↑((2 : Nat) ^ (↑g : Int).toNat) : Int) + (↑node : Int) else (0 : Int))) : Int)
    Bd.any]), (false, [SC.int true IntKind.i64 (0 : Int)])]) (ST.node (SV.c (SC.ptr (0 : Nat) (3 : Nat))) (ST.node (SV.c (SC.int false IntKind.u64 ([(↑(segs (0 : Nat)) : Int), (↑(segs
    (1 : Nat)) : Int), (↑(segs (2 : Nat)) : Int), (↑(segs (3 : Nat)) : Int), (↑(segs (4 : Nat)) : Int), (↑(segs (5 : Nat)) : Int), (↑(segs (6 : Nat)) : Int), (↑(segs (7 : Nat)) :
    Int)].getD (↑g : Int).toNat (0 : Int)) Bd.any)) ST.nil ST.nil) ST.nil) (ST.node (SV.tup []) ST.nil ST.nil))))) (ST.node (SV.c (SC.ptr (137 : Nat) (0 : Nat))) (ST.node (SV.c (SC.int
    false IntKind.u64 (↑(A.rd (if inC (↑g : Int) (↑node : Int) = true then [(↑(segs (0 : Nat)) : Int), (↑(segs (1 : Nat)) : Int), (↑(segs (2 : Nat)) : Int), (↑(segs (3 : Nat)) : Int),
    (↑(segs (4 : Nat)) : Int), (↑(segs (5 : Nat)) : Int), (↑(segs (6 : Nat)) : Int), (↑(segs (7 : Nat)) : Int)].getD (↑g : Int).toNat (0 : Int) else (0 : Int)) (if inC (↑g : Int) (↑node
    : Int) = true then (5 : Int) * (↑((2 : Nat) ^ (↑g : Int).toNat) : Int) + (↑node : Int) else (0 : Int))) : Int) Bd.any)) (ST.node (SV.tup [(true, [SC.int false IntKind.u64 (if inC
    (↑g : Int) (↑node : Int) = true then [(↑(segs (0 : Nat)) : Int), (↑(segs (1 : Nat)) : Int), (↑(segs (2 : Nat)) : Int), (↑(segs (3 : Nat)) : Int), (↑(segs (4 : Nat)) : Int), (↑(segs
    (5 : Nat)) : Int), (↑(segs (6 : Nat)) : Int), (↑(segs (7 : Nat)) : Int)].getD (↑g : Int).toNat (0 : Int) else (0 : Int)) Bd.any, SC.int false IntKind.i64 (if inC (↑g : Int) (↑node :
    Int) = true then (5 : Int) * (↑((2 : Nat) ^ (↑g : Int).toNat) : Int) + (↑node : Int) else (0 : Int)) (Bd.w (0 : Int) (895 : Int) (counter_bd._proof_4 (↑(Col.mk (1 : Nat) g node segs
    []).g : Int) (↑(Col.mk (1 : Nat) g node segs []).node : Int)))]), (false, [SC.boo false (inC (↑(Col.mk (1 : Nat) g node segs []).g : Int) (↑(Col.mk (1 : Nat) g node segs []).node :
    Int))])]) (ST.node (SV.c (SC.elp (0 : Nat) (↑g : Int).toNat (1 : Nat) (4 : Nat))) (ST.node (SV.c (SC.ptr (0 : Nat) (1 : Nat))) (ST.node (SV.c (SC.ptr (0 : Nat) (0 : Nat))) ST.nil
    ST.nil) ST.nil) (ST.node (SV.c (SC.int false IntKind.i64 (if inL (↑g : Int) (↑node : Int) = true then (↑node : Int) - (1 : Int) else (0 : Int)) (Bd.w (0 : Int) (254 : Int)
    (slot_bd._proof_3 (↑(Col.mk (1 : Nat) g node segs []).g : Int) (↑(Col.mk (1 : Nat) g node segs []).node : Int))))) (ST.node (SV.c (SC.sli (186 : Nat) (2 : Nat) true (0 : Nat) true
    (1 : Nat) (1 : Nat))) ST.nil ST.nil) ST.nil)) (ST.node (SV.c (SC.ptr (0 : Nat) (3 : Nat))) (ST.node (SV.c (SC.ptr (0 : Nat) (0 : Nat))) (ST.node (SV.c (SC.ptr (0 : Nat) (2 : Nat)))
    ST.nil ST.nil) ST.nil) (ST.node (SV.tup []) ST.nil ST.nil))) (ST.node (SV.c (SC.ptr (0 : Nat) (2 : Nat))) (ST.node (SV.c (SC.ptr (0 : Nat) (2 : Nat))) (ST.node (SV.c (SC.int false
    IntKind.u64 (↑(A.rd (if inC (↑g : Int) (↑node : Int) = true then [(↑(segs (0 : Nat)) : Int), (↑(segs (1 : Nat)) : Int), (↑(segs (2 : Nat)) : Int), (↑(segs (3 : Nat)) : Int), (↑(segs
    (4 : Nat)) : Int), (↑(segs (5 : Nat)) : Int), (↑(segs (6 : Nat)) : Int), (↑(segs (7 : Nat)) : Int)].getD (↑g : Int).toNat (0 : Int) else (0 : Int)) (if inC (↑g : Int) (↑node : Int)
    = true then (5 : Int) * (↑((2 : Nat) ^ (↑g : Int).toNat) : Int) + (↑node : Int) else (0 : Int))) : Int) Bd.any)) (ST.node (SV.c SC.nls) ST.nil ST.nil) ST.nil) (ST.node (SV.tup [])
    (ST.node (SV.tup []) ST.nil ST.nil) ST.nil)) (ST.node (SV.c (SC.boo false (inC (↑(Col.mk (1 : Nat) g node segs []).g : Int) (↑(Col.mk (1 : Nat) g node segs []).node : Int))))
    (ST.node (SV.c (SC.ptr (0 : Nat) (0 : Nat))) (ST.node (SV.c (SC.elp (0 : Nat) (↑g : Int).toNat (1 : Nat) (4 : Nat))) ST.nil ST.nil) ST.nil) (ST.node (SV.tup []) ST.nil ST.nil))))
    (ST.node (SV.c (SC.int false IntKind.i64 (if inL (↑g : Int) (↑node : Int) = true then (↑node : Int) - (1 : Int) else (0 : Int)) (Bd.w (0 : Int) (254 : Int) (slot_bd._proof_3
    (↑(Col.mk (1 : Nat) g node segs []).g : Int) (↑(Col.mk (1 : Nat) g node segs []).node : Int))))) (ST.node (SV.c (SC.ptr (0 : Nat) (0 : Nat))) (ST.node (SV.c (SC.ptr (0 : Nat) (0 :
    Nat))) (ST.node (SV.agg [SC.int false IntKind.u64 (if inC (↑g : Int) (↑node : Int) = true then [(↑(segs (0 : Nat)) : Int), (↑(segs (1 : Nat)) : Int), (↑(segs (2 : Nat)) : Int),
    (↑(segs (3 : Nat)) : Int), (↑(segs (4 : Nat)) : Int), (↑(segs (5 : Nat)) : Int), (↑(segs (6 : Nat)) : Int), (↑(segs (7 : Nat)) : Int)].getD (↑g : Int).toNat (0 : Int) else (0 :
    Int)) Bd.any, SC.int false IntKind.i64 (if inC (↑g : Int) (↑node : Int) = true then (5 : Int) * (↑((2 : Nat) ^ (↑g : Int).toNat) : Int) + (↑node : Int) else (0 : Int)) (Bd.w (0 :
    Int) (895 : Int) (counter_bd._proof_4 (↑(Col.mk (1 : Nat) g node segs []).g : Int) (↑(Col.mk (1 : Nat) g node segs []).node : Int)))]) (ST.node (SV.c (SC.ptr (0 : Nat) (0 : Nat)))
    ST.nil ST.nil) ST.nil) (ST.node (SV.tup []) (ST.node (SV.c (SC.ptr (0 : Nat) (0 : Nat))) ST.nil ST.nil) ST.nil)) (ST.node (SV.tup [(true, [SC.int false IntKind.u64 (if inC (↑g :
    Int) (↑node : Int) = true then [(↑(segs (0 : Nat)) : Int), (↑(segs (1 : Nat)) : Int), (↑(segs (2 : Nat)) : Int), (↑(segs (3 : Nat)) : Int), (↑(segs (4 : Nat)) : Int), (↑(segs (5 :
    Nat)) : Int), (↑(segs (6 : Nat)) : Int), (↑(segs (7 : Nat)) : Int)].getD (↑g : Int).toNat (0 : Int) else (0 : Int)) Bd.any, SC.int false IntKind.i64 (if inC (↑g : Int) (↑node : Int)
    = true then (5 : Int) * (↑((2 : Nat) ^ (↑g : Int).toNat) : Int) + (↑node : Int) else (0 : Int)) (Bd.w (0 : Int) (895 : Int) (counter_bd._proof_4 (↑(Col.mk (1 : Nat) g node segs
    []).g : Int) (↑(Col.mk (1 : Nat) g node segs []).node : Int)))]), (false, [SC.boo false (inC (↑(Col.mk (1 : Nat) g node segs []).g : Int) (↑(Col.mk (1 : Nat) g node segs []).node :
    Int))])]) (ST.node (SV.c (SC.int false IntKind.i64 (↑g : Int) Bd.any)) (ST.node (SV.c (SC.ptr (0 : Nat) (0 : Nat))) ST.nil ST.nil) ST.nil) (ST.node (SV.c (SC.int false IntKind.u64
    (↑(A.rd (if inC (↑g : Int) (↑node : Int) = true then [(↑(segs (0 : Nat)) : Int), (↑(segs (1 : Nat)) : Int), (↑(segs (2 : Nat)) : Int), (↑(segs (3 : Nat)) : Int), (↑(segs (4 : Nat))
    : Int), (↑(segs (5 : Nat)) : Int), (↑(segs (6 : Nat)) : Int), (↑(segs (7 : Nat)) : Int)].getD (↑g : Int).toNat (0 : Int) else (0 : Int)) (if inC (↑g : Int) (↑node : Int) = true then
    (5 : Int) * (↑((2 : Nat) ^ (↑g : Int).toNat) : Int) + (↑node : Int) else (0 : Int))) : Int) Bd.any)) ST.nil ST.nil))) (ST.node (SV.c (SC.ptr (0 : Nat) (0 : Nat))) (ST.node (SV.c
    (SC.ptr (0 : Nat) (0 : Nat))) (ST.node (SV.tup [(false, [SC.int false IntKind.i64 (if inL (↑g : Int) (↑node : Int) = true then (↑node : Int) - (1 : Int) else (0 : Int)) (Bd.w (0 :
    Int) (254 : Int) (slot_bd._proof_3 (↑(Col.mk (1 : Nat) g node segs []).g : Int) (↑(Col.mk (1 : Nat) g node segs []).node : Int)))]), (false, [SC.boo false (inL (↑(Col.mk (1 : Nat) g
    node segs []).g : Int) (↑(Col.mk (1 : Nat) g node segs []).node : Int))])]) (ST.node (SV.c (SC.ptr (0 : Nat) (0 : Nat))) ST.nil ST.nil) ST.nil) (ST.node (SV.tup []) ST.nil ST.nil))
    (ST.node (SV.c (SC.ptr (0 : Nat) (0 : Nat))) (ST.node (SV.c (SC.int false IntKind.i64 (↑node : Int) Bd.any)) (ST.node (SV.c (SC.int false IntKind.i64 (if inL (↑g : Int) (↑node :
    Int) = true then (↑node : Int) - (1 : Int) else (0 : Int)) (Bd.w (0 : Int) (254 : Int) (slot_bd._proof_3 (↑(Col.mk (1 : Nat) g node segs []).g : Int) (↑(Col.mk (1 : Nat) g node segs
    []).node : Int))))) ST.nil ST.nil) ST.nil) (ST.node (SV.c (SC.boo true true)) ST.nil ST.nil)))))) []) (Mem.mk [((0 : Nat), SO.cells [SC.fn (Fn.func (OfNat.ofNat (164 : Nat)))
    [SC.ptr (0 : Nat) (0 : Nat)] [], SC.ptr (1 : Nat) (0 : Nat), SC.int false IntKind.i64 (↑g : Int) Bd.any, SC.int false IntKind.i64 (↑node : Int) Bd.any, SC.int false IntKind.u64
    (↑(segs (0 : Nat)) : Int) Bd.any, SC.int false IntKind.u64 (↑(segs (1 : Nat)) : Int) Bd.any, SC.int false IntKind.u64 (↑(segs (2 : Nat)) : Int) Bd.any, SC.int false IntKind.u64
    (↑(segs (3 : Nat)) : Int) Bd.any, SC.int false IntKind.u64 (↑(segs (4 : Nat)) : Int) Bd.any, SC.int false IntKind.u64 (↑(segs (5 : Nat)) : Int) Bd.any, SC.int false IntKind.u64
    (↑(segs (6 : Nat)) : Int) Bd.any, SC.int false IntKind.u64 (↑(segs (7 : Nat)) : Int) Bd.any, SC.sli (187 : Nat) (2 : Nat) true (0 : Nat) true (1 : Nat) cap] (OfNat.ofNat (168 :
    Nat))), ((1 : Nat), SO.ext (XO.ar A.read)), ((137 : Nat), SO.cells [SC.int false IntKind.u64 (if inC (↑g : Int) (↑node : Int) = true then [(↑(segs (0 : Nat)) : Int), (↑(segs (1 :
    Nat)) : Int), (↑(segs (2 : Nat)) : Int), (↑(segs (3 : Nat)) : Int), (↑(segs (4 : Nat)) : Int), (↑(segs (5 : Nat)) : Int), (↑(segs (6 : Nat)) : Int), (↑(segs (7 : Nat)) : Int)].getD
    (↑g : Int).toNat (0 : Int) else (0 : Int)) Bd.any, SC.int false IntKind.i64 (if inC (↑g : Int) (↑node : Int) = true then (5 : Int) * (↑((2 : Nat) ^ (↑g : Int).toNat) : Int) + (↑node
    : Int) else (0 : Int)) (Bd.w (0 : Int) (895 : Int) (counter_bd._proof_4 (↑(Col.mk (1 : Nat) g node segs []).g : Int) (↑(Col.mk (1 : Nat) g node segs []).node : Int)))] (96 : Nat)),
    ((186 : Nat), SO.cells [SC.int false IntKind.u64 ([(↑(segs (0 : Nat)) : Int), (↑(segs (1 : Nat)) : Int), (↑(segs (2 : Nat)) : Int), (↑(segs (3 : Nat)) : Int), (↑(segs (4 : Nat)) :
    Int), (↑(segs (5 : Nat)) : Int), (↑(segs (6 : Nat)) : Int), (↑(segs (7 : Nat)) : Int)].getD (↑g : Int).toNat (0 : Int)) Bd.any, SC.int false IntKind.i64 (if inL (↑g : Int) (↑node :
    Int) = true then (↑node : Int) - (1 : Int) else (0 : Int)) (Bd.w (0 : Int) (254 : Int) (slot_bd._proof_3 (↑(Col.mk (1 : Nat) g node segs []).g : Int) (↑(Col.mk (1 : Nat) g node segs
    []).node : Int)))] (44 : Nat)), ((187 : Nat), SO.row (44 : Nat) (2 : Nat) (1 : Nat) cap [SC.int false IntKind.u64 ([(↑(segs (0 : Nat)) : Int), (↑(segs (1 : Nat)) : Int), (↑(segs (2
    : Nat)) : Int), (↑(segs (3 : Nat)) : Int), (↑(segs (4 : Nat)) : Int), (↑(segs (5 : Nat)) : Int), (↑(segs (6 : Nat)) : Int), (↑(segs (7 : Nat)) : Int)].getD (↑g : Int).toNat (0 :
    Int)) Bd.any, SC.int false IntKind.i64 (if inL (↑g : Int) (↑node : Int) = true then (↑node : Int) - (1 : Int) else (0 : Int)) (Bd.w (0 : Int) (254 : Int) (slot_bd._proof_3 (↑(Col.mk
    (1 : Nat) g node segs []).g : Int) (↑(Col.mk (1 : Nat) g node segs []).node : Int)))])] (170 : Nat)) (onScr g segs [(segs g, node - (1 : Nat))] node))) ∧ True) ∧ (inL (↑g : Int)
    (↑node : Int) = false → ((-9223372036854775808 : Int) ≤ (↑node : Int) * (2 : Int) ∧ (↑node : Int) * (2 : Int) ≤ (9223372036854775807 : Int)) ∧ ∃ (g_1 : Nat), ∃ (node_1 : Nat), ∃
    (segs_1 : Nat → Nat), ∃ (z : Nat), Is (Col.mk (1 : Nat) g_1 node_1 segs_1 []) (colCnt (Col.mk (1 : Nat) g node segs []) A) ∧ ((((0 : Nat) = (0 : Nat) ∧ True) ∧ True) ∧ (0 : Nat) =
    (0 : Nat) ∧ (↑g_1 : Int) = (↑g : Int) ∧ (↑node_1 : Int) = (↑node : Int) * (2 : Int) ∧ (↑(segs_1 (0 : Nat)) : Int) = (↑(segs (0 : Nat)) : Int) ∧ (↑(segs_1 (1 : Nat)) : Int) = (↑(segs
    (1 : Nat)) : Int) ∧ (↑(segs_1 (2 : Nat)) : Int) = (↑(segs (2 : Nat)) : Int) ∧ (↑(segs_1 (3 : Nat)) : Int) = (↑(segs (3 : Nat)) : Int) ∧ (↑(segs_1 (4 : Nat)) : Int) = (↑(segs (4 :
    Nat)) : Int) ∧ (↑(segs_1 (5 : Nat)) : Int) = (↑(segs (5 : Nat)) : Int) ∧ (↑(segs_1 (6 : Nat)) : Int) = (↑(segs (6 : Nat)) : Int) ∧ (↑(segs_1 (7 : Nat)) : Int) = (↑(segs (7 : Nat)) :
    Int) ∧ True ∧ True) ∧ A.read = A.read ∧ True))) ∧ True) ∧ True) ∧ True) ∧ True) ∧ (∀ (K : KO XE), (fun X0 : Prop => (0 : Int) ≤ [(↑(segs (0 : Nat)) : Int), (↑(segs (1 : Nat)) :
    Int), (↑(segs (2 : Nat)) : Int), (↑(segs (3 : Nat)) : Int), (↑(segs (4 : Nat)) : Int), (↑(segs (5 : Nat)) : Int), (↑(segs (6 : Nat)) : Int), (↑(segs (7 : Nat)) : Int)].getD (↑g :
    Int).toNat (0 : Int) ∧ (X0 ∧ True) ∧ True → (↑g : Int) = (↑g : Int) ∧ (↑node : Int) = (↑node : Int) ∧ (↑(segs (0 : Nat)) : Int) = (↑(segs (0 : Nat)) : Int) ∧ (↑(segs (1 : Nat)) :
    Int) = (↑(segs (1 : Nat)) : Int) ∧ (↑(segs (2 : Nat)) : Int) = (↑(segs (2 : Nat)) : Int) ∧ (↑(segs (3 : Nat)) : Int) = (↑(segs (3 : Nat)) : Int) ∧ (↑(segs (4 : Nat)) : Int) =
    (↑(segs (4 : Nat)) : Int) ∧ (↑(segs (5 : Nat)) : Int) = (↑(segs (5 : Nat)) : Int) ∧ (↑(segs (6 : Nat)) : Int) = (↑(segs (6 : Nat)) : Int) ∧ (↑(segs (7 : Nat)) : Int) = (↑(segs (7 :
    Nat)) : Int) ∧ ((0 : Int) ≤ [(↑(segs (0 : Nat)) : Int), (↑(segs (1 : Nat)) : Int), (↑(segs (2 : Nat)) : Int), (↑(segs (3 : Nat)) : Int), (↑(segs (4 : Nat)) : Int), (↑(segs (5 :
    Nat)) : Int), (↑(segs (6 : Nat)) : Int), (↑(segs (7 : Nat)) : Int)].getD (↑g : Int).toNat (0 : Int) ∧ X0 ∧ True) ∧ True) (K (SF.mk (86 : Nat) (ST.node (SV.c (SC.ptr (0 : Nat) (0 :
    Nat))) (ST.node (SV.tup []) (ST.node (SV.c (SC.boo false (inC (↑(Col.mk (1 : Nat) g node segs []).g : Int) (↑(Col.mk (1 : Nat) g node segs []).node : Int)))) (ST.node (SV.tup [])
    (ST.node (SV.c (SC.ptr (0 : Nat) (4 : Nat))) (ST.node (SV.tup []) (ST.node (SV.tup []) ST.nil ST.nil) ST.nil) (ST.node (SV.tup []) (ST.node (SV.tup []) ST.nil ST.nil) ST.nil))
    (ST.node (SV.c (SC.ptr (0 : Nat) (0 : Nat))) (ST.node (SV.tup []) (ST.node (SV.tup []) ST.nil ST.nil) ST.nil) (ST.node (SV.tup []) ST.nil ST.nil))) (ST.node (SV.c (SC.ptr (0 : Nat)
    (0 : Nat))) (ST.node (SV.c (SC.ptr (0 : Nat) (0 : Nat))) (ST.node (SV.tup []) (ST.node (SV.tup []) ST.nil ST.nil) ST.nil) (ST.node (SV.tup []) (ST.node (SV.tup []) ST.nil ST.nil)
    ST.nil)) (ST.node (SV.agg [SC.int false IntKind.u64 (if inC (↑g : Int) (↑node : Int) = true then [(↑(segs (0 : Nat)) : Int), (↑(segs (1 : Nat)) : Int), (↑(segs (2 : Nat)) : Int),
    (↑(segs (3 : Nat)) : Int), (↑(segs (4 : Nat)) : Int), (↑(segs (5 : Nat)) : Int), (↑(segs (6 : Nat)) : Int), (↑(segs (7 : Nat)) : Int)].getD (↑g : Int).toNat (0 : Int) else (0 :
    Int)) Bd.any, SC.int false IntKind.i64 (if inC (↑g : Int) (↑node : Int) = true then (5 : Int) * (↑((2 : Nat) ^ (↑g : Int).toNat) : Int) + (↑node : Int) else (0 : Int)) (Bd.w (0 :
    Int) (895 : Int) (counter_bd._proof_4 (↑(Col.mk (1 : Nat) g node segs []).g : Int) (↑(Col.mk (1 : Nat) g node segs []).node : Int)))]) (ST.node (SV.tup []) (ST.node (SV.tup [])
    ST.nil ST.nil) ST.nil) (ST.node (SV.tup []) ST.nil ST.nil)))) (ST.node (SV.tup []) (ST.node (SV.c (SC.ptr (0 : Nat) (0 : Nat))) (ST.node (SV.c (SC.int false IntKind.u64 ([(↑(segs (0
    : Nat)) : Int), (↑(segs (1 : Nat)) : Int), (↑(segs (2 : Nat)) : Int), (↑(segs (3 : Nat)) : Int), (↑(segs (4 : Nat)) : Int), (↑(segs (5 : Nat)) : Int), (↑(segs (6 : Nat)) : Int),
    (↑(segs (7 : Nat)) : Int)].getD (↑g : Int).toNat (0 : Int)) Bd.any)) (ST.node (SV.tup []) (ST.node (SV.tup []) ST.nil ST.nil) ST.nil) (ST.node (SV.tup []) (ST.node (SV.tup [])
    ST.nil ST.nil) ST.nil)) (ST.node (SV.c (SC.int false IntKind.i64 (↑node : Int) Bd.any)) (ST.node (SV.tup []) (ST.node (SV.tup []) ST.nil ST.nil) ST.nil) (ST.node (SV.tup []) ST.nil
    ST.nil))) (ST.node (SV.c (SC.int false IntKind.i64 (↑g : Int) Bd.any)) (ST.node (SV.c (SC.int false IntKind.i64 (↑g : Int) Bd.any)) (ST.node (SV.tup []) (ST.node (SV.tup []) ST.nil
    ST.nil) ST.nil) (ST.node (SV.tup []) (ST.node (SV.tup []) ST.nil ST.nil) ST.nil)) (ST.node (SV.tup []) (ST.node (SV.tup []) (ST.node (SV.tup []) ST.nil ST.nil) ST.nil) (ST.node
    (SV.tup []) ST.nil ST.nil))))) (ST.node (SV.c (SC.ptr (137 : Nat) (0 : Nat))) (ST.node (SV.tup []) (ST.node (SV.tup [(true, [SC.int false IntKind.u64 (if inC (↑g : Int) (↑node :
    Int) = true then [(↑(segs (0 : Nat)) : Int), (↑(segs (1 : Nat)) : Int), (↑(segs (2 : Nat)) : Int), (↑(segs (3 : Nat)) : Int), (↑(segs (4 : Nat)) : Int), (↑(segs (5 : Nat)) : Int),
    (↑(segs (6 : Nat)) : Int), (↑(segs (7 : Nat)) : Int)].getD (↑g : Int).toNat (0 : Int) else (0 : Int)) Bd.any, SC.int false IntKind.i64 (if inC (↑g : Int) (↑node : Int) = true then
    (5 : Int) * (↑((2 : Nat) ^ (↑g : Int).toNat) : Int) + (↑node : Int) else (0 : Int)) (Bd.w (0 : Int) (895 : Int) (counter_bd._proof_4 (↑(Col.mk (1 : Nat) g node segs []).g : Int)
    (↑(Col.mk (1 : Nat) g node segs []).node : Int)))]), (false, [SC.boo false (inC (↑(Col.mk (1 : Nat) g node segs []).g : Int) (↑(Col.mk (1 : Nat) g node segs []).node : Int))])])
    (ST.node (SV.c (SC.elp (0 : Nat) (↑g : Int).toNat (1 : Nat) (4 : Nat))) (ST.node (SV.tup []) (ST.node (SV.tup []) ST.nil ST.nil) ST.nil) (ST.node (SV.tup []) (ST.node (SV.tup [])
    ST.nil ST.nil) ST.nil)) (ST.node (SV.c (SC.ptr (0 : Nat) (3 : Nat))) (ST.node (SV.tup []) (ST.node (SV.tup []) ST.nil ST.nil) ST.nil) (ST.node (SV.tup []) ST.nil ST.nil))) (ST.node
    (SV.c (SC.ptr (0 : Nat) (2 : Nat))) (ST.node (SV.c (SC.ptr (0 : Nat) (2 : Nat))) (ST.node (SV.tup []) (ST.node (SV.tup []) ST.nil ST.nil) ST.nil) (ST.node (SV.tup []) (ST.node
    (SV.tup []) ST.nil ST.nil) ST.nil)) (ST.node (SV.c (SC.boo false (inC (↑(Col.mk (1 : Nat) g node segs []).g : Int) (↑(Col.mk (1 : Nat) g node segs []).node : Int)))) (ST.node
    (SV.tup []) (ST.node (SV.tup []) ST.nil ST.nil) ST.nil) (ST.node (SV.tup []) ST.nil ST.nil)))) (ST.node (SV.tup []) (ST.node (SV.c (SC.ptr (0 : Nat) (0 : Nat))) (ST.node (SV.c
    (SC.ptr (0 : Nat) (0 : Nat))) (ST.node (SV.tup []) (ST.node (SV.tup []) ST.nil ST.nil) ST.nil) (ST.node (SV.tup []) (ST.node (SV.tup []) ST.nil ST.nil) ST.nil)) (ST.node (SV.tup
    [(true, [SC.int false IntKind.u64 (if inC (↑g : Int) (↑node : Int) = true then [(↑(segs (0 : Nat)) : Int), (↑(segs (1 : Nat)) : Int), (↑(segs (2 : Nat)) : Int), (↑(segs (3 : Nat)) :
    Int), (↑(segs (4 : Nat)) : Int), (↑(segs (5 : Nat)) : Int), (↑(segs (6 : Nat)) : Int), (↑(segs (7 : Nat)) : Int)].getD (↑g : Int).toNat (0 : Int) else (0 : Int)) Bd.any, SC.int
    false IntKind.i64 (if inC (↑g : Int) (↑node : Int) = true then (5 : Int) * (↑((2 : Nat) ^ (↑g : Int).toNat) : Int) + (↑node : Int) else (0 : Int)) (Bd.w (0 : Int) (895 : Int)
    (counter_bd._proof_4 (↑(Col.mk (1 : Nat) g node segs []).g : Int) (↑(Col.mk (1 : Nat) g node segs []).node : Int)))]), (false, [SC.boo false (inC (↑(Col.mk (1 : Nat) g node segs
    []).g : Int) (↑(Col.mk (1 : Nat) g node segs []).node : Int))])]) (ST.node (SV.tup []) (ST.node (SV.tup []) ST.nil ST.nil) ST.nil) (ST.node (SV.tup []) ST.nil ST.nil))) (ST.node
    (SV.c (SC.ptr (0 : Nat) (0 : Nat))) (ST.node (SV.c (SC.ptr (0 : Nat) (0 : Nat))) (ST.node (SV.tup []) (ST.node (SV.tup []) ST.nil ST.nil) ST.nil) (ST.node (SV.tup []) ST.nil
    ST.nil)) (ST.node (SV.tup []) (ST.node (SV.tup []) (ST.node (SV.tup []) ST.nil ST.nil) ST.nil) (ST.node (SV.tup []) ST.nil ST.nil)))))) []) (Mem.mk [((0 : Nat), SO.cells [SC.fn
    (Fn.func (OfNat.ofNat (164 : Nat))) [SC.ptr (0 : Nat) (0 : Nat)] [], SC.ptr (1 : Nat) (0 : Nat), SC.int false IntKind.i64 (↑g : Int) Bd.any, SC.int false IntKind.i64 (↑node : Int)
    Bd.any, SC.int false IntKind.u64 (↑(segs (0 : Nat)) : Int) Bd.any, SC.int false IntKind.u64 (↑(segs (1 : Nat)) : Int) Bd.any, SC.int false IntKind.u64 (↑(segs (2 : Nat)) : Int)
    Bd.any, SC.int false IntKind.u64 (↑(segs (3 : Nat)) : Int) Bd.any, SC.int false IntKind.u64 (↑(segs (4 : Nat)) : Int) Bd.any, SC.int false IntKind.u64 (↑(segs (5 : Nat)) : Int)
    Bd.any, SC.int false IntKind.u64 (↑(segs (6 : Nat)) : Int) Bd.any, SC.int false IntKind.u64 (↑(segs (7 : Nat)) : Int) Bd.any, SC.nls] (OfNat.ofNat (168 : Nat))), ((1 : Nat), SO.ext
    (XO.ar A)), ((137 : Nat), SO.cells [SC.int false IntKind.u64 (if inC (↑g : Int) (↑node : Int) = true then [(↑(segs (0 : Nat)) : Int), (↑(segs (1 : Nat)) : Int), (↑(segs (2 : Nat)) :
    Int), (↑(segs (3 : Nat)) : Int), (↑(segs (4 : Nat)) : Int), (↑(segs (5 : Nat)) : Int), (↑(segs (6 : Nat)) : Int), (↑(segs (7 : Nat)) : Int)].getD (↑g : Int).toNat (0 : Int) else (0
    : Int)) Bd.any, SC.int false IntKind.i64 (if inC (↑g : Int) (↑node : Int) = true then (5 : Int) * (↑((2 : Nat) ^ (↑g : Int).toNat) : Int) + (↑node : Int) else (0 : Int)) (Bd.w (0 :
    Int) (895 : Int) (counter_bd._proof_4 (↑(Col.mk (1 : Nat) g node segs []).g : Int) (↑(Col.mk (1 : Nat) g node segs []).node : Int)))] (96 : Nat))] (140 : Nat)) (scrC1a g node
    segs))) ∧ True) := by
  kernel_rfl
theorem colS1a (g node : Nat) (segs : Nat → Nat) (A : Ar) (cap : Nat) (hg : g < 8) (hn : 1 ≤ node ∧ node < 2 * 2 ^ g) (hA : A.Has (segs g : Int) (5 * 2 ^ g + node : Nat)) : Run (callN Try.prog tblC1a (fun _ _ => false) 100 20 19 [.c (.ptr 0 0)] ⟨colH.heap ⟨1, g, node, segs, []⟩ cap ++ [(1, arO A)], 100⟩ (scrC1a g node segs) (fun v m _ => colPost (colCnt ⟨1, g, node, segs, []⟩ A) A.read v m)) := by
  constructor
  rw [colS1a_vc]
  have hsg := segs_getD segs hg
  have hgt : ((g : Int)).toNat = g := Int.toNat_natCast g
  have hC : inC (g : Int) (node : Int) = true := inC_nat hg hn.1 hn.2
  have hb := node_bd hg hn.2
  have hA' : A.Has (segs g : Int) (5 * ((2 ^ g : Nat) : Int) + (node : Int)) := hA
  have hyb : ∀ y : OnY node, y.1.1 ≤ 255 := fun y => Nat.le_trans y.2.2 hb
  repeat' first
    | with_reducible apply And.intro
    | with_reducible exact trivial
    | with_reducible exact fun _ h => h
    | (refine fun (K : KO XE) => ?_; simp only [eq_self, true_and, and_true, imp_self, implies_true]; done)
    | (refine fun (K : KO XE) => ?_; simp only [eq_self, true_and, and_true, imp_self, implies_true]; exact id)
    | (refine fun (K : KO XE) => ?_; simp only [eq_self, true_and, and_true, and_imp, imp_self, implies_true]; intros; simp_all only [and_self, imp_self, implies_true]; done)
    | (intro (K : KO XE); simp only [and_imp]; intros; repeat' first | with_reducible apply And.intro | with_reducible exact trivial | with_reducible exact Eq.refl _ | with_reducible assumption)
    | intro _
    | with_reducible exact Eq.refl _
  all_goals try simp only [hgt, hsg, hC, if_true] at *
  repeat' first
    | with_reducible apply And.intro
    | with_reducible exact trivial
    | with_reducible exact fun _ h => h
    | with_reducible exact hA'
    | intro _
    | with_reducible exact Eq.refl _
    | omega
    | (have := hyb ‹OnY node›; omega)
    | exact absurd (‹decide ((‹OnY node›.1.1 : Int) > 1) = true›.symm.trans ‹decide ((‹OnY node›.1.1 : Int) > 1) = false›) (by decide)
    | (refine Exists.intro g (Exists.intro (‹OnY node›.1.1 + 1) (Exists.intro segs (Exists.intro 0 (And.intro (is_trans (cnt_up (x := Col.mk 1 g node segs ([])) (A := A) ‹_›) (on_stay (z := Col.mk 1 g node segs ([])) ‹OnY node›.2.1 ‹_› ‹_›)) ?_)))))
    | (refine Exists.intro (g + 1) (Exists.intro ‹OnY node›.1.1 (Exists.intro segs (Exists.intro 0 (And.intro (is_trans (cnt_up (x := Col.mk 1 g node segs ([])) (A := A) ‹_›) (on_end (z := Col.mk 1 g node segs ([])) ‹OnY node›.2.1 ‹_› ‹_›)) ?_)))))
    | (refine Exists.intro (g + 1) (Exists.intro ‹OnY node›.1.1 (Exists.intro segs (Exists.intro 0 (And.intro (is_trans (cnt_up (x := Col.mk 1 g node segs ([])) (A := A) ‹_›) (on_next (z := Col.mk 1 g node segs ([])) ‹OnY node›.2.1 ‹_› ‹_›)) ?_)))))
    | (refine Exists.intro g (Exists.intro (‹OnY node›.1.1 + 1) (Exists.intro segs (Exists.intro (segs g, node - 1) (Exists.intro [] (Exists.intro ‹OnY node›.1.2 (And.intro (is_trans (cnt_leaf (x := Col.mk 1 g node segs ([])) (A := A) hg hn.2 ‹_› ‹_›) (on_stay (z := Col.mk 1 g node segs ([] ++ [(segs g, node - 1)])) ‹OnY node›.2.1 ‹_› ‹_›)) ?_)))))))
    | (refine Exists.intro (g + 1) (Exists.intro ‹OnY node›.1.1 (Exists.intro segs (Exists.intro (segs g, node - 1) (Exists.intro [] (Exists.intro ‹OnY node›.1.2 (And.intro (is_trans (cnt_leaf (x := Col.mk 1 g node segs ([])) (A := A) hg hn.2 ‹_› ‹_›) (on_end (z := Col.mk 1 g node segs ([] ++ [(segs g, node - 1)])) ‹OnY node›.2.1 ‹_› ‹_›)) ?_)))))))
    | (refine Exists.intro (g + 1) (Exists.intro ‹OnY node›.1.1 (Exists.intro segs (Exists.intro (segs g, node - 1) (Exists.intro [] (Exists.intro ‹OnY node›.1.2 (And.intro (is_trans (cnt_leaf (x := Col.mk 1 g node segs ([])) (A := A) hg hn.2 ‹_› ‹_›) (on_next (z := Col.mk 1 g node segs ([] ++ [(segs g, node - 1)])) ‹OnY node›.2.1 ‹_› ‹_›)) ?_)))))))
    | (refine Exists.intro g (Exists.intro (2 * node) (Exists.intro segs (Exists.intro 0 (And.intro (cnt_down (x := Col.mk 1 g node segs ([])) (A := A) hg hn.2 ‹_› ‹_›) ?_)))))
    | (refine Exists.intro (⟨(‹OnY node›.1.1 / 2, ‹OnY node›.1.2), onY_half ‹OnY node› ‹_› ‹_›⟩ : OnY node) ?_)
    | (apply Exists.intro (⟨(node, _), rfl, Nat.le_refl _⟩ : OnY node))
    | with_reducible exact leaf_val hn.1 ‹_›
    | with_reducible exact len_snoc _ _ _
    | with_reducible exact plF_snoc ‹_› (leaf_val hn.1 ‹_›)
    | (have h1 := of_decide_eq_true ‹decide ((‹OnY node›.1.1 : Int) > 1) = true›; dsimp only; omega)
    | (dsimp only; omega)
    | with_reducible rfl
    | rfl
end Go.Proofs.Ytnfpkadepomjjaa

/- A step of a collect, by the executor. -/
namespace Go.Proofs.Ytnfpkadepomjjaa
open Go
set_option maxRecDepth 1000000
set_option maxHeartbeats 0
def tblC1b : List (Smry Try.prog XE) := [readX, fixedS, counterS, slotS]
def scrC1b (g node : Nat) (segs : Nat → Nat) (q : Nat × Nat) (l l2 : List (Nat × Nat)) : Scr XE := .both (onScr g segs (q :: l) node) (.both (onScr g segs (q :: l2) node) .nil)
/-- What the executor leaves to be shown, written out. -/
theorem colS1b_vc (g node : Nat) (segs : Nat → Nat) (q : Nat × Nat) (l l2 : List (Nat × Nat)) (hl2 : l2 = l ++ [(segs g, node - 1)]) (A : Ar) (cap : Nat) (hlen : (q :: l).length < 1000000000) (hg : g < 8) (hn : 1 ≤ node ∧ node < 2 * 2 ^ g) (hA : A.Has (segs g : Int) (5 * 2 ^ g + node : Nat)) : (callN Try.prog tblC1b (fun _ _ => false) 100 20 19 [.c (.ptr 0 0)] ⟨colH.heap ⟨1, g, node, segs, q :: l⟩ cap ++ [(1, arO A)], 100⟩ (scrC1b g node segs q l l2) (fun v m _ => colPost (colCnt ⟨1, g, node, segs, q :: l⟩ A) A.read v m)) = (
    ((0 : Int) ≤ (↑g : Int) ∧ (↑g : Int) < (8 : Int)) ∧ (↑g : Int).toNat < (8 : Nat) ∧ ((0 : Int) ≤ [(↑(segs (0 : Nat)) : Int), (↑(segs (1 : Nat)) : Int), (↑(segs (2 : Nat)) : Int),
    (↑(segs (3 : Nat)) : Int), (↑(segs (4 : Nat)) : Int), (↑(segs (5 : Nat)) : Int), (↑(segs (6 : Nat)) : Int), (↑(segs (7 : Nat)) : Int)].getD (↑g : Int).toNat (0 : Int) ∧ (((A.Has (if
    inC (↑g : Int) (↑node : Int) = true then [(↑(segs (0 : Nat)) : Int), (↑(segs (1 : Nat)) : Int), (↑(segs (2 : Nat)) : Int), (↑(segs (3 : Nat)) : Int), (↑(segs (4 : Nat)) : Int),
    (↑(segs (5 : Nat)) : Int), (↑(segs (6 : Nat)) : Int), (↑(segs (7 : Nat)) : Int)].getD (↑g : Int).toNat (0 : Int) else (0 : Int)) (if inC (↑g : Int) (↑node : Int) = true then (5 :
    Int) * (↑((2 : Nat) ^ (↑g : Int).toNat) : Int) + (↑node : Int) else (0 : Int)) ∧ ((((↑(A.rd (if inC (↑g : Int) (↑node : Int) = true then [(↑(segs (0 : Nat)) : Int), (↑(segs (1 :
    Nat)) : Int), (↑(segs (2 : Nat)) : Int), (↑(segs (3 : Nat)) : Int), (↑(segs (4 : Nat)) : Int), (↑(segs (5 : Nat)) : Int), (↑(segs (6 : Nat)) : Int), (↑(segs (7 : Nat)) : Int)].getD
    (↑g : Int).toNat (0 : Int) else (0 : Int)) (if inC (↑g : Int) (↑node : Int) = true then (5 : Int) * (↑((2 : Nat) ^ (↑g : Int).toNat) : Int) + (↑node : Int) else (0 : Int))) : Int)
    == (0 : Int)) = true → (∃ (y : OnY node), XO.ar A.read = XO.ar A.read ∧ ((((0 : Nat) = (0 : Nat) ∧ True) ∧ True) ∧ (0 : Nat) = (0 : Nat) ∧ (↑g : Int) = (↑g : Int) ∧ (↑y.val.fst :
    Int) = (↑node : Int) ∧ (↑(segs (0 : Nat)) : Int) = (↑(segs (0 : Nat)) : Int) ∧ (↑(segs (1 : Nat)) : Int) = (↑(segs (1 : Nat)) : Int) ∧ (↑(segs (2 : Nat)) : Int) = (↑(segs (2 : Nat))
    : Int) ∧ (↑(segs (3 : Nat)) : Int) = (↑(segs (3 : Nat)) : Int) ∧ (↑(segs (4 : Nat)) : Int) = (↑(segs (4 : Nat)) : Int) ∧ (↑(segs (5 : Nat)) : Int) = (↑(segs (5 : Nat)) : Int) ∧
    (↑(segs (6 : Nat)) : Int) = (↑(segs (6 : Nat)) : Int) ∧ (↑(segs (7 : Nat)) : Int) = (↑(segs (7 : Nat)) : Int) ∧ ((0 : Nat) = (0 : Nat) ∧ (q :: l).length = (q :: l).length ∧
    y.val.snd = cap) ∧ True) ∧ ((q :: l).length = (q :: l).length ∧ y.val.snd = cap ∧ ∀ (i : Nat), i < (q :: l).length → [Value.int IntKind.u64 (↑((q :: l).getD i ((0 : Nat), (0 :
    Nat))).fst : Int), Value.int IntKind.i64 (↑((q :: l).getD i ((0 : Nat), (0 : Nat))).snd : Int)] = [Value.int IntKind.u64 (↑((q :: l).getD i ((0 : Nat), (0 : Nat))).fst : Int),
    Value.int IntKind.i64 (↑((q :: l).getD i ((0 : Nat), (0 : Nat))).snd : Int)]) ∧ True) ∧ ∀ (y : OnY node) (ρ : Nat → Value), (decide ((↑y.val.fst : Int) > (1 : Int)) = true → ((0 :
    Int) ≤ (↑y.val.fst : Int) ∧ (0 : Int) < (2 : Int)) ∧ (((↑y.val.fst : Int) % (2 : Int) == (1 : Int)) = true → ((0 : Int) ≤ (↑y.val.fst : Int) ∧ (0 : Int) < (2 : Int) ∧
    (-9223372036854775808 : Int) ≤ (↑y.val.fst : Int) ∧ (↑y.val.fst : Int) ≤ (9223372036854775807 : Int)) ∧ ∃ (y' : OnY node), y'.val.fst < y.val.fst ∧ XO.ar A.read = XO.ar A.read ∧
    ((((0 : Nat) = (0 : Nat) ∧ True) ∧ True) ∧ (0 : Nat) = (0 : Nat) ∧ (↑g : Int) = (↑g : Int) ∧ (↑y'.val.fst : Int) = (↑y.val.fst : Int) / (2 : Int) ∧ (↑(segs (0 : Nat)) : Int) =
    (↑(segs (0 : Nat)) : Int) ∧ (↑(segs (1 : Nat)) : Int) = (↑(segs (1 : Nat)) : Int) ∧ (↑(segs (2 : Nat)) : Int) = (↑(segs (2 : Nat)) : Int) ∧ (↑(segs (3 : Nat)) : Int) = (↑(segs (3 :
    Nat)) : Int) ∧ (↑(segs (4 : Nat)) : Int) = (↑(segs (4 : Nat)) : Int) ∧ (↑(segs (5 : Nat)) : Int) = (↑(segs (5 : Nat)) : Int) ∧ (↑(segs (6 : Nat)) : Int) = (↑(segs (6 : Nat)) : Int)
    ∧ (↑(segs (7 : Nat)) : Int) = (↑(segs (7 : Nat)) : Int) ∧ ((0 : Nat) = (0 : Nat) ∧ (q :: l).length = (q :: l).length ∧ y'.val.snd = y.val.snd) ∧ True) ∧ ((q :: l).length = (q ::
    l).length ∧ y'.val.snd = y.val.snd ∧ ∀ (i : Nat), i < (q :: l).length → [Value.int IntKind.u64 (↑((q :: l).getD i ((0 : Nat), (0 : Nat))).fst : Int), Value.int IntKind.i64 (↑((q ::
    l).getD i ((0 : Nat), (0 : Nat))).snd : Int)] = [Value.int IntKind.u64 (↑((q :: l).getD i ((0 : Nat), (0 : Nat))).fst : Int), Value.int IntKind.i64 (↑((q :: l).getD i ((0 : Nat), (0
    : Nat))).snd : Int)]) ∧ True) ∧ (((↑y.val.fst : Int) % (2 : Int) == (1 : Int)) = false → (decide ((↑y.val.fst : Int) > (1 : Int)) = true → ((-9223372036854775808 : Int) ≤
    (↑y.val.fst : Int) + (1 : Int) ∧ (↑y.val.fst : Int) + (1 : Int) ≤ (9223372036854775807 : Int)) ∧ ∃ (g_1 : Nat), ∃ (node_1 : Nat), ∃ (segs_1 : Nat → Nat), ∃ (q_1 : Nat × Nat), ∃ (l_1
    : List (Nat × Nat)), ∃ (z : Nat), Is (Col.mk (1 : Nat) g_1 node_1 segs_1 (q_1 :: l_1)) (colCnt (Col.mk (1 : Nat) g node segs (q :: l)) A) ∧ ((((0 : Nat) = (0 : Nat) ∧ True) ∧ True)
    ∧ (0 : Nat) = (0 : Nat) ∧ (↑g_1 : Int) = (↑g : Int) ∧ (↑node_1 : Int) = (↑y.val.fst : Int) + (1 : Int) ∧ (↑(segs_1 (0 : Nat)) : Int) = (↑(segs (0 : Nat)) : Int) ∧ (↑(segs_1 (1 :
    Nat)) : Int) = (↑(segs (1 : Nat)) : Int) ∧ (↑(segs_1 (2 : Nat)) : Int) = (↑(segs (2 : Nat)) : Int) ∧ (↑(segs_1 (3 : Nat)) : Int) = (↑(segs (3 : Nat)) : Int) ∧ (↑(segs_1 (4 : Nat)) :
    Int) = (↑(segs (4 : Nat)) : Int) ∧ (↑(segs_1 (5 : Nat)) : Int) = (↑(segs (5 : Nat)) : Int) ∧ (↑(segs_1 (6 : Nat)) : Int) = (↑(segs (6 : Nat)) : Int) ∧ (↑(segs_1 (7 : Nat)) : Int) =
    (↑(segs (7 : Nat)) : Int) ∧ ((0 : Nat) = (0 : Nat) ∧ (q_1 :: l_1).length = (q :: l).length ∧ z = y.val.snd) ∧ True) ∧ ((q_1 :: l_1).length = (q :: l).length ∧ z = y.val.snd ∧ ∀ (i :
    Nat), i < (q_1 :: l_1).length → [Value.int IntKind.u64 (↑((q_1 :: l_1).getD i ((0 : Nat), (0 : Nat))).fst : Int), Value.int IntKind.i64 (↑((q_1 :: l_1).getD i ((0 : Nat), (0 :
    Nat))).snd : Int)] = [Value.int IntKind.u64 (↑((q :: l).getD i ((0 : Nat), (0 : Nat))).fst : Int), Value.int IntKind.i64 (↑((q :: l).getD i ((0 : Nat), (0 : Nat))).snd : Int)]) ∧
    A.read = A.read ∧ True) ∧ (decide ((↑y.val.fst : Int) > (1 : Int)) = false → ((-9223372036854775808 : Int) ≤ (↑g : Int) + (1 : Int) ∧ (↑g : Int) + (1 : Int) ≤ (9223372036854775807 :
    Int)) ∧ (((↑g : Int) + (1 : Int) == (8 : Int)) = true → ∃ (g_1 : Nat), ∃ (node_1 : Nat), ∃ (segs_1 : Nat → Nat), ∃ (q_1 : Nat × Nat), ∃ (l_1 : List (Nat × Nat)), ∃ (z : Nat), Is
    (Col.mk (2 : Nat) g_1 node_1 segs_1 (q_1 :: l_1)) (colCnt (Col.mk (1 : Nat) g node segs (q :: l)) A) ∧ (Value.nilFunc = Value.nilFunc ∧ (0 : Nat) = (0 : Nat) ∧ (↑g_1 : Int) = (↑g :
    Int) + (1 : Int) ∧ (↑node_1 : Int) = (↑y.val.fst : Int) ∧ (↑(segs_1 (0 : Nat)) : Int) = (↑(segs (0 : Nat)) : Int) ∧ (↑(segs_1 (1 : Nat)) : Int) = (↑(segs (1 : Nat)) : Int) ∧
    (↑(segs_1 (2 : Nat)) : Int) = (↑(segs (2 : Nat)) : Int) ∧ (↑(segs_1 (3 : Nat)) : Int) = (↑(segs (3 : Nat)) : Int) ∧ (↑(segs_1 (4 : Nat)) : Int) = (↑(segs (4 : Nat)) : Int) ∧
    (↑(segs_1 (5 : Nat)) : Int) = (↑(segs (5 : Nat)) : Int) ∧ (↑(segs_1 (6 : Nat)) : Int) = (↑(segs (6 : Nat)) : Int) ∧ (↑(segs_1 (7 : Nat)) : Int) = (↑(segs (7 : Nat)) : Int) ∧ ((0 :
    Nat) = (0 : Nat) ∧ (q_1 :: l_1).length = (q :: l).length ∧ z = y.val.snd) ∧ True) ∧ ((q_1 :: l_1).length = (q :: l).length ∧ z = y.val.snd ∧ ∀ (i : Nat), i < (q_1 :: l_1).length →
    [Value.int IntKind.u64 (↑((q_1 :: l_1).getD i ((0 : Nat), (0 : Nat))).fst : Int), Value.int IntKind.i64 (↑((q_1 :: l_1).getD i ((0 : Nat), (0 : Nat))).snd : Int)] = [Value.int
    IntKind.u64 (↑((q :: l).getD i ((0 : Nat), (0 : Nat))).fst : Int), Value.int IntKind.i64 (↑((q :: l).getD i ((0 : Nat), (0 : Nat))).snd : Int)]) ∧ A.read = A.read ∧ True) ∧ (((↑g :
    Int) + (1 : Int) == (8 : Int)) = false → ∃ (g_1 : Nat), ∃ (node_1 : Nat), ∃ (segs_1 : Nat → Nat), ∃ (q_1 : Nat × Nat), ∃ (l_1 : List (Nat × Nat)), ∃ (z : Nat), Is (Col.mk (0 : Nat)
    g_1 node_1 segs_1 (q_1 :: l_1)) (colCnt (Col.mk (1 : Nat) g node segs (q :: l)) A) ∧ ((((0 : Nat) = (0 : Nat) ∧ True) ∧ True) ∧ (0 : Nat) = (0 : Nat) ∧ (↑g_1 : Int) = (↑g : Int) +
    (1 : Int) ∧ (↑node_1 : Int) = (↑y.val.fst : Int) ∧ (↑(segs_1 (0 : Nat)) : Int) = (↑(segs (0 : Nat)) : Int) ∧ (↑(segs_1 (1 : Nat)) : Int) = (↑(segs (1 : Nat)) : Int) ∧ (↑(segs_1 (2 :
    Nat)) : Int) = (↑(segs (2 : Nat)) : Int) ∧ (↑(segs_1 (3 : Nat)) : Int) = (↑(segs (3 : Nat)) : Int) ∧ (↑(segs_1 (4 : Nat)) : Int) = (↑(segs (4 : Nat)) : Int) ∧ (↑(segs_1 (5 : Nat)) :
    Int) = (↑(segs (5 : Nat)) : Int) ∧ (↑(segs_1 (6 : Nat)) : Int) = (↑(segs (6 : Nat)) : Int) ∧ (↑(segs_1 (7 : Nat)) : Int) = (↑(segs (7 : Nat)) : Int) ∧ ((0 : Nat) = (0 : Nat) ∧ (q_1
    :: l_1).length = (q :: l).length ∧ z = y.val.snd) ∧ True) ∧ ((q_1 :: l_1).length = (q :: l).length ∧ z = y.val.snd ∧ ∀ (i : Nat), i < (q_1 :: l_1).length → [Value.int IntKind.u64
    (↑((q_1 :: l_1).getD i ((0 : Nat), (0 : Nat))).fst : Int), Value.int IntKind.i64 (↑((q_1 :: l_1).getD i ((0 : Nat), (0 : Nat))).snd : Int)] = [Value.int IntKind.u64 (↑((q :: l).getD
    i ((0 : Nat), (0 : Nat))).fst : Int), Value.int IntKind.i64 (↑((q :: l).getD i ((0 : Nat), (0 : Nat))).snd : Int)]) ∧ A.read = A.read ∧ True)))) ∧ (decide ((↑y.val.fst : Int) > (1 :
    Int)) = false → (decide ((↑y.val.fst : Int) > (1 : Int)) = true → ((-9223372036854775808 : Int) ≤ (↑y.val.fst : Int) + (1 : Int) ∧ (↑y.val.fst : Int) + (1 : Int) ≤
    (9223372036854775807 : Int)) ∧ ∃ (g_1 : Nat), ∃ (node_1 : Nat), ∃ (segs_1 : Nat → Nat), ∃ (q_1 : Nat × Nat), ∃ (l_1 : List (Nat × Nat)), ∃ (z : Nat), Is (Col.mk (1 : Nat) g_1 node_1
    segs_1 (q_1 :: l_1)) (colCnt (Col.mk (1 : Nat) g node segs (q :: l)) A) ∧ ((((0 : Nat) = (0 : Nat) ∧ True) ∧ True) ∧ (0 : Nat) = (0 : Nat) ∧ (↑g_1 : Int) = (↑g : Int) ∧ (↑node_1 :
    Int) = (↑y.val.fst : Int) + (1 : Int) ∧ (↑(segs_1 (0 : Nat)) : Int) = (↑(segs (0 : Nat)) : Int) ∧ (↑(segs_1 (1 : Nat)) : Int) = (↑(segs (1 : Nat)) : Int) ∧ (↑(segs_1 (2 : Nat)) :
    Int) = (↑(segs (2 : Nat)) : Int) ∧ (↑(segs_1 (3 : Nat)) : Int) = (↑(segs (3 : Nat)) : Int) ∧ (↑(segs_1 (4 : Nat)) : Int) = (↑(segs (4 : Nat)) : Int) ∧ (↑(segs_1 (5 : Nat)) : Int) =
    (↑(segs (5 : Nat)) : Int) ∧ (↑(segs_1 (6 : Nat)) : Int) = (↑(segs (6 : Nat)) : Int) ∧ (↑(segs_1 (7 : Nat)) : Int) = (↑(segs (7 : Nat)) : Int) ∧ ((0 : Nat) = (0 : Nat) ∧ (q_1 ::
    l_1).length = (q :: l).length ∧ z = y.val.snd) ∧ True) ∧ ((q_1 :: l_1).length = (q :: l).length ∧ z = y.val.snd ∧ ∀ (i : Nat), i < (q_1 :: l_1).length → [Value.int IntKind.u64
    (↑((q_1 :: l_1).getD i ((0 : Nat), (0 : Nat))).fst : Int), Value.int IntKind.i64 (↑((q_1 :: l_1).getD i ((0 : Nat), (0 : Nat))).snd : Int)] = [Value.int IntKind.u64 (↑((q :: l).getD
    i ((0 : Nat), (0 : Nat))).fst : Int), Value.int IntKind.i64 (↑((q :: l).getD i ((0 : Nat), (0 : Nat))).snd : Int)]) ∧ A.read = A.read ∧ True) ∧ (decide ((↑y.val.fst : Int) > (1 :
    Int)) = false → ((-9223372036854775808 : Int) ≤ (↑g : Int) + (1 : Int) ∧ (↑g : Int) + (1 : Int) ≤ (9223372036854775807 : Int)) ∧ (((↑g : Int) + (1 : Int) == (8 : Int)) = true → ∃
    (g_1 : Nat), ∃ (node_1 : Nat), ∃ (segs_1 : Nat → Nat), ∃ (q_1 : Nat × Nat), ∃ (l_1 : List (Nat × Nat)), ∃ (z : Nat), Is (Col.mk (2 : Nat) g_1 node_1 segs_1 (q_1 :: l_1)) (colCnt
    (Col.mk (1 : Nat) g node segs (q :: l)) A) ∧ (Value.nilFunc = Value.nilFunc ∧ (0 : Nat) = (0 : Nat) ∧ (↑g_1 : Int) = (↑g : Int) + (1 : Int) ∧ (↑node_1 : Int) = (↑y.val.fst : Int) ∧
    (↑(segs_1 (0 : Nat)) : Int) = (↑(segs (0 : Nat)) : Int) ∧ (↑(segs_1 (1 : Nat)) : Int) = (↑(segs (1 : Nat)) : Int) ∧ (↑(segs_1 (2 : Nat)) : Int) = (↑(segs (2 : Nat)) : Int) ∧
    (↑(segs_1 (3 : Nat)) : Int) = (↑(segs (3 : Nat)) : Int) ∧ (↑(segs_1 (4 : Nat)) : Int) = (↑(segs (4 : Nat)) : Int) ∧ (↑(segs_1 (5 : Nat)) : Int) = (↑(segs (5 : Nat)) : Int) ∧
    (↑(segs_1 (6 : Nat)) : Int) = (↑(segs (6 : Nat)) : Int) ∧ (↑(segs_1 (7 : Nat)) : Int) = (↑(segs (7 : Nat)) : Int) ∧ ((0 : Nat) = (0 : Nat) ∧ (q_1 :: l_1).length = (q :: l).length ∧
    z = y.val.snd) ∧ True) ∧ ((q_1 :: l_1).length = (q :: l).length ∧ z = y.val.snd ∧ ∀ (i : Nat), i < (q_1 :: l_1).length → [Value.int IntKind.u64 (↑((q_1 :: l_1).getD i ((0 : Nat), (0
    : Nat))).fst : Int), Value.int IntKind.i64 (↑((q_1 :: l_1).getD i ((0 : Nat), (0 : Nat))).snd : Int)] = [Value.int IntKind.u64 (↑((q :: l).getD i ((0 : Nat), (0 : Nat))).fst : Int),
    Value.int IntKind.i64 (↑((q :: l).getD i ((0 : Nat), (0 : Nat))).snd : Int)]) ∧ A.read = A.read ∧ True) ∧ (((↑g : Int) + (1 : Int) == (8 : Int)) = false → ∃ (g_1 : Nat), ∃ (node_1 :
    Nat), ∃ (segs_1 : Nat → Nat), ∃ (q_1 : Nat × Nat), ∃ (l_1 : List (Nat × Nat)), ∃ (z : Nat), Is (Col.mk (0 : Nat) g_1 node_1 segs_1 (q_1 :: l_1)) (colCnt (Col.mk (1 : Nat) g node
    segs (q :: l)) A) ∧ ((((0 : Nat) = (0 : Nat) ∧ True) ∧ True) ∧ (0 : Nat) = (0 : Nat) ∧ (↑g_1 : Int) = (↑g : Int) + (1 : Int) ∧ (↑node_1 : Int) = (↑y.val.fst : Int) ∧ (↑(segs_1 (0 :
    Nat)) : Int) = (↑(segs (0 : Nat)) : Int) ∧ (↑(segs_1 (1 : Nat)) : Int) = (↑(segs (1 : Nat)) : Int) ∧ (↑(segs_1 (2 : Nat)) : Int) = (↑(segs (2 : Nat)) : Int) ∧ (↑(segs_1 (3 : Nat)) :
    Int) = (↑(segs (3 : Nat)) : Int) ∧ (↑(segs_1 (4 : Nat)) : Int) = (↑(segs (4 : Nat)) : Int) ∧ (↑(segs_1 (5 : Nat)) : Int) = (↑(segs (5 : Nat)) : Int) ∧ (↑(segs_1 (6 : Nat)) : Int) =
    (↑(segs (6 : Nat)) : Int) ∧ (↑(segs_1 (7 : Nat)) : Int) = (↑(segs (7 : Nat)) : Int) ∧ ((0 : Nat) = (0 : Nat) ∧ (q_1 :: l_1).length = (q :: l).length ∧ z = y.val.snd) ∧ True) ∧ ((q_1
    :: l_1).length = (q :: l).length ∧ z = y.val.snd ∧ ∀ (i : Nat), i < (q_1 :: l_1).length → [Value.int IntKind.u64 (↑((q_1 :: l_1).getD i ((0 : Nat), (0 : Nat))).fst : Int), Value.int
    IntKind.i64 (↑((q_1 :: l_1).getD i ((0 : Nat), (0 : Nat))).snd : Int)] = [Value.int IntKind.u64 (↑((q :: l).getD i ((0 : Nat), (0 : Nat))).fst : Int), Value.int IntKind.i64 (↑((q ::
    l).getD i ((0 : Nat), (0 : Nat))).snd : Int)]) ∧ A.read = A.read ∧ True)))) ∧ (((↑(A.rd (if inC (↑g : Int) (↑node : Int) = true then [(↑(segs (0 : Nat)) : Int), (↑(segs (1 : Nat)) :
    Int), (↑(segs (2 : Nat)) : Int), (↑(segs (3 : Nat)) : Int), (↑(segs (4 : Nat)) : Int), (↑(segs (5 : Nat)) : Int), (↑(segs (6 : Nat)) : Int), (↑(segs (7 : Nat)) : Int)].getD (↑g :
    Int).toNat (0 : Int) else (0 : Int)) (if inC (↑g : Int) (↑node : Int) = true then (5 : Int) * (↑((2 : Nat) ^ (↑g : Int).toNat) : Int) + (↑node : Int) else (0 : Int))) : Int) == (0 :
    Int)) = false → (inL (↑g : Int) (↑node : Int) = true → ((((0 : Int) ≤ (↑g : Int) ∧ (↑g : Int) < (8 : Int)) ∧ ((↑g : Int).toNat < (8 : Nat) ∧ (((cap = cap ∧ (q :: l).length ≤ (q ::
    l).length) ∧ True ∧ (q :: l).length + (1 : Nat) ≤ (1000000000 : Nat) ∧ ∀ (cap : Nat), (q :: l).length + (1 : Nat) ≤ cap → ((∃ (y : OnY node), XO.ar A.read = XO.ar A.read ∧ ((((0 :
    Nat) = (0 : Nat) ∧ True) ∧ True) ∧ (0 : Nat) = (0 : Nat) ∧ (↑g : Int) = (↑g : Int) ∧ (↑y.val.fst : Int) = (↑node : Int) ∧ (↑(segs (0 : Nat)) : Int) = (↑(segs (0 : Nat)) : Int) ∧
    (↑(segs (1 : Nat)) : Int) = (↑(segs (1 : Nat)) : Int) ∧ (↑(segs (2 : Nat)) : Int) = (↑(segs (2 : Nat)) : Int) ∧ (↑(segs (3 : Nat)) : Int) = (↑(segs (3 : Nat)) : Int) ∧ (↑(segs (4 :
    Nat)) : Int) = (↑(segs (4 : Nat)) : Int) ∧ (↑(segs (5 : Nat)) : Int) = (↑(segs (5 : Nat)) : Int) ∧ (↑(segs (6 : Nat)) : Int) = (↑(segs (6 : Nat)) : Int) ∧ (↑(segs (7 : Nat)) : Int)
    = (↑(segs (7 : Nat)) : Int) ∧ ((0 : Nat) = (0 : Nat) ∧ (q :: l2).length = (q :: l).length + (1 : Nat) ∧ y.val.snd = cap) ∧ True) ∧ ((q :: l2).length = (q :: l).length + (1 : Nat) ∧
    y.val.snd = cap ∧ ∀ (i : Nat), i < (q :: l2).length → [Value.int IntKind.u64 (↑((q :: l2).getD i ((0 : Nat), (0 : Nat))).fst : Int), Value.int IntKind.i64 (↑((q :: l2).getD i ((0 :
    Nat), (0 : Nat))).snd : Int)] = if i < (q :: l).length then plF (q :: l) i else [Value.int IntKind.u64 ([(↑((Col.mk (1 : Nat) g node segs (q :: l)).segs (0 : Nat)) : Int),
    (↑((Col.mk (1 : Nat) g node segs (q :: l)).segs (1 : Nat)) : Int), (↑((Col.mk (1 : Nat) g node segs (q :: l)).segs (2 : Nat)) : Int), (↑((Col.mk (1 : Nat) g node segs (q :: l)).segs
    (3 : Nat)) : Int), (↑((Col.mk (1 : Nat) g node segs (q :: l)).segs (4 : Nat)) : Int), (↑((Col.mk (1 : Nat) g node segs (q :: l)).segs (5 : Nat)) : Int), (↑((Col.mk (1 : Nat) g node
    segs (q :: l)).segs (6 : Nat)) : Int), (↑((Col.mk (1 : Nat) g node segs (q :: l)).segs (7 : Nat)) : Int)].getD (↑(Col.mk (1 : Nat) g node segs (q :: l)).g : Int).toNat (0 : Int)),
    Value.int IntKind.i64 (if inL (↑(Col.mk (1 : Nat) g node segs (q :: l)).g : Int) (↑(Col.mk (1 : Nat) g node segs (q :: l)).node : Int) = true then (↑(Col.mk (1 : Nat) g node segs (q
    :: l)).node : Int) - (1 : Int) else (0 : Int))]) ∧ True) ∧ ∀ (y : OnY node) (ρ : Nat → Value), (decide ((↑y.val.fst : Int) > (1 : Int)) = true → ((0 : Int) ≤ (↑y.val.fst : Int) ∧ (0
    : Int) < (2 : Int)) ∧ (((↑y.val.fst : Int) % (2 : Int) == (1 : Int)) = true → ((0 : Int) ≤ (↑y.val.fst : Int) ∧ (0 : Int) < (2 : Int) ∧ (-9223372036854775808 : Int) ≤ (↑y.val.fst :
    Int) ∧ (↑y.val.fst : Int) ≤ (9223372036854775807 : Int)) ∧ ∃ (y' : OnY node), y'.val.fst < y.val.fst ∧ XO.ar A.read = XO.ar A.read ∧ ((((0 : Nat) = (0 : Nat) ∧ True) ∧ True) ∧ (0 :
    Nat) = (0 : Nat) ∧ (↑g : Int) = (↑g : Int) ∧ (↑y'.val.fst : Int) = (↑y.val.fst : Int) / (2 : Int) ∧ (↑(segs (0 : Nat)) : Int) = (↑(segs (0 : Nat)) : Int) ∧ (↑(segs (1 : Nat)) : Int)
    = (↑(segs (1 : Nat)) : Int) ∧ (↑(segs (2 : Nat)) : Int) = (↑(segs (2 : Nat)) : Int) ∧ (↑(segs (3 : Nat)) : Int) = (↑(segs (3 : Nat)) : Int) ∧ (↑(segs (4 : Nat)) : Int) = (↑(segs (4
    : Nat)) : Int) ∧ (↑(segs (5 : Nat)) : Int) = (↑(segs (5 : Nat)) : Int) ∧ (↑(segs (6 : Nat)) : Int) = (↑(segs (6 : Nat)) : Int) ∧ (↑(segs (7 : Nat)) : Int) = (↑(segs (7 : Nat)) :
    Int) ∧ ((0 : Nat) = (0 : Nat) ∧ (q :: l2).length = (q :: l2).length ∧ y'.val.snd = y.val.snd) ∧ True) ∧ ((q :: l2).length = (q :: l2).length ∧ y'.val.snd = y.val.snd ∧ ∀ (i : Nat),
    i < (q :: l2).length → [Value.int IntKind.u64 (↑((q :: l2).getD i ((0 : Nat), (0 : Nat))).fst : Int), Value.int IntKind.i64 (↑((q :: l2).getD i ((0 : Nat), (0 : Nat))).snd : Int)] =
    [Value.int IntKind.u64 (↑((q :: l2).getD i ((0 : Nat), (0 : Nat))).fst : Int), Value.int IntKind.i64 (↑((q :: l2).getD i ((0 : Nat), (0 : Nat))).snd : Int)]) ∧ True) ∧ (((↑y.val.fst
    : Int) % (2 : Int) == (1 : Int)) = false → (decide ((↑y.val.fst : Int) > (1 : Int)) = true → ((-9223372036854775808 : Int) ≤ (↑y.val.fst : Int) + (1 : Int) ∧ (↑y.val.fst : Int) + (1
    : Int) ≤ (9223372036854775807 : Int)) ∧ ∃ (g_1 : Nat), ∃ (node_1 : Nat), ∃ (segs_1 : Nat → Nat), ∃ (q_1 : Nat × Nat), ∃ (l_1 : List (Nat × Nat)), ∃ (z : Nat), Is (Col.mk (1 : Nat)
    g_1 node_1 segs_1 (q_1 :: l_1)) (colCnt (Col.mk (1 : Nat) g node segs (q :: l)) A) ∧ ((((0 : Nat) = (0 : Nat) ∧ True) ∧ True) ∧ (0 : Nat) = (0 : Nat) ∧ (↑g_1 : Int) = (↑g : Int) ∧
    (↑node_1 : Int) = (↑y.val.fst : Int) + (1 : Int) ∧ (↑(segs_1 (0 : Nat)) : Int) = (↑(segs (0 : Nat)) : Int) ∧ (↑(segs_1 (1 : Nat)) : Int) = (↑(segs (1 : Nat)) : Int) ∧ (↑(segs_1 (2 :
    Nat)) : Int) = (↑(segs (2 : Nat)) : Int) ∧ (↑(segs_1 (3 : Nat)) : Int) = (↑(segs (3 : Nat)) : Int) ∧ (↑(segs_1 (4 : Nat)) : Int) = (↑(segs (4 : Nat)) : Int) ∧ (↑(segs_1 (5 : Nat)) :
    Int) = (↑(segs (5 : Nat)) : Int) ∧ (↑(segs_1 (6 : Nat)) : Int) = (↑(segs (6 : Nat)) : Int) ∧ (↑(segs_1 (7 : Nat)) : Int) = (↑(segs (7 : Nat)) : Int) ∧ ((0 : Nat) = (0 : Nat) ∧ (q_1
    :: l_1).length = (q :: l2).length ∧ z = y.val.snd) ∧ True) ∧ ((q_1 :: l_1).length = (q :: l2).length ∧ z = y.val.snd ∧ ∀ (i : Nat), i < (q_1 :: l_1).length → [Value.int IntKind.u64
    (↑((q_1 :: l_1).getD i ((0 : Nat), (0 : Nat))).fst : Int), Value.int IntKind.i64 (↑((q_1 :: l_1).getD i ((0 : Nat), (0 : Nat))).snd : Int)] = [Value.int IntKind.u64 (↑((q ::
    l2).getD i ((0 : Nat), (0 : Nat))).fst : Int), Value.int IntKind.i64 (↑((q :: l2).getD i ((0 : Nat), (0 : Nat))).snd : Int)]) ∧ A.read = A.read ∧ True) ∧ (decide ((↑y.val.fst : Int)
    > (1 : Int)) = false → ((-9223372036854775808 : Int) ≤ (↑g : Int) + (1 : Int) ∧ (↑g : Int) + (1 : Int) ≤ (9223372036854775807 : Int)) ∧ (((↑g : Int) + (1 : Int) == (8 : Int)) = true
    → ∃ (g_1 : Nat), ∃ (node_1 : Nat), ∃ (segs_1 : Nat → Nat), ∃ (q_1 : Nat × Nat), ∃ (l_1 : List (Nat × Nat)), ∃ (z : Nat), Is (Col.mk (2 : Nat) g_1 node_1 segs_1 (q_1 :: l_1)) (colCnt
    (Col.mk (1 : Nat) g node segs (q :: l)) A) ∧ (Value.nilFunc = Value.nilFunc ∧ (0 : Nat) = (0 : Nat) ∧ (↑g_1 : Int) = (↑g : Int) + (1 : Int) ∧ (↑node_1 : Int) = (↑y.val.fst : Int) ∧
    (↑(segs_1 (0 : Nat)) : Int) = (↑(segs (0 : Nat)) : Int) ∧ (↑(segs_1 (1 : Nat)) : Int) = (↑(segs (1 : Nat)) : Int) ∧ (↑(segs_1 (2 : Nat)) : Int) = (↑(segs (2 : Nat)) : Int) ∧
    (↑(segs_1 (3 : Nat)) : Int) = (↑(segs (3 : Nat)) : Int) ∧ (↑(segs_1 (4 : Nat)) : Int) = (↑(segs (4 : Nat)) : Int) ∧ (↑(segs_1 (5 : Nat)) : Int) = (↑(segs (5 : Nat)) : Int) ∧
    (↑(segs_1 (6 : Nat)) : Int) = (↑(segs (6 : Nat)) : Int) ∧ (↑(segs_1 (7 : Nat)) : Int) = (↑(segs (7 : Nat)) : Int) ∧ ((0 : Nat) = (0 : Nat) ∧ (q_1 :: l_1).length = (q :: l2).length ∧
    z = y.val.snd) ∧ True) ∧ ((q_1 :: l_1).length = (q :: l2).length ∧ z = y.val.snd ∧ ∀ (i : Nat), i < (q_1 :: l_1).length → [Value.int IntKind.u64 (↑((q_1 :: l_1).getD i ((0 : Nat),
    (0 : Nat))).fst : Int), Value.int IntKind.i64 (↑((q_1 :: l_1).getD i ((0 : Nat), (0 : Nat))).snd : Int)] = [Value.int IntKind.u64 (↑((q :: l2).getD i ((0 : Nat), (0 : Nat))).fst :
    Int), Value.int IntKind.i64 (↑((q :: l2).getD i ((0 : Nat), (0 : Nat))).snd : Int)]) ∧ A.read = A.read ∧ True) ∧ (((↑g : Int) + (1 : Int) == (8 : Int)) = false → ∃ (g_1 : Nat), ∃
    (node_1 : Nat), ∃ (segs_1 : Nat → Nat), ∃ (q_1 : Nat × Nat), ∃ (l_1 : List (Nat × Nat)), ∃ (z : Nat), Is (Col.mk (0 : Nat) g_1 node_1 segs_1 (q_1 :: l_1)) (colCnt (Col.mk (1 : Nat)
    g node segs (q :: l)) A) ∧ ((((0 : Nat) = (0 : Nat) ∧ True) ∧ True) ∧ (0 : Nat) = (0 : Nat) ∧ (↑g_1 : Int) = (↑g : Int) + (1 : Int) ∧ (↑node_1 : Int) = (↑y.val.fst : Int) ∧
    (↑(segs_1 (0 : Nat)) : Int) = (↑(segs (0 : Nat)) : Int) ∧ (↑(segs_1 (1 : Nat)) : Int) = (↑(segs (1 : Nat)) : Int) ∧ (↑(segs_1 (2 : Nat)) : Int) = (↑(segs (2 : Nat)) : Int) ∧
    (↑(segs_1 (3 : Nat)) : Int) = (↑(segs (3 : Nat)) : Int) ∧ (↑(segs_1 (4 : Nat)) : Int) = (↑(segs (4 : Nat)) : Int) ∧ (↑(segs_1 (5 : Nat)) : Int) = (↑(segs (5 : Nat)) : Int) ∧
    (↑(segs_1 (6 : Nat)) : Int) = (↑(segs (6 : Nat)) : Int) ∧ (↑(segs_1 (7 : Nat)) : Int) = (↑(segs (7 : Nat)) : Int) ∧ ((0 : Nat) = (0 : Nat) ∧ (q_1 :: l_1).length = (q :: l2).length ∧
    z = y.val.snd) ∧ True) ∧ ((q_1 :: l_1).length = (q :: l2).length ∧ z = y.val.snd ∧ ∀ (i : Nat), i < (q_1 :: l_1).length → [Value.int IntKind.u64 (↑((q_1 :: l_1).getD i ((0 : Nat),
    (0 : Nat))).fst : Int), Value.int IntKind.i64 (↑((q_1 :: l_1).getD i ((0 : Nat), (0 : Nat))).snd : Int)] = [Value.int IntKind.u64 (↑((q :: l2).getD i ((0 : Nat), (0 : Nat))).fst :
    Int), Value.int IntKind.i64 (↑((q :: l2).getD i ((0 : Nat), (0 : Nat))).snd : Int)]) ∧ A.read = A.read ∧ True)))) ∧ (decide ((↑y.val.fst : Int) > (1 : Int)) = false → (decide
    ((↑y.val.fst : Int) > (1 : Int)) = true → ((-9223372036854775808 : Int) ≤ (↑y.val.fst : Int) + (1 : Int) ∧ (↑y.val.fst : Int) + (1 : Int) ≤ (9223372036854775807 : Int)) ∧ ∃ (g_1 :
    Nat), ∃ (node_1 : Nat), ∃ (segs_1 : Nat → Nat), ∃ (q_1 : Nat × Nat), ∃ (l_1 : List (Nat × Nat)), ∃ (z : Nat), Is (Col.mk (1 : Nat) g_1 node_1 segs_1 (q_1 :: l_1)) (colCnt (Col.mk (1
    : Nat) g node segs (q :: l)) A) ∧ ((((0 : Nat) = (0 : Nat) ∧ True) ∧ True) ∧ (0 : Nat) = (0 : Nat) ∧ (↑g_1 : Int) = (↑g : Int) ∧ (↑node_1 : Int) = (↑y.val.fst : Int) + (1 : Int) ∧
    (↑(segs_1 (0 : Nat)) : Int) = (↑(segs (0 : Nat)) : Int) ∧ (↑(segs_1 (1 : Nat)) : Int) = (↑(segs (1 : Nat)) : Int) ∧ (↑(segs_1 (2 : Nat)) : Int) = (↑(segs (2 : Nat)) : Int) ∧
    (↑(segs_1 (3 : Nat)) : Int) = (↑(segs (3 : Nat)) : Int) ∧ (↑(segs_1 (4 : Nat)) : Int) = (↑(segs (4 : Nat)) : Int) ∧ (↑(segs_1 (5 : Nat)) : Int) = (↑(segs (5 : Nat)) : Int) ∧
    (↑(segs_1 (6 : Nat)) : Int) = (↑(segs (6 : Nat)) : Int) ∧ (↑(segs_1 (7 : Nat)) : Int) = (↑(segs (7 : Nat)) : Int) ∧ ((0 : Nat) = (0 : Nat) ∧ (q_1 :: l_1).length = (q :: l2).length ∧
    z = y.val.snd) ∧ True) ∧ ((q_1 :: l_1).length = (q :: l2).length ∧ z = y.val.snd ∧ ∀ (i : Nat), i < (q_1 :: l_1).length → [Value.int IntKind.u64 (↑((q_1 :: l_1).getD i ((0 : Nat),
    (0 : Nat))).fst : Int), Value.int IntKind.i64 (↑((q_1 :: l_1).getD i ((0 : Nat), (0 : Nat))).snd : Int)] = [Value.int IntKind.u64 (↑((q :: l2).getD i ((0 : Nat), (0 : Nat))).fst :
    Int), Value.int IntKind.i64 (↑((q :: l2).getD i ((0 : Nat), (0 : Nat))).snd : Int)]) ∧ A.read = A.read ∧ True) ∧ (decide ((↑y.val.fst : Int) > (1 : Int)) = false →
    ((-9223372036854775808 : Int) ≤ (↑g : Int) + (1 : Int) ∧ (↑g : Int) + (1 : Int) ≤ (9223372036854775807 : Int)) ∧ (((↑g : Int) + (1 : Int) == (8 : Int)) = true → ∃ (g_1 : Nat), ∃
    (node_1 : Nat), ∃ (segs_1 : Nat → Nat), ∃ (q_1 : Nat × Nat), ∃ (l_1 : List (Nat × Nat)), ∃ (z : Nat), Is (Col.mk (2 : Nat) g_1 node_1 segs_1 (q_1 :: l_1)) (colCnt (Col.mk (1 : Nat)
    g node segs (q :: l)) A) ∧ (Value.nilFunc = Value.nilFunc ∧ (0 : Nat) = (0 : Nat) ∧ (↑g_1 : Int) = (↑g : Int) + (1 : Int) ∧ (↑node_1 : Int) = (↑y.val.fst : Int) ∧ (↑(segs_1 (0 :
    Nat)) : Int) = (↑(segs (0 : Nat)) : Int) ∧ (↑(segs_1 (1 : Nat)) : Int) = (↑(segs (1 : Nat)) : Int) ∧ (↑(segs_1 (2 : Nat)) : Int) = (↑(segs (2 : Nat)) : Int) ∧ (↑(segs_1 (3 : Nat)) :
    Int) = (↑(segs (3 : Nat)) : Int) ∧ (↑(segs_1 (4 : Nat)) : Int) = (↑(segs (4 : Nat)) : Int) ∧ (↑(segs_1 (5 : Nat)) : Int) = (↑(segs (5 : Nat)) : Int) ∧ (↑(segs_1 (6 : Nat)) : Int) =
    (↑(segs (6 : Nat)) : Int) ∧ (↑(segs_1 (7 : Nat)) : Int) = (↑(segs (7 : Nat)) : Int) ∧ ((0 : Nat) = (0 : Nat) ∧ (q_1 :: l_1).length = (q :: l2).length ∧ z = y.val.snd) ∧ True) ∧
    ((q_1 :: l_1).length = (q :: l2).length ∧ z = y.val.snd ∧ ∀ (i : Nat), i < (q_1 :: l_1).length → [Value.int IntKind.u64 (↑((q_1 :: l_1).getD i ((0 : Nat), (0 : Nat))).fst : Int),
    Value.int IntKind.i64 (↑((q_1 :: l_1).getD i ((0 : Nat), (0 : Nat))).snd : Int)] = [Value.int IntKind.u64 (↑((q :: l2).getD i ((0 : Nat), (0 : Nat))).fst : Int), Value.int
    IntKind.i64 (↑((q :: l2).getD i ((0 : Nat), (0 : Nat))).snd : Int)]) ∧ A.read = A.read ∧ True) ∧ (((↑g : Int) + (1 : Int) == (8 : Int)) = false → ∃ (g_1 : Nat), ∃ (node_1 : Nat), ∃
    (segs_1 : Nat → Nat), ∃ (q_1 : Nat × Nat), ∃ (l_1 : List (Nat × Nat)), ∃ (z : Nat), Is (Col.mk (0 : Nat) g_1 node_1 segs_1 (q_1 :: l_1)) (colCnt (Col.mk (1 : Nat) g node segs (q ::
    l)) A) ∧ ((((0 : Nat) = (0 : Nat) ∧ True) ∧ True) ∧ (0 : Nat) = (0 : Nat) ∧ (↑g_1 : Int) = (↑g : Int) + (1 : Int) ∧ (↑node_1 : Int) = (↑y.val.fst : Int) ∧ (↑(segs_1 (0 : Nat)) :
    Int) = (↑(segs (0 : Nat)) : Int) ∧ (↑(segs_1 (1 : Nat)) : Int) = (↑(segs (1 : Nat)) : Int) ∧ (↑(segs_1 (2 : Nat)) : Int) = (↑(segs (2 : Nat)) : Int) ∧ (↑(segs_1 (3 : Nat)) : Int) =
    (↑(segs (3 : Nat)) : Int) ∧ (↑(segs_1 (4 : Nat)) : Int) = (↑(segs (4 : Nat)) : Int) ∧ (↑(segs_1 (5 : Nat)) : Int) = (↑(segs (5 : Nat)) : Int) ∧ (↑(segs_1 (6 : Nat)) : Int) = (↑(segs
    (6 : Nat)) : Int) ∧ (↑(segs_1 (7 : Nat)) : Int) = (↑(segs (7 : Nat)) : Int) ∧ ((0 : Nat) = (0 : Nat) ∧ (q_1 :: l_1).length = (q :: l2).length ∧ z = y.val.snd) ∧ True) ∧ ((q_1 ::
    l_1).length = (q :: l2).length ∧ z = y.val.snd ∧ ∀ (i : Nat), i < (q_1 :: l_1).length → [Value.int IntKind.u64 (↑((q_1 :: l_1).getD i ((0 : Nat), (0 : Nat))).fst : Int), Value.int
    IntKind.i64 (↑((q_1 :: l_1).getD i ((0 : Nat), (0 : Nat))).snd : Int)] = [Value.int IntKind.u64 (↑((q :: l2).getD i ((0 : Nat), (0 : Nat))).fst : Int), Value.int IntKind.i64 (↑((q
    :: l2).getD i ((0 : Nat), (0 : Nat))).snd : Int)]) ∧ A.read = A.read ∧ True)))) ∧ True) ∧ True) ∧ True) ∧ True) ∧ True) ∧ (∀ (K : KO XE), (fun X0 : (Nat) → Prop => (((0 : Int) ≤ (↑g
    : Int) ∧ (↑g : Int) < (8 : Int)) ∧ ((↑g : Int).toNat < (8 : Nat) ∧ (((cap = cap ∧ (q :: l).length ≤ (q :: l).length) ∧ True ∧ (q :: l).length + (1 : Nat) ≤ (1000000000 : Nat) ∧ ∀
    (cap_1 : Nat), (q :: l).length + (1 : Nat) ≤ cap_1 → (X0 cap_1) ∧ True) ∧ True) ∧ True) ∧ True) ∧ True → ((0 : Int) ≤ (↑g : Int) ∧ (↑g : Int) < (8 : Int)) ∧ (((↑g : Int).toNat < (8
    : Nat) ∧ (((cap = cap ∧ (q :: l).length ≤ (q :: l).length) ∧ True ∧ (q :: l).length + (1 : Nat) ≤ (1000000000 : Nat) ∧ ∀ (cap_1 : Nat), (q :: l).length + (1 : Nat) ≤ cap_1 → (X0
    cap_1) ∧ True) ∧ True) ∧ True) ∧ True) ∧ (∀ (K : KO XE), (fun X1 : (Nat) → Prop => ((↑g : Int).toNat < (8 : Nat) ∧ (((cap = cap ∧ (q :: l).length ≤ (q :: l).length) ∧ True ∧ (q ::
    l).length + (1 : Nat) ≤ (1000000000 : Nat) ∧ ∀ (cap_1 : Nat), (q :: l).length + (1 : Nat) ≤ cap_1 → (X1 cap_1) ∧ True) ∧ True) ∧ True) ∧ True → (↑g : Int).toNat < (8 : Nat) ∧
    ((((cap = cap ∧ (q :: l).length ≤ (q :: l).length) ∧ True ∧ (q :: l).length + (1 : Nat) ≤ (1000000000 : Nat) ∧ ∀ (cap_1 : Nat), (q :: l).length + (1 : Nat) ≤ cap_1 → (X1 cap_1) ∧
    True) ∧ True) ∧ True) ∧ (∀ (K : KO XE), (fun X2 : (Nat) → Prop => (((cap = cap ∧ (q :: l).length ≤ (q :: l).length) ∧ True ∧ (q :: l).length + (1 : Nat) ≤ (1000000000 : Nat) ∧ ∀
    (cap_1 : Nat), (q :: l).length + (1 : Nat) ≤ cap_1 → (X2 cap_1) ∧ True) ∧ True) ∧ True → (((cap = cap ∧ (q :: l).length ≤ (q :: l).length) ∧ True ∧ (q :: l).length + (1 : Nat) ≤
    (1000000000 : Nat) ∧ ∀ (cap_1 : Nat), (q :: l).length + (1 : Nat) ≤ cap_1 → (X2 cap_1) ∧ True) ∧ True) ∧ True) (fun (cap_1 : Nat) => K (SF.mk (86 : Nat) (ST.node (SV.c (SC.ptr (0 :
    Nat) (0 : Nat))) (ST.node (SV.tup []) (ST.node (SV.c (SC.boo false (inC (↑(Col.mk (1 : Nat) g node segs (q :: l)).g : Int) (↑(Col.mk (1 : Nat) g node segs (q :: l)).node : Int))))
    (ST.node (SV.c (SC.boo false (inL (↑(Col.mk (1 : Nat) g node segs (q :: l)).g : Int) (↑(Col.mk (1 : Nat) g node segs (q :: l)).node : Int)))) (ST.node (SV.c (SC.ptr (0 : Nat) (4 :
    Nat))) (ST.node (SV.c (SC.ptr (0 : Nat) (0 : Nat))) (ST.node (SV.c (SC.boo false (inL (↑(Col.mk (1 : Nat) g node segs (q :: l)).g : Int) (↑(Col.mk (1 : Nat) g node segs (q ::
    l)).node : Int)))) ST.nil ST.nil) ST.nil) (ST.node (SV.tup [(false, [SC.int false IntKind.i64 (if inL (↑g : Int) (↑node : Int) = true then (↑node : Int) - (1 : Int) else (0 : Int))
    (Bd.w (0 : Int) (254 : Int) (slot_bd._proof_3 (↑(Col.mk (1 : Nat) g node segs (q :: l)).g : Int) (↑(Col.mk (1 : Nat) g node segs (q :: l)).node : Int)))]), (false, [SC.boo false
    (inL (↑(Col.mk (1 : Nat) g node segs (q :: l)).g : Int) (↑(Col.mk (1 : Nat) g node segs (q :: l)).node : Int))])]) (ST.node (SV.agg [SC.int false IntKind.u64 ([(↑(segs (0 : Nat)) :
    Int), (↑(segs (1 : Nat)) : Int), (↑(segs (2 : Nat)) : Int), (↑(segs (3 : Nat)) : Int), (↑(segs (4 : Nat)) : Int), (↑(segs (5 : Nat)) : Int), (↑(segs (6 : Nat)) : Int), (↑(segs (7 :
    Nat)) : Int)].getD (↑g : Int).toNat (0 : Int)) Bd.any, SC.int false IntKind.i64 (if inL (↑g : Int) (↑node : Int) = true then (↑node : Int) - (1 : Int) else (0 : Int)) (Bd.w (0 :
    Int) (254 : Int) (slot_bd._proof_3 (↑(Col.mk (1 : Nat) g node segs (q :: l)).g : Int) (↑(Col.mk (1 : Nat) g node segs (q :: l)).node : Int)))]) ST.nil ST.nil) ST.nil)) (ST.node
    (SV.c (SC.ptr (0 : Nat) (0 : Nat))) (ST.node (SV.c (SC.ptr (0 : Nat) (0 : Nat))) (ST.node (SV.c (SC.ptr (0 : Nat) (0 : Nat))) ST.nil ST.nil) ST.nil) (ST.node (SV.tup []) ST.nil
    ST.nil))) (ST.node (SV.c (SC.ptr (0 : Nat) (0 : Nat))) (ST.node (SV.c (SC.ptr (0 : Nat) (0 : Nat))) (ST.node (SV.tup [(false, [SC.int false IntKind.u64 (↑(A.rd (if inC (↑g : Int)
    (↑node : Int) = true then [(↑(segs (0 : Nat)) : Int), (↑(segs (1 : Nat)) : Int), (↑(segs (2 : Nat)) : Int), (↑(segs (3 : Nat)) : Int), (↑(segs (4 : Nat)) : Int), (↑(segs (5 : Nat))
    : Int), (↑(segs (6 : Nat)) : Int), (↑(segs (7 : Nat)) : Int)].getD (↑g : Int).toNat (0 : Int) else (0 : Int)) (if inC (↑g : Int) (↑node : Int) = true then (5 : Int) * (↑((2 : Nat) ^
    (↑g : Int).toNat) : Int) + (↑node : Int) else (0 : Int))) : Int) Bd.any]), (false, [SC.int true IntKind.i64 (0 : Int)])]) (ST.node (SV.c (SC.ptr (0 : Nat) (12 : Nat))) ST.nil
    ST.nil) ST.nil) (ST.node (SV.tup []) (ST.node (SV.c (SC.ptr (0 : Nat) (12 : Nat))) ST.nil ST.nil) ST.nil)) (ST.node (SV.agg [SC.int false IntKind.u64 (if inC (↑g : Int) (↑node :
    Int) = true then [(↑(segs (0 : Nat)) : Int), (↑(segs (1 : Nat)) : Int), (↑(segs (2 : Nat)) : Int), (↑(segs (3 : Nat)) : Int), (↑(segs (4 : Nat)) : Int), (↑(segs (5 : Nat)) : Int),
    (↑(segs (6 : Nat)) : Int), (↑(segs (7 : Nat)) : Int)].getD (↑g : Int).toNat (0 : Int) else (0 : Int)) Bd.any, SC.int false IntKind.i64 (if inC (↑g : Int) (↑node : Int) = true then
    (5 : Int) * (↑((2 : Nat) ^ (↑g : Int).toNat) : Int) + (↑node : Int) else (0 : Int)) (Bd.w (0 : Int) (895 : Int) (counter_bd._proof_4 (↑(Col.mk (1 : Nat) g node segs (q :: l)).g :
    Int) (↑(Col.mk (1 : Nat) g node segs (q :: l)).node : Int)))]) (ST.node (SV.c (SC.ptr (0 : Nat) (0 : Nat))) (ST.node (SV.c (SC.ptr (0 : Nat) (4 : Nat))) ST.nil ST.nil) ST.nil)
    (ST.node (SV.c (SC.boo false ((↑(A.rd (if inC (↑(Col.mk (1 : Nat) g node segs (q :: l)).g : Int) (↑(Col.mk (1 : Nat) g node segs (q :: l)).node : Int) = true then [(↑((Col.mk (1 :
    Nat) g node segs (q :: l)).segs (0 : Nat)) : Int), (↑((Col.mk (1 : Nat) g node segs (q :: l)).segs (1 : Nat)) : Int), (↑((Col.mk (1 : Nat) g node segs (q :: l)).segs (2 : Nat)) :
    Int), (↑((Col.mk (1 : Nat) g node segs (q :: l)).segs (3 : Nat)) : Int), (↑((Col.mk (1 : Nat) g node segs (q :: l)).segs (4 : Nat)) : Int), (↑((Col.mk (1 : Nat) g node segs (q ::
    l)).segs (5 : Nat)) : Int), (↑((Col.mk (1 : Nat) g node segs (q :: l)).segs (6 : Nat)) : Int), (↑((Col.mk (1 : Nat) g node segs (q :: l)).segs (7 : Nat)) : Int)].getD (↑(Col.mk (1 :
    Nat) g node segs (q :: l)).g : Int).toNat (0 : Int) else (0 : Int)) (if inC (↑(Col.mk (1 : Nat) g node segs (q :: l)).g : Int) (↑(Col.mk (1 : Nat) g node segs (q :: l)).node : Int)
    = true then (5 : Int) * (↑((2 : Nat) ^ (↑(Col.mk (1 : Nat) g node segs (q :: l)).g : Int).toNat) : Int) + (↑(Col.mk (1 : Nat) g node segs (q :: l)).node : Int) else (0 : Int))) :
    Int) == (0 : Int)))) ST.nil ST.nil)))) (ST.node (SV.c (SC.int true IntKind.i64 (0 : Int))) (ST.node (SV.c (SC.ptr (0 : Nat) (0 : Nat))) (ST.node (SV.c (SC.int false IntKind.u64
    ([(↑(segs (0 : Nat)) : Int), (↑(segs (1 : Nat)) : Int), (↑(segs (2 : Nat)) : Int), (↑(segs (3 : Nat)) : Int), (↑(segs (4 : Nat)) : Int), (↑(segs (5 : Nat)) : Int), (↑(segs (6 :
    Nat)) : Int), (↑(segs (7 : Nat)) : Int)].getD (↑g : Int).toNat (0 : Int)) Bd.any)) (ST.node (SV.c (SC.ptr (1 : Nat) (0 : Nat))) (ST.node (SV.c (SC.ptr (0 : Nat) (0 : Nat))) ST.nil
    ST.nil) ST.nil) (ST.node (SV.c (SC.boo false (inL (↑(Col.mk (1 : Nat) g node segs (q :: l)).g : Int) (↑(Col.mk (1 : Nat) g node segs (q :: l)).node : Int)))) (ST.node (SV.c (SC.sli
    (187 : Nat) (2 : Nat) true (0 : Nat) false ((q :: l).length + (1 : Nat)) cap_1)) ST.nil ST.nil) ST.nil)) (ST.node (SV.c (SC.int false IntKind.i64 (↑node : Int) Bd.any)) (ST.node
    (SV.c (SC.ptr (0 : Nat) (2 : Nat))) (ST.node (SV.c (SC.int false IntKind.i64 (↑g : Int) Bd.any)) ST.nil ST.nil) ST.nil) (ST.node (SV.c (SC.boo true false)) ST.nil ST.nil))) (ST.node
    (SV.c (SC.int false IntKind.i64 (↑g : Int) Bd.any)) (ST.node (SV.c (SC.int false IntKind.i64 (↑g : Int) Bd.any)) (ST.node (SV.c (SC.int true IntKind.i64 (0 : Int))) (ST.node (SV.c
    (SC.ptr (0 : Nat) (0 : Nat))) ST.nil ST.nil) ST.nil) (ST.node (SV.tup []) (ST.node (SV.tup []) ST.nil ST.nil) ST.nil)) (ST.node (SV.tup [(false, [SC.int false IntKind.u64 (↑(A.rd
    (if inC (↑g : Int) (↑node : Int) = true then [(↑(segs (0 : Nat)) : Int), (↑(segs (1 : Nat)) : Int), (↑(segs (2 : Nat)) : Int), (↑(segs (3 : Nat)) : Int), (↑(segs (4 : Nat)) : Int),
    (↑(segs (5 : Nat)) : Int), (↑(segs (6 : Nat)) : Int), (↑(segs (7 : Nat)) : Int)].getD (↑g : Int).toNat (0 : Int) else (0 : Int)) (if inC (↑g : Int) (↑node : Int) = true then (5 :
    Int) * (↑((2 : Nat) ^ (↑g : Int).toNat) : Int) + (↑node : Int) else (0 : Int))) : Int) Bd.any]), (false, [SC.int true IntKind.i64 (0 : Int)])]) (ST.node (SV.c (SC.ptr (0 : Nat) (3 :
    Nat))) (ST.node (SV.c (SC.int false IntKind.u64 ([(↑(segs (0 : Nat)) : Int), (↑(segs (1 : Nat)) : Int), (↑(segs (2 : Nat)) : Int), (↑(segs (3 : Nat)) : Int), (↑(segs (4 : Nat)) :
    Int), (↑(segs (5 : Nat)) : Int), (↑(segs (6 : Nat)) : Int), (↑(segs (7 : Nat)) : Int)].getD (↑g : Int).toNat (0 : Int)) Bd.any)) ST.nil ST.nil) ST.nil) (ST.node (SV.tup []) ST.nil
    ST.nil))))) (ST.node (SV.c (SC.ptr (137 : Nat) (0 : Nat))) (ST.node (SV.c (SC.int false IntKind.u64 (↑(A.rd (if inC (↑g : Int) (↑node : Int) = true then [(↑(segs (0 : Nat)) : Int),
    (↑(segs (1 : Nat)) : Int), (↑(segs (2 : Nat)) : Int), (↑(segs (3 : Nat)) : Int), (↑(segs (4 : Nat)) : Int), (↑(segs (5 : Nat)) : Int), (↑(segs (6 : Nat)) : Int), (↑(segs (7 : Nat))
    : Int)].getD (↑g : Int).toNat (0 : Int) else (0 : Int)) (if inC (↑g : Int) (↑node : Int) = true then (5 : Int) * (↑((2 : Nat) ^ (↑g : Int).toNat) : Int) + (↑node : Int) else (0 :
    Int))) : Int) Bd.any)) (ST.node (SV.tup [(true, [SC.int false IntKind.u64 (if inC (↑g : Int) (↑node : Int) = true then [(↑(segs (0 : Nat)) : Int), (↑(segs (1 : Nat)) : Int), (↑(segs
    (2 : Nat)) : Int), (↑(segs (3 : Nat)) : Int), (↑(segs (4 : Nat)) : Int), (↑(segs (5 : Nat)) : Int), (↑(segs (6 : Nat)) : Int), (↑(segs (7 : Nat)) : Int)].getD (↑g : Int).toNat (0 :
    Int) else (0 : Int)) Bd.any, SC.int false IntKind.i64 (if inC (↑g : Int) (↑node : Int) = true then (5 : Int) * (↑((2 : Nat) ^ (↑g : Int).toNat) : Int) + (↑node : Int) else (0 :
    Int)) (Bd.w (0 : Int) (895 : Int) (counter_bd._proof_4 (↑(Col.mk (1 : Nat) g node segs (q :: l)).g : Int) (↑(Col.mk (1 : Nat) g node segs (q :: l)).node : Int)))]), (false, [SC.boo
    false (inC (↑(Col.mk (1 : Nat) g node segs (q :: l)).g : Int) (↑(Col.mk (1 : Nat) g node segs (q :: l)).node : Int))])]) (ST.node (SV.c (SC.elp (0 : Nat) (↑g : Int).toNat (1 : Nat)
    (4 : Nat))) (ST.node (SV.c (SC.ptr (0 : Nat) (1 : Nat))) (ST.node (SV.c (SC.ptr (0 : Nat) (0 : Nat))) ST.nil ST.nil) ST.nil) (ST.node (SV.c (SC.int false IntKind.i64 (if inL (↑g :
    Int) (↑node : Int) = true then (↑node : Int) - (1 : Int) else (0 : Int)) (Bd.w (0 : Int) (254 : Int) (slot_bd._proof_3 (↑(Col.mk (1 : Nat) g node segs (q :: l)).g : Int) (↑(Col.mk
    (1 : Nat) g node segs (q :: l)).node : Int))))) (ST.node (SV.c (SC.sli (186 : Nat) (2 : Nat) true (0 : Nat) true (1 : Nat) (1 : Nat))) ST.nil ST.nil) ST.nil)) (ST.node (SV.c (SC.ptr
    (0 : Nat) (3 : Nat))) (ST.node (SV.c (SC.ptr (0 : Nat) (0 : Nat))) (ST.node (SV.c (SC.ptr (0 : Nat) (2 : Nat))) ST.nil ST.nil) ST.nil) (ST.node (SV.tup []) ST.nil ST.nil))) (ST.node
    (SV.c (SC.ptr (0 : Nat) (2 : Nat))) (ST.node (SV.c (SC.ptr (0 : Nat) (2 : Nat))) (ST.node (SV.c (SC.int false IntKind.u64 (↑(A.rd (if inC (↑g : Int) (↑node : Int) = true then
    [(↑(segs (0 : Nat)) : Int), (↑(segs (1 : Nat)) : Int), (↑(segs (2 : Nat)) : Int), (↑(segs (3 : Nat)) : Int), (↑(segs (4 : Nat)) : Int), (↑(segs (5 : Nat)) : Int), (↑(segs (6 : Nat))
    : Int), (↑(segs (7 : Nat)) : Int)].getD (↑g : Int).toNat (0 : Int) else (0 : Int)) (if inC (↑g : Int) (↑node : Int) = true then (5 : Int) * (↑((2 : Nat) ^ (↑g : Int).toNat) : Int) +
    (↑node : Int) else (0 : Int))) : Int) Bd.any)) (ST.node (SV.c (SC.sli (10 : Nat) (2 : Nat) true (0 : Nat) false (q :: l).length cap)) ST.nil ST.nil) ST.nil) (ST.node (SV.tup [])
    (ST.node (SV.tup []) ST.nil ST.nil) ST.nil)) (ST.node (SV.c (SC.boo false (inC (↑(Col.mk (1 : Nat) g node segs (q :: l)).g : Int) (↑(Col.mk (1 : Nat) g node segs (q :: l)).node :
    Int)))) (ST.node (SV.c (SC.ptr (0 : Nat) (0 : Nat))) (ST.node (SV.c (SC.elp (0 : Nat) (↑g : Int).toNat (1 : Nat) (4 : Nat))) ST.nil ST.nil) ST.nil) (ST.node (SV.tup []) ST.nil
    ST.nil)))) (ST.node (SV.c (SC.int false IntKind.i64 (if inL (↑g : Int) (↑node : Int) = true then (↑node : Int) - (1 : Int) else (0 : Int)) (Bd.w (0 : Int) (254 : Int)
    (slot_bd._proof_3 (↑(Col.mk (1 : Nat) g node segs (q :: l)).g : Int) (↑(Col.mk (1 : Nat) g node segs (q :: l)).node : Int))))) (ST.node (SV.c (SC.ptr (0 : Nat) (0 : Nat))) (ST.node
    (SV.c (SC.ptr (0 : Nat) (0 : Nat))) (ST.node (SV.agg [SC.int false IntKind.u64 (if inC (↑g : Int) (↑node : Int) = true then [(↑(segs (0 : Nat)) : Int), (↑(segs (1 : Nat)) : Int),
    (↑(segs (2 : Nat)) : Int), (↑(segs (3 : Nat)) : Int), (↑(segs (4 : Nat)) : Int), (↑(segs (5 : Nat)) : Int), (↑(segs (6 : Nat)) : Int), (↑(segs (7 : Nat)) : Int)].getD (↑g :
    Int).toNat (0 : Int) else (0 : Int)) Bd.any, SC.int false IntKind.i64 (if inC (↑g : Int) (↑node : Int) = true then (5 : Int) * (↑((2 : Nat) ^ (↑g : Int).toNat) : Int) + (↑node :
    Int) else (0 : Int)) (Bd.w (0 : Int) (895 : Int) (counter_bd._proof_4 (↑(Col.mk (1 : Nat) g node segs (q :: l)).g : Int) (↑(Col.mk (1 : Nat) g node segs (q :: l)).node : Int)))])
    (ST.node (SV.c (SC.ptr (0 : Nat) (0 : Nat))) ST.nil ST.nil) ST.nil) (ST.node (SV.tup []) (ST.node (SV.c (SC.ptr (0 : Nat) (0 : Nat))) ST.nil ST.nil) ST.nil)) (ST.node (SV.tup
    [(true, [SC.int false IntKind.u64 (if inC (↑g : Int) (↑node : Int) = true then [(↑(segs (0 : Nat)) : Int), (↑(segs (1 : Nat)) : Int), (↑(segs (2 : Nat)) : Int), (↑(segs (3 : Nat)) :
    Int), (↑(segs (4 : Nat)) : Int), (↑(segs (5 : Nat)) : Int), (↑(segs (6 : Nat)) : Int), (↑(segs (7 : Nat)) : Int)].getD (↑g : Int).toNat (0 : Int) else (0 : Int)) Bd.any, SC.int
    false IntKind.i64 (if inC (↑g : Int) (↑node : Int) = true then (5 : Int) * (↑((2 : Nat) ^ (↑g : Int).toNat) : Int) + (↑node : Int) else (0 : Int)) (Bd.w (0 : Int) (895 : Int)
    (counter_bd._proof_4 (↑(Col.mk (1 : Nat) g node segs (q :: l)).g : Int) (↑(Col.mk (1 : Nat) g node segs (q :: l)).node : Int)))]), (false, [SC.boo false (inC (↑(Col.mk (1 : Nat) g
    node segs (q :: l)).g : Int) (↑(Col.mk (1 : Nat) g node segs (q :: l)).node : Int))])]) (ST.node (SV.c (SC.int false IntKind.i64 (↑g : Int) Bd.any)) (ST.node (SV.c (SC.ptr (0 : Nat)
    (0 : Nat))) ST.nil ST.nil) ST.nil) (ST.node (SV.c (SC.int false IntKind.u64 (↑(A.rd (if inC (↑g : Int) (↑node : Int) = true then [(↑(segs (0 : Nat)) : Int), (↑(segs (1 : Nat)) :
    Int), (↑(segs (2 : Nat)) : Int), (↑(segs (3 : Nat)) : Int), (↑(segs (4 : Nat)) : Int), (↑(segs (5 : Nat)) : Int), (↑(segs (6 : Nat)) : Int), (↑(segs (7 : Nat)) : Int)].getD (↑g :
    Int).toNat (0 : Int) else (0 : Int)) (if inC (↑g : Int) (↑node : Int) = true then (5 : Int) * (↑((2 : Nat) ^ (↑g : Int).toNat) : Int) + (↑node : Int) else (0 : Int))) : Int)
    Bd.any)) ST.nil ST.nil))) (ST.node (SV.c (SC.ptr (0 : Nat) (0 : Nat))) (ST.node (SV.c (SC.ptr (0 : Nat) (0 : Nat))) (ST.node (SV.tup [(false, [SC.int false IntKind.i64 (if inL (↑g :
    Int) (↑node : Int) = true then (↑node : Int) - (1 : Int) else (0 : Int)) (Bd.w (0 : Int) (254 : Int) (slot_bd._proof_3 (↑(Col.mk (1 : Nat) g node segs (q :: l)).g : Int) (↑(Col.mk
    (1 : Nat) g node segs (q :: l)).node : Int)))]), (false, [SC.boo false (inL (↑(Col.mk (1 : Nat) g node segs (q :: l)).g : Int) (↑(Col.mk (1 : Nat) g node segs (q :: l)).node :
    Int))])]) (ST.node (SV.c (SC.ptr (0 : Nat) (0 : Nat))) ST.nil ST.nil) ST.nil) (ST.node (SV.tup []) ST.nil ST.nil)) (ST.node (SV.c (SC.ptr (0 : Nat) (0 : Nat))) (ST.node (SV.c
    (SC.int false IntKind.i64 (↑node : Int) Bd.any)) (ST.node (SV.c (SC.int false IntKind.i64 (if inL (↑g : Int) (↑node : Int) = true then (↑node : Int) - (1 : Int) else (0 : Int))
    (Bd.w (0 : Int) (254 : Int) (slot_bd._proof_3 (↑(Col.mk (1 : Nat) g node segs (q :: l)).g : Int) (↑(Col.mk (1 : Nat) g node segs (q :: l)).node : Int))))) ST.nil ST.nil) ST.nil)
    (ST.node (SV.c (SC.boo true true)) ST.nil ST.nil)))))) []) (Mem.mk [((0 : Nat), SO.cells [SC.fn (Fn.func (OfNat.ofNat (164 : Nat))) [SC.ptr (0 : Nat) (0 : Nat)] [], SC.ptr (1 : Nat)
    (0 : Nat), SC.int false IntKind.i64 (↑g : Int) Bd.any, SC.int false IntKind.i64 (↑node : Int) Bd.any, SC.int false IntKind.u64 (↑(segs (0 : Nat)) : Int) Bd.any, SC.int false
    IntKind.u64 (↑(segs (1 : Nat)) : Int) Bd.any, SC.int false IntKind.u64 (↑(segs (2 : Nat)) : Int) Bd.any, SC.int false IntKind.u64 (↑(segs (3 : Nat)) : Int) Bd.any, SC.int false
    IntKind.u64 (↑(segs (4 : Nat)) : Int) Bd.any, SC.int false IntKind.u64 (↑(segs (5 : Nat)) : Int) Bd.any, SC.int false IntKind.u64 (↑(segs (6 : Nat)) : Int) Bd.any, SC.int false
    IntKind.u64 (↑(segs (7 : Nat)) : Int) Bd.any, SC.sli (187 : Nat) (2 : Nat) true (0 : Nat) false ((q :: l).length + (1 : Nat)) cap_1] (OfNat.ofNat (168 : Nat))), ((1 : Nat), SO.ext
    (XO.ar A.read)), ((137 : Nat), SO.cells [SC.int false IntKind.u64 (if inC (↑g : Int) (↑node : Int) = true then [(↑(segs (0 : Nat)) : Int), (↑(segs (1 : Nat)) : Int), (↑(segs (2 :
    Nat)) : Int), (↑(segs (3 : Nat)) : Int), (↑(segs (4 : Nat)) : Int), (↑(segs (5 : Nat)) : Int), (↑(segs (6 : Nat)) : Int), (↑(segs (7 : Nat)) : Int)].getD (↑g : Int).toNat (0 : Int)
    else (0 : Int)) Bd.any, SC.int false IntKind.i64 (if inC (↑g : Int) (↑node : Int) = true then (5 : Int) * (↑((2 : Nat) ^ (↑g : Int).toNat) : Int) + (↑node : Int) else (0 : Int))
    (Bd.w (0 : Int) (895 : Int) (counter_bd._proof_4 (↑(Col.mk (1 : Nat) g node segs (q :: l)).g : Int) (↑(Col.mk (1 : Nat) g node segs (q :: l)).node : Int)))] (96 : Nat)), ((186 :
    Nat), SO.cells [SC.int false IntKind.u64 ([(↑(segs (0 : Nat)) : Int), (↑(segs (1 : Nat)) : Int), (↑(segs (2 : Nat)) : Int), (↑(segs (3 : Nat)) : Int), (↑(segs (4 : Nat)) : Int),
    (↑(segs (5 : Nat)) : Int), (↑(segs (6 : Nat)) : Int), (↑(segs (7 : Nat)) : Int)].getD (↑g : Int).toNat (0 : Int)) Bd.any, SC.int false IntKind.i64 (if inL (↑g : Int) (↑node : Int) =
    true then (↑node : Int) - (1 : Int) else (0 : Int)) (Bd.w (0 : Int) (254 : Int) (slot_bd._proof_3 (↑(Col.mk (1 : Nat) g node segs (q :: l)).g : Int) (↑(Col.mk (1 : Nat) g node segs
    (q :: l)).node : Int)))] (44 : Nat)), ((187 : Nat), SO.vals (44 : Nat) (2 : Nat) ((q :: l).length + (1 : Nat)) cap_1 fun (i : Nat) => if i < (q :: l).length then plF (q :: l) i else
    [Value.int IntKind.u64 ([(↑((Col.mk (1 : Nat) g node segs (q :: l)).segs (0 : Nat)) : Int), (↑((Col.mk (1 : Nat) g node segs (q :: l)).segs (1 : Nat)) : Int), (↑((Col.mk (1 : Nat) g
    node segs (q :: l)).segs (2 : Nat)) : Int), (↑((Col.mk (1 : Nat) g node segs (q :: l)).segs (3 : Nat)) : Int), (↑((Col.mk (1 : Nat) g node segs (q :: l)).segs (4 : Nat)) : Int),
    (↑((Col.mk (1 : Nat) g node segs (q :: l)).segs (5 : Nat)) : Int), (↑((Col.mk (1 : Nat) g node segs (q :: l)).segs (6 : Nat)) : Int), (↑((Col.mk (1 : Nat) g node segs (q :: l)).segs
    (7 : Nat)) : Int)].getD (↑(Col.mk (1 : Nat) g node segs (q :: l)).g : Int).toNat (0 : Int)), Value.int IntKind.i64 (if inL (↑(Col.mk (1 : Nat) g node segs (q :: l)).g : Int)
    (↑(Col.mk (1 : Nat) g node segs (q :: l)).node : Int) = true then (↑(Col.mk (1 : Nat) g node segs (q :: l)).node : Int) - (1 : Int) else (0 : Int))])] (170 : Nat)) (onScr g segs (q
    :: l2) node))) ∧ True) (fun (cap_1 : Nat) => K (SF.mk (86 : Nat) (ST.node (SV.c (SC.ptr (0 : Nat) (0 : Nat))) (ST.node (SV.tup []) (ST.node (SV.c (SC.boo false (inC (↑(Col.mk (1 :
    Nat) g node segs (q :: l)).g : Int) (↑(Col.mk (1 : Nat) g node segs (q :: l)).node : Int)))) (ST.node (SV.c (SC.boo false (inL (↑(Col.mk (1 : Nat) g node segs (q :: l)).g : Int)
    (↑(Col.mk (1 : Nat) g node segs (q :: l)).node : Int)))) (ST.node (SV.c (SC.ptr (0 : Nat) (4 : Nat))) (ST.node (SV.c (SC.ptr (0 : Nat) (0 : Nat))) (ST.node (SV.c (SC.boo false (inL
    (↑(Col.mk (1 : Nat) g node segs (q :: l)).g : Int) (↑(Col.mk (1 : Nat) g node segs (q :: l)).node : Int)))) ST.nil ST.nil) ST.nil) (ST.node (SV.tup [(false, [SC.int false
    IntKind.i64 (if inL (↑g : Int) (↑node : Int) = true then (↑node : Int) - (1 : Int) else (0 : Int)) (Bd.w (0 : Int) (254 : Int) (slot_bd._proof_3 (↑(Col.mk (1 : Nat) g node segs (q
    :: l)).g : Int) (↑(Col.mk (1 : Nat) g node segs (q :: l)).node : Int)))]), (false, [SC.boo false (inL (↑(Col.mk (1 : Nat) g node segs (q :: l)).g : Int) (↑(Col.mk (1 : Nat) g node
    segs (q :: l)).node : Int))])]) (ST.node (SV.agg [SC.int false IntKind.u64 ([(↑(segs (0 : Nat)) : Int), (↑(segs (1 : Nat)) : Int), (↑(segs (2 : Nat)) : Int), (↑(segs (3 : Nat)) :
    Int), (↑(segs (4 : Nat)) : Int), (↑(segs (5 : Nat)) : Int), (↑(segs (6 : Nat)) : Int), (↑(segs (7 : Nat)) : Int)].getD (↑g : Int).toNat (0 : Int)) Bd.any, SC.int false IntKind.i64
    (if inL (↑g : Int) (↑node : Int) = true then (↑node : Int) - (1 : Int) else (0 : Int)) (Bd.w (0 : Int) (254 : Int) (slot_bd._proof_3 (↑(Col.mk (1 : Nat) g node segs (q :: l)).g :
    Int) (↑(Col.mk (1 : Nat) g node segs (q :: l)).node : Int)))]) ST.nil ST.nil) ST.nil)) (ST.node (SV.c (SC.ptr (0 : Nat) (0 : Nat))) (ST.node (SV.c (SC.ptr (0 : Nat) (0 : Nat)))
    (ST.node (SV.c (SC.ptr (0 : Nat) (0 : Nat))) ST.nil ST.nil) ST.nil) (ST.node (SV.tup []) ST.nil ST.nil))) (ST.node (SV.c (SC.ptr (0 : Nat) (0 : Nat))) (ST.node (SV.c (SC.ptr (0 :
    Nat) (0 : Nat))) (ST.node (SV.tup [(false, [SC.int false IntKind.u64 (↑(A.rd (if inC (↑g : Int) (↑node : Int) = true then [(↑(segs (0 : Nat)) : Int), (↑(segs (1 : Nat)) : Int),
    (↑(segs (2 : Nat)) : Int), (↑(segs (3 : Nat)) : Int), (↑(segs (4 : Nat)) : Int), (↑(segs (5 : Nat)) : Int), (↑(segs (6 : Nat)) : Int), (↑(segs (7 : Nat)) : Int)].getD (↑g :
    Int).toNat (0 : Int) else (0 : Int)) (if inC (↑g : Int) (↑node : Int) = true then (5 : Int) * (↑((2 : Nat) ^ (↑g : Int).toNat) : Int) + (↑node : Int) else (0 : Int))) : Int)
    Bd.any]), (false, [SC.int true IntKind.i64 (0 : Int)])]) (ST.node (SV.c (SC.ptr (0 : Nat) (12 : Nat))) ST.nil ST.nil) ST.nil) (ST.node (SV.tup []) (ST.node (SV.c (SC.ptr (0 : Nat)
    (12 : Nat))) ST.nil ST.nil) ST.nil)) (ST.node (SV.agg [SC.int false IntKind.u64 (if inC (↑g : Int) (↑node : Int) = true then [(↑(segs (0 : Nat)) : Int), (↑(segs (1 : Nat)) : Int),
    (↑(segs (2 : Nat)) : Int), (↑(segs (3 : Nat)) : Int), (↑(segs (4 : Nat)) : Int), (↑(segs (5 : Nat)) : Int), (↑(segs (6 : Nat)) : Int), (↑(segs (7 : Nat)) : Int)].getD (↑g :
    Int).toNat (0 : Int) else (0 : Int)) Bd.any, SC.int false IntKind.i64 (if inC (↑g : Int) (↑node : Int) = true then (5 : Int) * (↑((2 : Nat) ^ (↑g : Int).toNat) : Int) + (↑node :
    Int) else (0 : Int)) (Bd.w (0 : Int) (895 : Int) (counter_bd._proof_4 (↑(Col.mk (1 : Nat) g node segs (q :: l)).g : Int) (↑(Col.mk (1 : Nat) g node segs (q :: l)).node : Int)))])
    (ST.node (SV.c (SC.ptr (0 : Nat) (0 : Nat))) (ST.node (SV.c (SC.ptr (0 : Nat) (4 : Nat))) ST.nil ST.nil) ST.nil) (ST.node (SV.c (SC.boo false ((↑(A.rd (if inC (↑(Col.mk (1 : Nat) g
    node segs (q :: l)).g : Int) (↑(Col.mk (1 : Nat) g node segs (q :: l)).node : Int) = true then [(↑((Col.mk (1 : Nat) g node segs (q :: l)).segs (0 : Nat)) : Int), (↑((Col.mk (1 :
    Nat) g node segs (q :: l)).segs (1 : Nat)) : Int), (↑((Col.mk (1 : Nat) g node segs (q :: l)).segs (2 : Nat)) : Int), (↑((Col.mk (1 : Nat) g node segs (q :: l)).segs (3 : Nat)) :
    Int), (↑((Col.mk (1 : Nat) g node segs (q :: l)).segs (4 : Nat)) : Int), (↑((Col.mk (1 : Nat) g node segs (q :: l)).segs (5 : Nat)) : Int), (↑((Col.mk (1 : Nat) g node segs (q ::
    l)).segs (6 : Nat)) : Int), (↑((Col.mk (1 : Nat) g node segs (q :: l)).segs (7 : Nat)) : Int)].getD (↑(Col.mk (1 : Nat) g node segs (q :: l)).g : Int).toNat (0 : Int) else (0 :
    Int)) (if inC (↑(Col.mk (1 : Nat) g node segs (q :: l)).g : Int) (↑(Col.mk (1 : Nat) g node segs (q :: l)).node : Int) = true then (5 : Int) * (↑((2 : Nat) ^ (↑(Col.mk (1 : Nat) g
    node segs (q :: l)).g : Int).toNat) : Int) + (↑(Col.mk (1 : Nat) g node segs (q :: l)).node : Int) else (0 : Int))) : Int) == (0 : Int)))) ST.nil ST.nil)))) (ST.node (SV.c (SC.int
    true IntKind.i64 (0 : Int))) (ST.node (SV.c (SC.ptr (0 : Nat) (0 : Nat))) (ST.node (SV.c (SC.int false IntKind.u64 ([(↑(segs (0 : Nat)) : Int), (↑(segs (1 : Nat)) : Int), (↑(segs (2
    : Nat)) : Int), (↑(segs (3 : Nat)) : Int), (↑(segs (4 : Nat)) : Int), (↑(segs (5 : Nat)) : Int), (↑(segs (6 : Nat)) : Int), (↑(segs (7 : Nat)) : Int)].getD (↑g : Int).toNat (0 :
    Int)) Bd.any)) (ST.node (SV.c (SC.ptr (1 : Nat) (0 : Nat))) (ST.node (SV.c (SC.ptr (0 : Nat) (0 : Nat))) ST.nil ST.nil) ST.nil) (ST.node (SV.c (SC.boo false (inL (↑(Col.mk (1 : Nat)
    g node segs (q :: l)).g : Int) (↑(Col.mk (1 : Nat) g node segs (q :: l)).node : Int)))) (ST.node (SV.c (SC.sli (187 : Nat) (2 : Nat) true (0 : Nat) false ((q :: l).length + (1 :
    Nat)) cap_1)) ST.nil ST.nil) ST.nil)) (ST.node (SV.c (SC.int false IntKind.i64 (↑node : Int) Bd.any)) (ST.node (SV.c (SC.ptr (0 : Nat) (2 : Nat))) (ST.node (SV.c (SC.int false
    IntKind.i64 (↑g : Int) Bd.any)) ST.nil ST.nil) ST.nil) (ST.node (SV.c (SC.boo true false)) ST.nil ST.nil))) (ST.node (SV.c (SC.int false IntKind.i64 (↑g : Int) Bd.any)) (ST.node
    (SV.c (SC.int false IntKind.i64 (↑g : Int) Bd.any)) (ST.node (SV.c (SC.int true IntKind.i64 (0 : Int))) (ST.node (SV.c (SC.ptr (0 : Nat) (0 : Nat))) ST.nil ST.nil) ST.nil) (ST.node
    (SV.tup []) (ST.node (SV.tup []) ST.nil ST.nil) ST.nil)) (ST.node (SV.tup [(false, [SC.int false IntKind.u64 (↑(A.rd (if inC (↑g : Int) (↑node : Int) = true then [(↑(segs (0 : Nat))
    : Int), (↑(segs (1 : Nat)) : Int), (↑(segs (2 : Nat)) : Int), (↑(segs (3 : Nat)) : Int), (↑(segs (4 : Nat)) : Int), (↑(segs (5 : Nat)) : Int), (↑(segs (6 : Nat)) : Int), (↑(segs (7
    : Nat)) : Int)].getD (↑g : Int).toNat (0 : Int) else (0 : Int)) (if inC (↑g : Int) (↑node : Int) = true then (5 : Int) * (↑((2 : Nat) ^ (↑g : Int).toNat) : Int) + (↑node : Int) else
    (0 : Int))) : Int) Bd.any]), (false, [SC.int true IntKind.i64 (0 : Int)])]) (ST.node (SV.c (SC.ptr (0 : Nat) (3 : Nat))) (ST.node (SV.c (SC.int false IntKind.u64 ([(↑(segs (0 :
    Nat)) : Int), (↑(segs (1 : Nat)) : Int), (↑(segs (2 : Nat)) : Int), (↑(segs (3 : Nat)) : Int), (↑(segs (4 : Nat)) : Int), (↑(segs (5 : Nat)) : Int), (↑(segs (6 : Nat)) : Int),
    (↑(segs (7 : Nat)) : Int)].getD (↑g : Int).toNat (0 : Int)) Bd.any)) ST.nil ST.nil) ST.nil) (ST.node (SV.tup []) ST.nil ST.nil))))) (ST.node (SV.c (SC.ptr (137 : Nat) (0 : Nat)))
    (ST.node (SV.c (SC.int false IntKind.u64 (↑(A.rd (if inC (↑g : Int) (↑node : Int) = true then [(↑(segs (0 : Nat)) : Int), (↑(segs (1 : Nat)) : Int), (↑(segs (2 : Nat)) : Int),
    (↑(segs (3 : Nat)) : Int), (↑(segs (4 : Nat)) : Int), (↑(segs (5 : Nat)) : Int), (↑(segs (6 : Nat)) : Int), (↑(segs (7 : Nat)) : Int)].getD (↑g : Int).toNat (0 : Int) else (0 :
    Int)) (if inC (↑g : Int) (↑node : Int) = true then (5 : Int) * (↑((2 : Nat) ^ (↑g : Int).toNat) : Int) + (↑node : Int) else (0 : Int))) : Int) Bd.any)) (ST.node (SV.tup [(true,
    [SC.int false IntKind.u64 (if inC (↑g : Int) (↑node : Int) = true then [(↑(segs (0 : Nat)) : Int), (↑(segs (1 : Nat)) : Int), (↑(segs (2 : Nat)) : Int), (↑(segs (3 : Nat)) : Int),
    (↑(segs (4 : Nat)) : Int), (↑(segs (5 : Nat)) : Int), (↑(segs (6 : Nat)) : Int), (↑(segs (7 : Nat)) : Int)].getD (↑g : Int).toNat (0 : Int) else (0 : Int)) Bd.any, SC.int false
    IntKind.i64 (if inC (↑g : Int) (↑node : Int) = true then (5 : Int) * (↑((2 : Nat) ^ (↑g : Int).toNat) : Int) + (↑node : Int) else (0 : Int)) (Bd.w (0 : Int) (895 : Int)
    (counter_bd._proof_4 (↑(Col.mk (1 : Nat) g node segs (q :: l)).g : Int) (↑(Col.mk (1 : Nat) g node segs (q :: l)).node : Int)))]), (false, [SC.boo false (inC (↑(Col.mk (1 : Nat) g
    node segs (q :: l)).g : Int) (↑(Col.mk (1 : Nat) g node segs (q :: l)).node : Int))])]) (ST.node (SV.c (SC.elp (0 : Nat) (↑g : Int).toNat (1 : Nat) (4 : Nat))) (ST.node (SV.c
    (SC.ptr (0 : Nat) (1 : Nat))) (ST.node (SV.c (SC.ptr (0 : Nat) (0 : Nat))) ST.nil ST.nil) ST.nil) (ST.node (SV.c (SC.int false IntKind.i64 (if inL (↑g : Int) (↑node : Int) = true
    then (↑node : Int) - (1 : Int) else (0 : Int)) (Bd.w (0 : Int) (254 : Int) (slot_bd._proof_3 (↑(Col.mk (1 : Nat) g node segs (q :: l)).g : Int) (↑(Col.mk (1 : Nat) g node segs (q ::
    l)).node : Int))))) (ST.node (SV.c (SC.sli (186 : Nat) (2 : Nat) true (0 : Nat) true (1 : Nat) (1 : Nat))) ST.nil ST.nil) ST.nil)) (ST.node (SV.c (SC.ptr (0 : Nat) (3 : Nat)))
    (ST.node (SV.c (SC.ptr (0 : Nat) (0 : Nat))) (ST.node (SV.c (SC.ptr (0 : Nat) (2 : Nat))) ST.nil ST.nil) ST.nil) (ST.node (SV.tup []) ST.nil ST.nil))) (ST.node (SV.c (SC.ptr (0 :
    Nat) (2 : Nat))) (ST.node (SV.c (SC.ptr (0 : Nat) (2 : Nat))) (ST.node (SV.c (SC.int false IntKind.u64 (↑(A.rd (if inC (↑g : Int) (↑node : Int) = true then [(↑(segs (0 : Nat)) :
    Int), (↑(segs (1 : Nat)) : Int), (↑(segs (2 : Nat)) : Int), (↑(segs (3 : Nat)) : Int), (↑(segs (4 : Nat)) : Int), (↑(segs (5 : Nat)) : Int), (↑(segs (6 : Nat)) : Int), (↑(segs (7 :
    Nat)) : Int)].getD (↑g : Int).toNat (0 : Int) else (0 : Int)) (if inC (↑g : Int) (↑node : Int) = true then (5 : Int) * (↑((2 : Nat) ^ (↑g : Int).toNat) : Int) + (↑node : Int) else
    (0 : Int))) : Int) Bd.any)) (ST.node (SV.c (SC.sli (10 : Nat) (2 : Nat) true (0 : Nat) false (q :: l).length cap)) ST.nil ST.nil) ST.nil) (ST.node (SV.tup []) (ST.node (SV.tup [])
    ST.nil ST.nil) ST.nil)) (ST.node (SV.c (SC.boo false (inC (↑(Col.mk (1 : Nat) g node segs (q :: l)).g : Int) (↑(Col.mk (1 : Nat) g node segs (q :: l)).node : Int)))) (ST.node (SV.c
    (SC.ptr (0 : Nat) (0 : Nat))) (ST.node (SV.c (SC.elp (0 : Nat) (↑g : Int).toNat (1 : Nat) (4 : Nat))) ST.nil ST.nil) ST.nil) (ST.node (SV.tup []) ST.nil ST.nil)))) (ST.node (SV.c
    (SC.int false IntKind.i64 (if inL (↑g : Int) (↑node : Int) = true then (↑node : Int) - (1 : Int) else (0 : Int)) (Bd.w (0 : Int) (254 : Int) (slot_bd._proof_3 (↑(Col.mk (1 : Nat) g
    node segs (q :: l)).g : Int) (↑(Col.mk (1 : Nat) g node segs (q :: l)).node : Int))))) (ST.node (SV.c (SC.ptr (0 : Nat) (0 : Nat))) (ST.node (SV.c (SC.ptr (0 : Nat) (0 : Nat)))
    (ST.node (SV.agg [SC.int false IntKind.u64 (if inC (↑g : Int) (↑node : Int) = true then [(↑(segs (0 : Nat)) : Int), (↑(segs (1 : Nat)) : Int), (↑(segs (2 : Nat)) : Int), (↑(segs (3
    : Nat)) : Int), (↑(segs (4 : Nat)) : Int), (↑(segs (5 : Nat)) : Int), (↑(segs (6 : Nat)) : Int), (↑(segs (7 : Nat)) : Int)].getD (↑g : Int).toNat (0 : Int) else (0 : Int)) Bd.any,
    SC.int false IntKind.i64 (if inC (↑g : Int) (↑node : Int) = true then (5 : Int) * (↑((2 : Nat) ^ (↑g : Int).toNat) : Int) + (↑node : Int) else (0 : Int)) (Bd.w (0 : Int) (895 : Int)
    (counter_bd._proof_4 (↑(Col.mk (1 : Nat) g node segs (q :: l)).g : Int) (↑(Col.mk (1 : Nat) g node segs (q :: l)).node : Int)))]) (ST.node (SV.c (SC.ptr (0 : Nat) (0 : Nat))) ST.nil
    ST.nil) ST.nil) (ST.node (SV.tup []) (ST.node (SV.c (SC.ptr (0 : Nat) (0 : Nat))) ST.nil ST.nil) ST.nil)) (ST.node (SV.tup [(true, [SC.int false IntKind.u64 (if inC (↑g : Int)
    (↑node : Int) = true then [(↑(segs (0 : Nat)) : Int), (↑(segs (1 : Nat)) : Int), (↑(segs (2 : Nat)) : Int), (↑(segs (3 : Nat)) : Int), (↑(segs (4 : Nat)) : Int), (↑(segs (5 : Nat))
    : Int), (↑(segs (6 : Nat)) : Int), (↑(segs (7 : Nat)) : Int)].getD (↑g : Int).toNat (0 : Int) else (0 : Int)) Bd.any, SC.int false IntKind.i64 (if inC (↑g : Int) (↑node : Int) =
    true then (5 : Int) * (↑((2 : Nat) ^ (↑g : Int).toNat) : Int) + (↑node : Int) else (0 : Int)) (Bd.w (0 : Int) (895 : Int) (counter_bd._proof_4 (↑(Col.mk (1 : Nat) g node segs (q ::
    l)).g : Int) (↑(Col.mk (1 : Nat) g node segs (q :: l)).node : Int)))]), (false, [SC.boo false (inC (↑(Col.mk (1 : Nat) g node segs (q :: l)).g : Int) (↑(Col.mk (1 : Nat) g node segs
    (q :: l)).node : Int))])]) (ST.node (SV.c (SC.int false IntKind.i64 (↑g : Int) Bd.any)) (ST.node (SV.c (SC.ptr (0 : Nat) (0 : Nat))) ST.nil ST.nil) ST.nil) (ST.node (SV.c (SC.int
    false IntKind.u64 (↑(A.rd (if inC (↑g : Int) (↑node : Int) = true then [(↑(segs (0 : Nat)) : Int), (↑(segs (1 : Nat)) : Int), (↑(segs (2 : Nat)) : Int), (↑(segs (3 : Nat)) : Int),
    (↑(segs (4 : Nat)) : Int), (↑(segs (5 : Nat)) : Int), (↑(segs (6 : Nat)) : Int), (↑(segs (7 : Nat)) : Int)].getD (↑g : Int).toNat (0 : Int) else (0 : Int)) (if inC (↑g : Int) (↑node
    : Int) = true then (5 : Int) * (↑((2 : Nat) ^ (↑g : Int).toNat) : Int) + (↑node : Int) else (0 : Int))) : Int) Bd.any)) ST.nil ST.nil))) (ST.node (SV.c (SC.ptr (0 : Nat) (0 : Nat)))
    (ST.node (SV.c (SC.ptr (0 : Nat) (0 : Nat))) (ST.node (SV.tup [(false, [SC.int false IntKind.i64 (if inL (↑g : Int) (↑node : Int) = true then (↑node : Int) - (1 : Int) else (0 :
    Int)) (Bd.w (0 : Int) (254 : Int) (slot_bd._proof_3 (↑(Col.mk (1 : Nat) g node segs (q :: l)).g : Int) (↑(Col.mk (1 : Nat) g node segs (q :: l)).node : Int)))]), (false, [SC.boo
    false (inL (↑(Col.mk (1 : Nat) g node segs (q :: l)).g : Int) (↑(Col.mk (1 : Nat) g node segs (q :: l)).node : Int))])]) (ST.node (SV.c (SC.ptr (0 : Nat) (0 : Nat))) ST.nil ST.nil)
    ST.nil) (ST.node (SV.tup []) ST.nil ST.nil)) (ST.node (SV.c (SC.ptr (0 : Nat) (0 : Nat))) (ST.node (SV.c (SC.int false IntKind.i64 (↑node : Int) Bd.any)) (ST.node (SV.c (SC.int
    false IntKind.i64 (if inL (↑g : Int) (↑node : Int) = true then (↑node : Int) - (1 : Int) else (0 : Int)) (Bd.w (0 : Int) (254 : Int) (slot_bd._proof_3 (↑(Col.mk (1 : Nat) g node
    segs (q :: l)).g : Int) (↑(Col.mk (1 : Nat) g node segs (q :: l)).node : Int))))) ST.nil ST.nil) ST.nil) (ST.node (SV.c (SC.boo true true)) ST.nil ST.nil)))))) []) (Mem.mk [((0 :
    Nat), SO.cells [SC.fn (Fn.func (OfNat.ofNat (164 : Nat))) [SC.ptr (0 : Nat) (0 : Nat)] [], SC.ptr (1 : Nat) (0 : Nat), SC.int false IntKind.i64 (↑g : Int) Bd.any, SC.int false
    IntKind.i64 (↑node : Int) Bd.any, SC.int false IntKind.u64 (↑(segs (0 : Nat)) : Int) Bd.any, SC.int false IntKind.u64 (↑(segs (1 : Nat)) : Int) Bd.any, SC.int false IntKind.u64
    (↑(segs (2 : Nat)) : Int) Bd.any, SC.int false IntKind.u64 (↑(segs (3 : Nat)) : Int) Bd.any, SC.int false IntKind.u64 (↑(segs (4 : Nat)) : Int) Bd.any, SC.int false IntKind.u64
    (↑(segs (5 : Nat)) : Int) Bd.any, SC.int false IntKind.u64 (↑(segs (6 : Nat)) : Int) Bd.any, SC.int false IntKind.u64 (↑(segs (7 : Nat)) : Int) Bd.any, SC.sli (187 : Nat) (2 : Nat)
    true (0 : Nat) false ((q :: l).length + (1 : Nat)) cap_1] (OfNat.ofNat (168 : Nat))), ((1 : Nat), SO.ext (XO.ar A.read)), ((137 : Nat), SO.cells [SC.int false IntKind.u64 (if inC
    (↑g : Int) (↑node : Int) = true then [(↑(segs (0 : Nat)) : Int), (↑(segs (1 : Nat)) : Int), (↑(segs (2 : Nat)) : Int), (↑(segs (3 : Nat)) : Int), (↑(segs (4 : Nat)) : Int), (↑(segs
    (5 : Nat)) : Int), (↑(segs (6 : Nat)) : Int), (↑(segs (7 : Nat)) : Int)].getD (↑g : Int).toNat (0 : Int) else (0 : Int)) Bd.any, SC.int false IntKind.i64 (if inC (↑g : Int) (↑node :
    Int) = true then (5 : Int) * (↑((2 : Nat) ^ (↑g : Int).toNat) : Int) + (↑node : Int) else (0 : Int)) (Bd.w (0 : Int) (895 : Int) (counter_bd._proof_4 (↑(Col.mk (1 : Nat) g node segs
    (q :: l)).g : Int) (↑(Col.mk (1 : Nat) g node segs (q :: l)).node : Int)))] (96 : Nat)), ((186 : Nat), SO.cells [SC.int false IntKind.u64 ([(↑(segs (0 : Nat)) : Int), (↑(segs (1 :
    Nat)) : Int), (↑(segs (2 : Nat)) : Int), (↑(segs (3 : Nat)) : Int), (↑(segs (4 : Nat)) : Int), (↑(segs (5 : Nat)) : Int), (↑(segs (6 : Nat)) : Int), (↑(segs (7 : Nat)) : Int)].getD
    (↑g : Int).toNat (0 : Int)) Bd.any, SC.int false IntKind.i64 (if inL (↑g : Int) (↑node : Int) = true then (↑node : Int) - (1 : Int) else (0 : Int)) (Bd.w (0 : Int) (254 : Int)
    (slot_bd._proof_3 (↑(Col.mk (1 : Nat) g node segs (q :: l)).g : Int) (↑(Col.mk (1 : Nat) g node segs (q :: l)).node : Int)))] (44 : Nat)), ((187 : Nat), SO.vals (44 : Nat) (2 : Nat)
    ((q :: l).length + (1 : Nat)) cap_1 fun (i : Nat) => if i < (q :: l).length then plF (q :: l) i else [Value.int IntKind.u64 ([(↑((Col.mk (1 : Nat) g node segs (q :: l)).segs (0 :
    Nat)) : Int), (↑((Col.mk (1 : Nat) g node segs (q :: l)).segs (1 : Nat)) : Int), (↑((Col.mk (1 : Nat) g node segs (q :: l)).segs (2 : Nat)) : Int), (↑((Col.mk (1 : Nat) g node segs
    (q :: l)).segs (3 : Nat)) : Int), (↑((Col.mk (1 : Nat) g node segs (q :: l)).segs (4 : Nat)) : Int), (↑((Col.mk (1 : Nat) g node segs (q :: l)).segs (5 : Nat)) : Int), (↑((Col.mk (1
    : Nat) g node segs (q :: l)).segs (6 : Nat)) : Int), (↑((Col.mk (1 : Nat) g node segs (q :: l)).segs (7 : Nat)) : Int)].getD (↑(Col.mk (1 : Nat) g node segs (q :: l)).g : Int).toNat
    (0 : Int)), Value.int IntKind.i64 (if inL (↑(Col.mk (1 : Nat) g node segs (q :: l)).g : Int) (↑(Col.mk (1 : Nat) g node segs (q :: l)).node : Int) = true then (↑(Col.mk (1 : Nat) g
    node segs (q :: l)).node : Int) - (1 : Int) else (0 : Int))])] (170 : Nat)) (onScr g segs (q :: l2) node))) ∧ True) (fun (cap_1 : Nat) => K (SF.mk (86 : Nat) (ST.node (SV.c (SC.ptr
    (0 : Nat) (0 : Nat))) (ST.node (SV.tup []) (ST.node (SV.c (SC.boo false (inC (↑(Col.mk (1 : Nat) g node segs (q :: l)).g : Int) (↑(Col.mk (1 : Nat) g node segs (q :: l)).node :
    Int)))) (ST.node (SV.c (SC.boo false (inL (↑(Col.mk (1 : Nat) g node segs (q :: l)).g : Int) (↑(Col.mk (1 : Nat) g node segs (q :: l)).node : Int)))) (ST.node (SV.c (SC.ptr (0 :
    Nat) (4 : Nat))) (ST.node (SV.c (SC.ptr (0 : Nat) (0 : Nat))) (ST.node (SV.c (SC.boo false (inL (↑(Col.mk (1 : Nat) g node segs (q :: l)).g : Int) (↑(Col.mk (1 : Nat) g node segs (q
    :: l)).node : Int)))) ST.nil ST.nil) ST.nil) (ST.node (SV.tup [(false, [SC.int false IntKind.i64 (if inL (↑g : Int) (↑node : Int) = true then (↑node : Int) - (1 : Int) else (0 :
    Int)) (Bd.w (0 : Int) (254 : Int) (slot_bd._proof_3 (↑(Col.mk (1 : Nat) g node segs (q :: l)).g : Int) (↑(Col.mk (1 : Nat) g node segs (q :: l)).node : Int)))]), (false, [SC.boo
    false (inL (↑(Col.mk (1 : Nat) g node segs (q :: l)).g : Int) (↑(Col.mk (1 : Nat) g node segs (q :: l)).node : Int))])]) (ST.node (SV.agg [SC.int false IntKind.u64 ([(↑(segs (0 :
    Nat)) : Int), (↑(segs (1 : Nat)) : Int), (↑(segs (2 : Nat)) : Int), (↑(segs (3 : Nat)) : Int), (↑(segs (4 : Nat)) : Int), (↑(segs (5 : Nat)) : Int), (↑(segs (6 : Nat)) : Int),
    (↑(segs (7 : Nat)) : Int)].getD (↑g : Int).toNat (0 : Int)) Bd.any, SC.int false IntKind.i64 (if inL (↑g : Int) (↑node : Int) = true then (↑node : Int) - (1 : Int) else (0 : Int))
    (Bd.w (0 : Int) (254 : Int) (slot_bd._proof_3 (↑(Col.mk (1 : Nat) g node segs (q :: l)).g : Int) (↑(Col.mk (1 : Nat) g node segs (q :: l)).node : Int)))]) ST.nil ST.nil) ST.nil))
    (ST.node (SV.c (SC.ptr (0 : Nat) (0 : Nat))) (ST.node (SV.c (SC.ptr (0 : Nat) (0 : Nat))) (ST.node (SV.c (SC.ptr (0 : Nat) (0 : Nat))) ST.nil ST.nil) ST.nil) (ST.node (SV.tup [])
    ST.nil ST.nil))) (ST.node (SV.c (SC.ptr (0 : Nat) (0 : Nat))) (ST.node (SV.c (SC.ptr (0 : Nat) (0 : Nat))) (ST.node (SV.tup [(false, [SC.int false IntKind.u64 (↑(A.rd (if inC (↑g :
    Int) (↑node : Int) = true then [(↑(segs (0 : Nat)) : Int), (↑(segs (1 : Nat)) : Int), (↑(segs (2 : Nat)) : Int), (↑(segs (3 : Nat)) : Int), (↑(segs (4 : Nat)) : Int), (↑(segs (5 :
    Nat)) : Int), (↑(segs (6 : Nat)) : Int), (↑(segs (7 : Nat)) : Int)].getD (↑g : Int).toNat (0 : Int) else (0 : Int)) (if inC (↑g : Int) (↑node : Int) = true then (5 : Int) * (↑((2 :
    Nat) ^ (↑g : Int).toNat) : Int) + (↑node : Int) else (0 : Int))) : Int) Bd.any]), (false, [SC.int true IntKind.i64 (0 : Int)])]) (ST.node (SV.c (SC.ptr (0 : Nat) (12 : Nat))) ST.nil
    ST.nil) ST.nil) (ST.node (SV.tup []) (ST.node (SV.c (SC.ptr (0 : Nat) (12 : Nat))) ST.nil ST.nil) ST.nil)) (ST.node (SV.agg [SC.int false IntKind.u64 (if inC (↑g : Int) (↑node :
    Int) = true then [(↑(segs (0 : Nat)) : Int), (↑(segs (1 : Nat)) : Int), (↑(segs (2 : Nat)) : Int), (↑(segs (3 : Nat)) : Int), (↑(segs (4 : Nat)) : Int), (↑(segs (5 : Nat)) : Int),
    (↑(segs (6 : Nat)) : Int), (↑(segs (7 : Nat)) : Int)].getD (↑g : Int).toNat (0 : Int) else (0 : Int)) Bd.any, SC.int false IntKind.i64 (if inC (↑g : Int) (↑node : Int) = true then
    (5 : Int) * (↑((2 : Nat) ^ (↑g : Int).toNat) : Int) + (↑node : Int) else (0 : Int)) (Bd.w (0 : Int) (895 : Int) (counter_bd._proof_4 (↑(Col.mk (1 : Nat) g node segs (q :: l)).g :
    Int) (↑(Col.mk (1 : Nat) g node segs (q :: l)).node : Int)))]) (ST.node (SV.c (SC.ptr (0 : Nat) (0 : Nat))) (ST.node (SV.c (SC.ptr (0 : Nat) (4 : Nat))) ST.nil ST.nil) ST.nil)
    (ST.node (SV.c (SC.boo false ((↑(A.rd (if inC (↑(Col.mk (1 : Nat) g node segs (q :: l)).g : Int) (↑(Col.mk (1 : Nat) g node segs (q :: l)).node : Int) = true then [(↑((Col.mk (1 :
    Nat) g node segs (q :: l)).segs (0 : Nat)) : Int), (↑((Col.mk (1 : Nat) g node segs (q :: l)).segs (1 : Nat)) : Int), (↑((Col.mk (1 : Nat) g node segs (q :: l)).segs (2 : Nat)) :
    Int), (↑((Col.mk (1 : Nat) g node segs (q :: l)).segs (3 : Nat)) : Int), (↑((Col.mk (1 : Nat) g node segs (q :: l)).segs (4 : Nat)) : Int), (↑((Col.mk (1 : Nat) g node segs (q ::
    l)).segs (5 : Nat)) : Int), (↑((Col.mk (1 : Nat) g node segs (q :: l)).segs (6 : Nat)) : Int), (↑((Col.mk (1 : Nat) g node segs (q :: l)).segs (7 : Nat)) : Int)].getD (↑(Col.mk (1 :
    Nat) g node segs (q :: l)).g : Int).toNat (0 : Int) else (0 : Int)) (if inC (↑(Col.mk (1 : Nat) g node segs (q :: l)).g : Int) (↑(Col.mk (1 : Nat) g node segs (q :: l)).node : Int)
    = true then (5 : Int) * (↑((2 : Nat) ^ (↑(Col.mk (1 : Nat) g node segs (q :: l)).g : Int).toNat) : Int) + (↑(Col.mk (1 : Nat) g node segs (q :: l)).node : Int) else (0 : Int))) :
    Int) == (0 : Int)))) ST.nil ST.nil)))) (ST.node (SV.c (SC.int true IntKind.i64 (0 : Int))) (ST.node (SV.c (SC.ptr (0 : Nat) (0 : Nat))) (ST.node (SV.c (SC.int false IntKind.u64
    ([(↑(segs (0 : Nat)) : Int), (↑(segs (1 : Nat)) : Int), (↑(segs (2 : Nat)) : Int), (↑(segs (3 : Nat)) : Int), (↑(segs (4 : Nat)) : Int), (↑(segs (5 : Nat)) : Int), (↑(segs (6 :
    Nat)) : Int), (↑(segs (7 : Nat)) : Int)].getD (↑g : Int).toNat (0 : Int)) Bd.any)) (ST.node (SV.c (SC.ptr (1 : Nat) (0 : Nat))) (ST.node (SV.c (SC.ptr (0 : Nat) (0 : Nat))) ST.nil
    ST.nil) ST.nil) (ST.node (SV.c (SC.boo false (inL (↑(Col.mk (1 : Nat) g node segs (q :: l)).g : Int) (↑(Col.mk (1 : Nat) g node segs (q :: l)).node : Int)))) (ST.node (SV.c (SC.sli
    (187 : Nat) (2 : Nat) true (0 : Nat) false ((q :: l).length + (1 : Nat)) cap_1)) ST.nil ST.nil) ST.nil)) (ST.node (SV.c (SC.int false IntKind.i64 (↑node : Int) Bd.any)) (ST.node
    (SV.c (SC.ptr (0 : Nat) (2 : Nat))) (ST.node (SV.c (SC.int false IntKind.i64 (↑g : Int) Bd.any)) ST.nil ST.nil) ST.nil) (ST.node (SV.c (SC.boo true false)) ST.nil ST.nil))) (ST.node
    (SV.c (SC.int false IntKind.i64 (↑g : Int) Bd.any)) (ST.node (SV.c (SC.int false IntKind.i64 (↑g : Int) Bd.any)) (ST.node (SV.c (SC.int true IntKind.i64 (0 : Int))) (ST.node (SV.c
    (SC.ptr (0 : Nat) (0 : Nat))) ST.nil ST.nil) ST.nil) (ST.node (SV.tup []) (ST.node (SV.tup []) ST.nil ST.nil) ST.nil)) (ST.node (SV.tup [(false, [SC.int false IntKind.u64 (↑(A.rd
    (if inC (↑g : Int) (↑node : Int) = true then [(↑(segs (0 : Nat)) : Int), (↑(segs (1 : Nat)) : Int), (↑(segs (2 : Nat)) : Int), (↑(segs (3 : Nat)) : Int), (↑(segs (4 : Nat)) : Int),
    (↑(segs (5 : Nat)) : Int), (↑(segs (6 : Nat)) : Int), (↑(segs (7 : Nat)) : Int)].getD (↑g : Int).toNat (0 : Int) else (0 : Int)) (if inC (↑g : Int) (↑node : Int) = true then (5 :
    Int) * (↑((2 : Nat) ^ (↑g : Int).toNat) : Int) + (↑node : Int) else (0 : Int))) : Int) Bd.any]), (false, [SC.int true IntKind.i64 (0 : Int)])]) (ST.node (SV.c (SC.ptr (0 : Nat) (3 :
    Nat))) (ST.node (SV.c (SC.int false IntKind.u64 ([(↑(segs (0 : Nat)) : Int), (↑(segs (1 : Nat)) : Int), (↑(segs (2 : Nat)) : Int), (↑(segs (3 : Nat)) : Int), (↑(segs (4 : Nat)) :
    Int), (↑(segs (5 : Nat)) : Int), (↑(segs (6 : Nat)) : Int), (↑(segs (7 : Nat)) : Int)].getD (↑g : Int).toNat (0 : Int)) Bd.any)) ST.nil ST.nil) ST.nil) (ST.node (SV.tup []) ST.nil
    ST.nil))))) (ST.node (SV.c (SC.ptr (137 : Nat) (0 : Nat))) (ST.node (SV.c (SC.int false IntKind.u64 (↑(A.rd (if inC (↑g : Int) (↑node : Int) = true then [(↑(segs (0 : Nat)) : Int),
    (↑(segs (1 : Nat)) : Int), (↑(segs (2 : Nat)) : Int), (↑(segs (3 : Nat)) : Int), (↑(segs (4 : Nat)) : Int), (↑(segs (5 : Nat)) : Int), (↑(segs (6 : Nat)) : Int), (↑(segs (7 : Nat))
    : Int)].getD (↑g : Int).toNat (0 : Int) else (0 : Int)) (if inC (↑g : Int) (↑node : Int) = true then (5 : Int) * (↑((2 : Nat) ^ (↑g : Int).toNat) : Int) + (↑node : Int) else (0 :
    Int))) : Int) Bd.any)) (ST.node (SV.tup [(true, [SC.int false IntKind.u64 (if inC (↑g : Int) (↑node : Int) = true then [(↑(segs (0 : Nat)) : Int), (↑(segs (1 : Nat)) : Int), (↑(segs
    (2 : Nat)) : Int), (↑(segs (3 : Nat)) : Int), (↑(segs (4 : Nat)) : Int), (↑(segs (5 : Nat)) : Int), (↑(segs (6 : Nat)) : Int), (↑(segs (7 : Nat)) : Int)].getD (↑g : Int).toNat (0 :
    Int) else (0 : Int)) Bd.any, SC.int false IntKind.i64 (if inC (↑g : Int) (↑node : Int) = true then (5 : Int) * (↑((2 : Nat) ^ (↑g : Int).toNat) : Int) + (↑node : Int) else (0 :
    Int)) (Bd.w (0 : Int) (895 : Int) (counter_bd._proof_4 (↑(Col.mk (1 : Nat) g node segs (q :: l)).g : Int) (↑(Col.mk (1 : Nat) g node segs (q :: l)).node : Int)))]), (false, [SC.boo
    false (inC (↑(Col.mk (1 : Nat) g node segs (q :: l)).g : Int) (↑(Col.mk (1 : Nat) g node segs (q :: l)).node : Int))])]) (ST.node (SV.c (SC.elp (0 : Nat) (↑g : Int).toNat (1 : Nat)
    (4 : Nat))) (ST.node (SV.c (SC.ptr (0 : Nat) (1 : Nat))) (ST.node (SV.c (SC.ptr (0 : Nat) (0 : Nat))) ST.nil ST.nil) ST.nil) (ST.node (SV.c (SC.int false IntKind.i64 (if inL (↑g :
    Int) (↑node : Int) = true then (↑node : Int) - (1 : Int) else (0 : Int)) (Bd.w (0 : Int) (254 : Int) (slot_bd._proof_3 (↑(Col.mk (1 : Nat) g node segs (q :: l)).g : Int) (↑(Col.mk
    (1 : Nat) g node segs (q :: l)).node : Int))))) (ST.node (SV.c (SC.sli (186 : Nat) (2 : Nat) true (0 : Nat) true (1 : Nat) (1 : Nat))) ST.nil ST.nil) ST.nil)) (ST.node (SV.c (SC.ptr
    (0 : Nat) (3 : Nat))) (ST.node (SV.c (SC.ptr (0 : Nat) (0 : Nat))) (ST.node (SV.c (SC.ptr (0 : Nat) (2 : Nat))) ST.nil ST.nil) ST.nil) (ST.node (SV.tup []) ST.nil ST.nil))) (ST.node
    (SV.c (SC.ptr (0 : Nat) (2 : Nat))) (ST.node (SV.c (SC.ptr (0 : Nat) (2 : Nat))) (ST.node (SV.c (SC.int false IntKind.u64 (↑(A.rd (if inC (↑g : Int) (↑node : Int) = true then
    [(↑(segs (0 : Nat)) : Int), (↑(segs (1 : Nat)) : Int), (↑(segs (2 : Nat)) : Int), (↑(segs (3 : Nat)) : Int), (↑(segs (4 : Nat)) : Int), (↑(segs (5 : Nat)) : Int), (↑(segs (6 : Nat))
    : Int), (↑(segs (7 : Nat)) : Int)].getD (↑g : Int).toNat (0 : Int) else (0 : Int)) (if inC (↑g : Int) (↑node : Int) = true then (5 : Int) * (↑((2 : Nat) ^ (↑g : Int).toNat) : Int) +
    (↑node : Int) else (0 : Int))) : Int) Bd.any)) (ST.node (SV.c (SC.sli (10 : Nat) (2 : Nat) true (0 : Nat) false (q :: l).length cap)) ST.nil ST.nil) ST.nil) (ST.node (SV.tup [])
    (ST.node (SV.tup []) ST.nil ST.nil) ST.nil)) (ST.node (SV.c (SC.boo false (inC (↑(Col.mk (1 : Nat) g node segs (q :: l)).g : Int) (↑(Col.mk (1 : Nat) g node segs (q :: l)).node :
    Int)))) (ST.node (SV.c (SC.ptr (0 : Nat) (0 : Nat))) (ST.node (SV.c (SC.elp (0 : Nat) (↑g : Int).toNat (1 : Nat) (4 : Nat))) ST.nil ST.nil) ST.nil) (ST.node (SV.tup []) ST.nil
    ST.nil)))) (ST.node (SV.c (SC.int false IntKind.i64 (if inL (↑g : Int) (↑node : Int) = true then (↑node : Int) - (1 : Int) else (0 : Int)) (Bd.w (0 : Int) (254 : Int)
    (slot_bd._proof_3 (↑(Col.mk (1 : Nat) g node segs (q :: l)).g : Int) (↑(Col.mk (1 : Nat) g node segs (q :: l)).node : Int))))) (ST.node (SV.c (SC.ptr (0 : Nat) (0 : Nat))) (ST.node
    (SV.c (SC.ptr (0 : Nat) (0 : Nat))) (ST.node (SV.agg [SC.int false IntKind.u64 (if inC (↑g : Int) (↑node : Int) = true then [(↑(segs (0 : Nat)) : Int), (↑(segs (1 : Nat)) : Int),
    (↑(segs (2 : Nat)) : Int), (↑(segs (3 : Nat)) : Int), (↑(segs (4 : Nat)) : Int), (↑(segs (5 : Nat)) : Int), (↑(segs (6 : Nat)) : Int), (↑(segs (7 : Nat)) : Int)].getD (↑g :
    Int).toNat (0 : Int) else (0 : Int)) Bd.any, SC.int false IntKind.i64 (if inC (↑g : Int) (↑node : Int) = true then (5 : Int) * (↑((2 : Nat) ^ (↑g : Int).toNat) : Int) + (↑node :
    Int) else (0 : Int)) (Bd.w (0 : Int) (895 : Int) (counter_bd._proof_4 (↑(Col.mk (1 : Nat) g node segs (q :: l)).g : Int) (↑(Col.mk (1 : Nat) g node segs (q :: l)).node : Int)))])
    (ST.node (SV.c (SC.ptr (0 : Nat) (0 : Nat))) ST.nil ST.nil) ST.nil) (ST.node (SV.tup []) (ST.node (SV.c (SC.ptr (0 : Nat) (0 : Nat))) ST.nil ST.nil) ST.nil)) (ST.node (SV.tup
    [(true, [SC.int false IntKind.u64 (if inC (↑g : Int) (↑node : Int) = true then [(↑(segs (0 : Nat)) : Int), (↑(segs (1 : Nat)) : Int), (↑(segs (2 : Nat)) : Int), (↑(segs (3 : Nat)) :
    Int), (↑(segs (4 : Nat)) : Int), (↑(segs (5 : Nat)) : Int), (↑(segs (6 : Nat)) : Int), (↑(segs (7 : Nat)) : Int)].getD (↑g : Int).toNat (0 : Int) else (0 : Int)) Bd.any, SC.int
    false IntKind.i64 (if inC (↑g : Int) (↑node : Int) = true then (5 : Int) * (↑((2 : Nat) ^ (↑g : Int).toNat) : Int) + (↑node : Int) else (0 : Int)) (Bd.w (0 : Int) (895 : Int)
    (counter_bd._proof_4 (↑(Col.mk (1 : Nat) g node segs (q :: l)).g : Int) (↑(Col.mk (1 : Nat) g node segs (q :: l)).node : Int)))]), (false, [SC.boo false (inC (↑(Col.mk (1 : Nat) g
    node segs (q :: l)).g : Int) (↑(Col.mk (1 : Nat) g node segs (q :: l)).node : Int))])]) (ST.node (SV.c (SC.int false IntKind.i64 (↑g : Int) Bd.any)) (ST.node (SV.c (SC.ptr (0 : Nat)
    (0 : Nat))) ST.nil ST.nil) ST.nil) (ST.node (SV.c (SC.int false IntKind.u64 (↑(A.rd (if inC (↑g : Int) (↑node : Int) = true then [(↑(segs (0 : Nat)) : Int), (↑(segs (1 : Nat)) :
    Int), (↑(segs (2 : Nat)) : Int), (↑(segs (3 : Nat)) : Int), (↑(segs (4 : Nat)) : Int), (↑(segs (5 : Nat)) : Int), (↑(segs (6 : Nat)) : Int), (↑(segs (7 : Nat)) : Int)].getD (↑g :
    Int).toNat (0 : Int) else (0 : Int)) (if inC (↑g : Int) (↑node : Int) = true then (5 : Int) * (↑((2 : Nat) ^ (↑g : Int).toNat) : Int) + (↑node : Int) else (0 : Int))) : Int)
    Bd.any)) ST.nil ST.nil))) (ST.node (SV.c (SC.ptr (0 : Nat) (0 : Nat))) (ST.node (SV.c (SC.ptr (0 : Nat) (0 : Nat))) (ST.node (SV.tup [(false, [SC.int false IntKind.i64 (if inL (↑g :
    Int) (↑node : Int) = true then (↑node : Int) - (1 : Int) else (0 : Int)) (Bd.w (0 : Int) (254 : Int) (slot_bd._proof_3 (↑(Col.mk (1 : Nat) g node segs (q :: l)).g : Int) (↑(Col.mk
    (1 : Nat) g node segs (q :: l)).node : Int)))]), (false, [SC.boo false (inL (↑(Col.mk (1 : Nat) g node segs (q :: l)).g : Int) (↑(Col.mk (1 : Nat) g node segs (q :: l)).node :
    Int))])]) (ST.node (SV.c (SC.ptr (0 : Nat) (0 : Nat))) ST.nil ST.nil) ST.nil) (ST.node (SV.tup []) ST.nil ST.nil)) (ST.node (SV.c (SC.ptr (0 : Nat) (0 : Nat))) (ST.node (SV.c
    (SC.int false IntKind.i64 (↑node : Int) Bd.any)) (ST.node (SV.c (SC.int false IntKind.i64 (if inL (↑g : Int) (↑node : Int) = true then (↑node : Int) - (1 : Int) else (0 : Int))
    (Bd.w (0 : Int) (254 : Int) (slot_bd._proof_3 (↑(Col.mk (1 : Nat) g node segs (q :: l)).g : Int) (↑(Col.mk (1 : Nat) g node segs (q :: l)).node : Int))))) ST.nil ST.nil) ST.nil)
    (ST.node (SV.c (SC.boo true true)) ST.nil ST.nil)))))) []) (Mem.mk [((0 : Nat), SO.cells [SC.fn (Fn.func (OfNat.ofNat (164 : Nat))) [SC.ptr (0 : Nat) (0 : Nat)] [], SC.ptr (1 : Nat)
    (0 : Nat), SC.int false IntKind.i64 (↑g : Int) Bd.any, SC.int false IntKind.i64 (↑node : Int) Bd.any, SC.int false IntKind.u64 (↑(segs (0 : Nat)) : Int) Bd.any, SC.int false
    IntKind.u64 (↑(segs (1 : Nat)) : Int) Bd.any, SC.int false IntKind.u64 (↑(segs (2 : Nat)) : Int) Bd.any, SC.int false IntKind.u64 (↑(segs (3 : Nat)) : Int) Bd.any, SC.int false
    IntKind.u64 (↑(segs (4 : Nat)) : Int) Bd.any, SC.int false IntKind.u64 (↑(segs (5 : Nat)) : Int) Bd.any, SC.int false IntKind.u64 (↑(segs (6 : Nat)) : Int) Bd.any, SC.int false
    IntKind.u64 (↑(segs (7 : Nat)) : Int) Bd.any, SC.sli (187 : Nat) (2 : Nat) true (0 : Nat) false ((q :: l).length + (1 : Nat)) cap_1] (OfNat.ofNat (168 : Nat))), ((1 : Nat), SO.ext
    (XO.ar A.read)), ((137 : Nat), SO.cells [SC.int false IntKind.u64 (if inC (↑g : Int) (↑node : Int) = true then [(↑(segs (0 : Nat)) : Int), (↑(segs (1 : Nat)) : Int), (↑(segs (2 :
    Nat)) : Int), (↑(segs (3 : Nat)) : Int), (↑(segs (4 : Nat)) : Int), (↑(segs (5 : Nat)) : Int), (↑(segs (6 : Nat)) : Int), (↑(segs (7 : Nat)) : Int)].getD (↑g : Int).toNat (0 : Int)
    else (0 : Int)) Bd.any, SC.int false IntKind.i64 (if inC (↑g : Int) (↑node : Int) = true then (5 : Int) * (↑((2 : Nat) ^ (↑g : Int).toNat) : Int) + (↑node : Int) else (0 : Int))
    (Bd.w (0 : Int) (895 : Int) (counter_bd._proof_4 (↑(Col.mk (1 : Nat) g node segs (q :: l)).g : Int) (↑(Col.mk (1 : Nat) g node segs (q :: l)).node : Int)))] (96 : Nat)), ((186 :
    Nat), SO.cells [SC.int false IntKind.u64 ([(↑(segs (0 : Nat)) : Int), (↑(segs (1 : Nat)) : Int), (↑(segs (2 : Nat)) : Int), (↑(segs (3 : Nat)) : Int), (↑(segs (4 : Nat)) : Int),
    (↑(segs (5 : Nat)) : Int), (↑(segs (6 : Nat)) : Int), (↑(segs (7 : Nat)) : Int)].getD (↑g : Int).toNat (0 : Int)) Bd.any, SC.int false IntKind.i64 (if inL (↑g : Int) (↑node : Int) =
    true then (↑node : Int) - (1 : Int) else (0 : Int)) (Bd.w (0 : Int) (254 : Int) (slot_bd._proof_3 (↑(Col.mk (1 : Nat) g node segs (q :: l)).g : Int) (↑(Col.mk (1 : Nat) g node segs
    (q :: l)).node : Int)))] (44 : Nat)), ((187 : Nat), SO.vals (44 : Nat) (2 : Nat) ((q :: l).length + (1 : Nat)) cap_1 fun (i : Nat) => if i < (q :: l).length then plF (q :: l) i else
    [Value.int IntKind.u64 ([(↑((Col.mk (1 : Nat) g node segs (q :: l)).segs (0 : Nat)) : Int), (↑((Col.mk (1 : Nat) g node segs (q :: l)).segs (1 : Nat)) : Int), (↑((Col.mk (1 : Nat) g
    node segs (q :: l)).segs (2 : Nat)) : Int), (↑((Col.mk (1 : Nat) g node segs (q :: l)).segs (3 : Nat)) : Int), (↑((Col.mk (1 : Nat) g node segs (q :: l)).segs (4 : Nat)) : Int),
    (↑((Col.mk (1 : Nat) g node segs (q :: l)).segs (5 : Nat)) : Int), (↑((Col.mk (1 : Nat) g node segs (q :: l)).segs (6 : Nat)) : Int), (↑((Col.mk (1 : Nat) g node segs (q :: l)).segs
    (7 : Nat)) : Int)].getD (↑(Col.mk (1 : Nat) g node segs (q :: l)).g : Int).toNat (0 : Int)), Value.int IntKind.i64 (if inL (↑(Col.mk (1 : Nat) g node segs (q :: l)).g : Int)
    (↑(Col.mk (1 : Nat) g node segs (q :: l)).node : Int) = true then (↑(Col.mk (1 : Nat) g node segs (q :: l)).node : Int) - (1 : Int) else (0 : Int))])] (170 : Nat)) (onScr g segs (q
    :: l2) node))) ∧ True) ∧ (inL (↑g : Int) (↑node : Int) = false → ((-9223372036854775808 : Int) ≤ (↑node : Int) * (2 : Int) ∧ (↑node : Int) * (2 : Int) ≤ (9223372036854775807 : Int))
    ∧ ∃ (g_1 : Nat), ∃ (node_1 : Nat), ∃ (segs_1 : Nat → Nat), ∃ (q_1 : Nat × Nat), ∃ (l_1 : List (Nat × Nat)), ∃ (z : Nat), Is (Col.mk (1 : Nat) g_1 node_1 segs_1 (q_1 :: l_1)) (colCnt
    (Col.mk (1 : Nat) g node segs (q :: l)) A) ∧ ((((0 : Nat) = (0 : Nat) ∧ True) ∧ True) ∧ (0 : Nat) = (0 : Nat) ∧ (↑g_1 : Int) = (↑g : Int) ∧ (↑node_1 : Int) = (↑node : Int) * (2 :
    Int) ∧ (↑(segs_1 (0 : Nat)) : Int) = (↑(segs (0 : Nat)) : Int) ∧ (↑(segs_1 (1 : Nat)) : Int) = (↑(segs (1 : Nat)) : Int) ∧ (↑(segs_1 (2 : Nat)) : Int) = (↑(segs (2 : Nat)) : Int) ∧
    (↑(segs_1 (3 : Nat)) : Int) = (↑(segs (3 : Nat)) : Int) ∧ (↑(segs_1 (4 : Nat)) : Int) = (↑(segs (4 : Nat)) : Int) ∧ (↑(segs_1 (5 : Nat)) : Int) = (↑(segs (5 : Nat)) : Int) ∧
    (↑(segs_1 (6 : Nat)) : Int) = (↑(segs (6 : Nat)) : Int) ∧ (↑(segs_1 (7 : Nat)) : Int) = (↑(segs (7 : Nat)) : Int) ∧ ((0 : Nat) = (0 : Nat) ∧ (q_1 :: l_1).length = (q :: l).length ∧
    z = cap) ∧ True) ∧ ((q_1 :: l_1).length = (q :: l).length ∧ z = cap ∧ ∀ (i : Nat), i < (q_1 :: l_1).length → [Value.int IntKind.u64 (↑((q_1 :: l_1).getD i ((0 : Nat), (0 :
    Nat))).fst : Int), Value.int IntKind.i64 (↑((q_1 :: l_1).getD i ((0 : Nat), (0 : Nat))).snd : Int)] = [Value.int IntKind.u64 (↑((q :: l).getD i ((0 : Nat), (0 : Nat))).fst : Int),
    Value.int IntKind.i64 (↑((q :: l).getD i ((0 : Nat), (0 : Nat))).snd : Int)]) ∧ A.read = A.read ∧ True))) ∧ True) ∧ True) ∧ True) ∧ True) ∧ (∀ (K : KO XE), (fun X0 : Prop => (0 :
    Int) ≤ [(↑(segs (0 : Nat)) : Int), (↑(segs (1 : Nat)) : Int), (↑(segs (2 : Nat)) : Int), (↑(segs (3 : Nat)) : Int), (↑(segs (4 : Nat)) : Int), (↑(segs (5 : Nat)) : Int), (↑(segs (6
    : Nat)) : Int), (↑(segs (7 : Nat)) : Int)].getD (↑g : Int).toNat (0 : Int) ∧ (X0 ∧ True) ∧ True → (↑g : Int) = (↑g : Int) ∧ (↑node : Int) = (↑node : Int) ∧ (↑(segs (0 : Nat)) : Int)
    = (↑(segs (0 : Nat)) : Int) ∧ (↑(segs (1 : Nat)) : Int) = (↑(segs (1 : Nat)) : Int) ∧ (↑(segs (2 : Nat)) : Int) = (↑(segs (2 : Nat)) : Int) ∧ (↑(segs (3 : Nat)) : Int) = (↑(segs (3
    : Nat)) : Int) ∧ (↑(segs (4 : Nat)) : Int) = (↑(segs (4 : Nat)) : Int) ∧ (↑(segs (5 : Nat)) : Int) = (↑(segs (5 : Nat)) : Int) ∧ (↑(segs (6 : Nat)) : Int) = (↑(segs (6 : Nat)) :
    Int) ∧ (↑(segs (7 : Nat)) : Int) = (↑(segs (7 : Nat)) : Int) ∧ (0 : Nat) = (0 : Nat) ∧ (q :: l).length = (q :: l).length ∧ cap = cap ∧ (q :: l).length = (q :: l).length ∧ cap = cap
    ∧ plF (q :: l) = plF (q :: l) ∧ ((0 : Int) ≤ [(↑(segs (0 : Nat)) : Int), (↑(segs (1 : Nat)) : Int), (↑(segs (2 : Nat)) : Int), (↑(segs (3 : Nat)) : Int), (↑(segs (4 : Nat)) : Int),
    (↑(segs (5 : Nat)) : Int), (↑(segs (6 : Nat)) : Int), (↑(segs (7 : Nat)) : Int)].getD (↑g : Int).toNat (0 : Int) ∧ X0 ∧ True) ∧ True) (K (SF.mk (86 : Nat) (ST.node (SV.c (SC.ptr (0
    : Nat) (0 : Nat))) (ST.node (SV.tup []) (ST.node (SV.c (SC.boo false (inC (↑(Col.mk (1 : Nat) g node segs (q :: l)).g : Int) (↑(Col.mk (1 : Nat) g node segs (q :: l)).node : Int))))
    (ST.node (SV.tup []) (ST.node (SV.c (SC.ptr (0 : Nat) (4 : Nat))) (ST.node (SV.tup []) (ST.node (SV.tup []) ST.nil ST.nil) ST.nil) (ST.node (SV.tup []) (ST.node (SV.tup []) ST.nil
    ST.nil) ST.nil)) (ST.node (SV.c (SC.ptr (0 : Nat) (0 : Nat))) (ST.node (SV.tup []) (ST.node (SV.tup []) ST.nil ST.nil) ST.nil) (ST.node (SV.tup []) ST.nil ST.nil))) (ST.node (SV.c
    (SC.ptr (0 : Nat) (0 : Nat))) (ST.node (SV.c (SC.ptr (0 : Nat) (0 : Nat))) (ST.node (SV.tup []) (ST.node (SV.tup []) ST.nil ST.nil) ST.nil) (ST.node (SV.tup []) (ST.node (SV.tup [])
    ST.nil ST.nil) ST.nil)) (ST.node (SV.agg [SC.int false IntKind.u64 (if inC (↑g : Int) (↑node : Int) = true then [(↑(segs (0 : Nat)) : Int), (↑(segs (1 : Nat)) : Int), (↑(segs (2 :
    Nat)) : Int), (↑(segs (3 : Nat)) : Int), (↑(segs (4 : Nat)) : Int), (↑(segs (5 : Nat)) : Int), (↑(segs (6 : Nat)) : Int), (↑(segs (7 : Nat)) : Int)].getD (↑g : Int).toNat (0 : Int)
    else (0 : Int)) Bd.any, SC.int false IntKind.i64 (if inC (↑g : Int) (↑node : Int) = true then (5 : Int) * (↑((2 : Nat) ^ (↑g : Int).toNat) : Int) + (↑node : Int) else (0 : Int))
    (Bd.w (0 : Int) (895 : Int) (counter_bd._proof_4 (↑(Col.mk (1 : Nat) g node segs (q :: l)).g : Int) (↑(Col.mk (1 : Nat) g node segs (q :: l)).node : Int)))]) (ST.node (SV.tup [])
    (ST.node (SV.tup []) ST.nil ST.nil) ST.nil) (ST.node (SV.tup []) ST.nil ST.nil)))) (ST.node (SV.tup []) (ST.node (SV.c (SC.ptr (0 : Nat) (0 : Nat))) (ST.node (SV.c (SC.int false
    IntKind.u64 ([(↑(segs (0 : Nat)) : Int), (↑(segs (1 : Nat)) : Int), (↑(segs (2 : Nat)) : Int), (↑(segs (3 : Nat)) : Int), (↑(segs (4 : Nat)) : Int), (↑(segs (5 : Nat)) : Int),
    (↑(segs (6 : Nat)) : Int), (↑(segs (7 : Nat)) : Int)].getD (↑g : Int).toNat (0 : Int)) Bd.any)) (ST.node (SV.tup []) (ST.node (SV.tup []) ST.nil ST.nil) ST.nil) (ST.node (SV.tup [])
    (ST.node (SV.tup []) ST.nil ST.nil) ST.nil)) (ST.node (SV.c (SC.int false IntKind.i64 (↑node : Int) Bd.any)) (ST.node (SV.tup []) (ST.node (SV.tup []) ST.nil ST.nil) ST.nil)
    (ST.node (SV.tup []) ST.nil ST.nil))) (ST.node (SV.c (SC.int false IntKind.i64 (↑g : Int) Bd.any)) (ST.node (SV.c (SC.int false IntKind.i64 (↑g : Int) Bd.any)) (ST.node (SV.tup [])
    (ST.node (SV.tup []) ST.nil ST.nil) ST.nil) (ST.node (SV.tup []) (ST.node (SV.tup []) ST.nil ST.nil) ST.nil)) (ST.node (SV.tup []) (ST.node (SV.tup []) (ST.node (SV.tup []) ST.nil
    ST.nil) ST.nil) (ST.node (SV.tup []) ST.nil ST.nil))))) (ST.node (SV.c (SC.ptr (137 : Nat) (0 : Nat))) (ST.node (SV.tup []) (ST.node (SV.tup [(true, [SC.int false IntKind.u64 (if
    inC (↑g : Int) (↑node : Int) = true then [(↑(segs (0 : Nat)) : Int), (↑(segs (1 : Nat)) : Int), (↑(segs (2 : Nat)) : Int), (↑(segs (3 : Nat)) : Int), (↑(segs (4 : Nat)) : Int),
    (↑(segs (5 : Nat)) : Int), (↑(segs (6 : Nat)) : Int), (↑(segs (7 : Nat)) : Int)].getD (↑g : Int).toNat (0 : Int) else (0 : Int)) Bd.any, SC.int false IntKind.i64 (if inC (↑g : Int)
    (↑node : Int) = true then (5 : Int) * (↑((2 : Nat) ^ (↑g : Int).toNat) : Int) + (↑node : Int) else (0 : Int)) (Bd.w (0 : Int) (895 : Int) (counter_bd._proof_4 (↑(Col.mk (1 : Nat) g
    node segs (q :: l)).g : Int) (↑(Col.mk (1 : Nat) g node segs (q :: l)).node : Int)))]), (false, [SC.boo false (inC (↑(Col.mk (1 : Nat) g node segs (q :: l)).g : Int) (↑(Col.mk (1 :
    Nat) g node segs (q :: l)).node : Int))])]) (ST.node (SV.c (SC.elp (0 : Nat) (↑g : Int).toNat (1 : Nat) (4 : Nat))) (ST.node (SV.tup []) (ST.node (SV.tup []) ST.nil ST.nil) ST.nil)
    (ST.node (SV.tup []) (ST.node (SV.tup []) ST.nil ST.nil) ST.nil)) (ST.node (SV.c (SC.ptr (0 : Nat) (3 : Nat))) (ST.node (SV.tup []) (ST.node (SV.tup []) ST.nil ST.nil) ST.nil)
    (ST.node (SV.tup []) ST.nil ST.nil))) (ST.node (SV.c (SC.ptr (0 : Nat) (2 : Nat))) (ST.node (SV.c (SC.ptr (0 : Nat) (2 : Nat))) (ST.node (SV.tup []) (ST.node (SV.tup []) ST.nil
    ST.nil) ST.nil) (ST.node (SV.tup []) (ST.node (SV.tup []) ST.nil ST.nil) ST.nil)) (ST.node (SV.c (SC.boo false (inC (↑(Col.mk (1 : Nat) g node segs (q :: l)).g : Int) (↑(Col.mk (1 :
    Nat) g node segs (q :: l)).node : Int)))) (ST.node (SV.tup []) (ST.node (SV.tup []) ST.nil ST.nil) ST.nil) (ST.node (SV.tup []) ST.nil ST.nil)))) (ST.node (SV.tup []) (ST.node (SV.c
    (SC.ptr (0 : Nat) (0 : Nat))) (ST.node (SV.c (SC.ptr (0 : Nat) (0 : Nat))) (ST.node (SV.tup []) (ST.node (SV.tup []) ST.nil ST.nil) ST.nil) (ST.node (SV.tup []) (ST.node (SV.tup [])
    ST.nil ST.nil) ST.nil)) (ST.node (SV.tup [(true, [SC.int false IntKind.u64 (if inC (↑g : Int) (↑node : Int) = true then [(↑(segs (0 : Nat)) : Int), (↑(segs (1 : Nat)) : Int),
    (↑(segs (2 : Nat)) : Int), (↑(segs (3 : Nat)) : Int), (↑(segs (4 : Nat)) : Int), (↑(segs (5 : Nat)) : Int), (↑(segs (6 : Nat)) : Int), (↑(segs (7 : Nat)) : Int)].getD (↑g :
    Int).toNat (0 : Int) else (0 : Int)) Bd.any, SC.int false IntKind.i64 (if inC (↑g : Int) (↑node : Int) = true then (5 : Int) * (↑((2 : Nat) ^ (↑g : Int).toNat) : Int) + (↑node :
    Int) else (0 : Int)) (Bd.w (0 : Int) (895 : Int) (counter_bd._proof_4 (↑(Col.mk (1 : Nat) g node segs (q :: l)).g : Int) (↑(Col.mk (1 : Nat) g node segs (q :: l)).node : Int)))]),
    (false, [SC.boo false (inC (↑(Col.mk (1 : Nat) g node segs (q :: l)).g : Int) (↑(Col.mk (1 : Nat) g node segs (q :: l)).node : Int))])]) (ST.node (SV.tup []) (ST.node (SV.tup [])
    ST.nil ST.nil) ST.nil) (ST.node (SV.tup []) ST.nil ST.nil))) (ST.node (SV.c (SC.ptr (0 : Nat) (0 : Nat))) (ST.node (SV.c (SC.ptr (0 : Nat) (0 : Nat))) (ST.node (SV.tup []) (ST.node
    (SV.tup []) ST.nil ST.nil) ST.nil) (ST.node (SV.tup []) ST.nil ST.nil)) (ST.node (SV.tup []) (ST.node (SV.tup []) (ST.node (SV.tup []) ST.nil ST.nil) ST.nil) (ST.node (SV.tup [])
    ST.nil ST.nil)))))) []) (Mem.mk [((0 : Nat), SO.cells [SC.fn (Fn.func (OfNat.ofNat (164 : Nat))) [SC.ptr (0 : Nat) (0 : Nat)] [], SC.ptr (1 : Nat) (0 : Nat), SC.int false
    IntKind.i64 (↑g : Int) Bd.any, SC.int false IntKind.i64 (↑node : Int) Bd.any, SC.int false IntKind.u64 (↑(segs (0 : Nat)) : Int) Bd.any, SC.int false IntKind.u64 (↑(segs (1 : Nat))
    : Int) Bd.any, SC.int false IntKind.u64 (↑(segs (2 : Nat)) : Int) Bd.any, SC.int false IntKind.u64 (↑(segs (3 : Nat)) : Int) Bd.any, SC.int false IntKind.u64 (↑(segs (4 : Nat)) :
    Int) Bd.any, SC.int false IntKind.u64 (↑(segs (5 : Nat)) : Int) Bd.any, SC.int false IntKind.u64 (↑(segs (6 : Nat)) : Int) Bd.any, SC.int false IntKind.u64 (↑(segs (7 : Nat)) : Int)
    Bd.any, SC.sli (10 : Nat) (2 : Nat) true (0 : Nat) false (q :: l).length cap] (OfNat.ofNat (168 : Nat))), ((10 : Nat), SO.vals (OfNat.ofNat (44 : Nat)) (2 : Nat) (q :: l).length cap
    (plF (q :: l))), ((1 : Nat), SO.ext (XO.ar A)), ((137 : Nat), SO.cells [SC.int false IntKind.u64 (if inC (↑g : Int) (↑node : Int) = true then [(↑(segs (0 : Nat)) : Int), (↑(segs (1
    : Nat)) : Int), (↑(segs (2 : Nat)) : Int), (↑(segs (3 : Nat)) : Int), (↑(segs (4 : Nat)) : Int), (↑(segs (5 : Nat)) : Int), (↑(segs (6 : Nat)) : Int), (↑(segs (7 : Nat)) :
    Int)].getD (↑g : Int).toNat (0 : Int) else (0 : Int)) Bd.any, SC.int false IntKind.i64 (if inC (↑g : Int) (↑node : Int) = true then (5 : Int) * (↑((2 : Nat) ^ (↑g : Int).toNat) :
    Int) + (↑node : Int) else (0 : Int)) (Bd.w (0 : Int) (895 : Int) (counter_bd._proof_4 (↑(Col.mk (1 : Nat) g node segs (q :: l)).g : Int) (↑(Col.mk (1 : Nat) g node segs (q ::
    l)).node : Int)))] (96 : Nat))] (140 : Nat)) (scrC1b g node segs q l l2))) ∧ True) := by
  kernel_rfl
theorem colS1b (g node : Nat) (segs : Nat → Nat) (q : Nat × Nat) (l l2 : List (Nat × Nat)) (hl2 : l2 = l ++ [(segs g, node - 1)]) (A : Ar) (cap : Nat) (hlen : (q :: l).length < 1000000000) (hg : g < 8) (hn : 1 ≤ node ∧ node < 2 * 2 ^ g) (hA : A.Has (segs g : Int) (5 * 2 ^ g + node : Nat)) : Run (callN Try.prog tblC1b (fun _ _ => false) 100 20 19 [.c (.ptr 0 0)] ⟨colH.heap ⟨1, g, node, segs, q :: l⟩ cap ++ [(1, arO A)], 100⟩ (scrC1b g node segs q l l2) (fun v m _ => colPost (colCnt ⟨1, g, node, segs, q :: l⟩ A) A.read v m)) := by
  constructor
  rw [colS1b_vc]
  subst hl2
  have hsg := segs_getD segs hg
  have hgt : ((g : Int)).toNat = g := Int.toNat_natCast g
  have hC : inC (g : Int) (node : Int) = true := inC_nat hg hn.1 hn.2
  have hb := node_bd hg hn.2
  have hA' : A.Has (segs g : Int) (5 * ((2 ^ g : Nat) : Int) + (node : Int)) := hA
  have hyb : ∀ y : OnY node, y.1.1 ≤ 255 := fun y => Nat.le_trans y.2.2 hb
  repeat' first
    | with_reducible apply And.intro
    | with_reducible exact trivial
    | with_reducible exact fun _ h => h
    | (refine fun (K : KO XE) => ?_; simp only [eq_self, true_and, and_true, imp_self, implies_true]; done)
    | (refine fun (K : KO XE) => ?_; simp only [eq_self, true_and, and_true, imp_self, implies_true]; exact id)
    | (refine fun (K : KO XE) => ?_; simp only [eq_self, true_and, and_true, and_imp, imp_self, implies_true]; intros; simp_all only [and_self, imp_self, implies_true]; done)
    | (intro (K : KO XE); simp only [and_imp]; intros; repeat' first | with_reducible apply And.intro | with_reducible exact trivial | with_reducible exact Eq.refl _ | with_reducible assumption)
    | intro _
    | with_reducible exact Eq.refl _
  all_goals try simp only [hgt, hsg, hC, if_true] at *
  repeat' first
    | with_reducible apply And.intro
    | with_reducible exact trivial
    | with_reducible exact fun _ h => h
    | with_reducible exact hA'
    | intro _
    | with_reducible exact Eq.refl _
    | omega
    | (have := hyb ‹OnY node›; omega)
    | exact absurd (‹decide ((‹OnY node›.1.1 : Int) > 1) = true›.symm.trans ‹decide ((‹OnY node›.1.1 : Int) > 1) = false›) (by decide)
    | (refine Exists.intro g (Exists.intro (‹OnY node›.1.1 + 1) (Exists.intro segs (Exists.intro q (Exists.intro l (Exists.intro ‹OnY node›.1.2 (And.intro (is_trans (cnt_up (x := Col.mk 1 g node segs (q :: l)) (A := A) ‹_›) (on_stay (z := Col.mk 1 g node segs (q :: l)) ‹OnY node›.2.1 ‹_› ‹_›)) ?_)))))))
    | (refine Exists.intro (g + 1) (Exists.intro ‹OnY node›.1.1 (Exists.intro segs (Exists.intro q (Exists.intro l (Exists.intro ‹OnY node›.1.2 (And.intro (is_trans (cnt_up (x := Col.mk 1 g node segs (q :: l)) (A := A) ‹_›) (on_end (z := Col.mk 1 g node segs (q :: l)) ‹OnY node›.2.1 ‹_› ‹_›)) ?_)))))))
    | (refine Exists.intro (g + 1) (Exists.intro ‹OnY node›.1.1 (Exists.intro segs (Exists.intro q (Exists.intro l (Exists.intro ‹OnY node›.1.2 (And.intro (is_trans (cnt_up (x := Col.mk 1 g node segs (q :: l)) (A := A) ‹_›) (on_next (z := Col.mk 1 g node segs (q :: l)) ‹OnY node›.2.1 ‹_› ‹_›)) ?_)))))))
    | (refine Exists.intro g (Exists.intro (‹OnY node›.1.1 + 1) (Exists.intro segs (Exists.intro q (Exists.intro (l ++ [(segs g, node - 1)]) (Exists.intro ‹OnY node›.1.2 (And.intro (is_trans (cnt_leaf (x := Col.mk 1 g node segs (q :: l)) (A := A) hg hn.2 ‹_› ‹_›) (on_stay (z := Col.mk 1 g node segs ((q :: l) ++ [(segs g, node - 1)])) ‹OnY node›.2.1 ‹_› ‹_›)) ?_)))))))
    | (refine Exists.intro (g + 1) (Exists.intro ‹OnY node›.1.1 (Exists.intro segs (Exists.intro q (Exists.intro (l ++ [(segs g, node - 1)]) (Exists.intro ‹OnY node›.1.2 (And.intro (is_trans (cnt_leaf (x := Col.mk 1 g node segs (q :: l)) (A := A) hg hn.2 ‹_› ‹_›) (on_end (z := Col.mk 1 g node segs ((q :: l) ++ [(segs g, node - 1)])) ‹OnY node›.2.1 ‹_› ‹_›)) ?_)))))))
    | (refine Exists.intro (g + 1) (Exists.intro ‹OnY node›.1.1 (Exists.intro segs (Exists.intro q (Exists.intro (l ++ [(segs g, node - 1)]) (Exists.intro ‹OnY node›.1.2 (And.intro (is_trans (cnt_leaf (x := Col.mk 1 g node segs (q :: l)) (A := A) hg hn.2 ‹_› ‹_›) (on_next (z := Col.mk 1 g node segs ((q :: l) ++ [(segs g, node - 1)])) ‹OnY node›.2.1 ‹_› ‹_›)) ?_)))))))
    | (refine Exists.intro g (Exists.intro (2 * node) (Exists.intro segs (Exists.intro q (Exists.intro l (Exists.intro cap (And.intro (cnt_down (x := Col.mk 1 g node segs (q :: l)) (A := A) hg hn.2 ‹_› ‹_›) ?_)))))))
    | (refine Exists.intro (⟨(‹OnY node›.1.1 / 2, ‹OnY node›.1.2), onY_half ‹OnY node› ‹_› ‹_›⟩ : OnY node) ?_)
    | (apply Exists.intro (⟨(node, _), rfl, Nat.le_refl _⟩ : OnY node))
    | with_reducible exact leaf_val hn.1 ‹_›
    | with_reducible exact len_snoc _ _ _
    | with_reducible exact plF_snoc ‹_› (leaf_val hn.1 ‹_›)
    | (have h1 := of_decide_eq_true ‹decide ((‹OnY node›.1.1 : Int) > 1) = true›; dsimp only; omega)
    | (dsimp only; omega)
    | with_reducible rfl
    | rfl
end Go.Proofs.Ytnfpkadepomjjaa

/- A step of a collect that is done, by the executor. -/
namespace Go.Proofs.Ytnfpkadepomjjaa
open Go
set_option maxRecDepth 1000000
set_option maxHeartbeats 0
def tblC2a : List (Smry Try.prog XE) := [readX, fixedS, counterS, slotS]
/-- What the executor leaves to be shown, written out. -/
theorem colS2a_vc (g node : Nat) (segs : Nat → Nat) (A : Ar) (cap : Nat) : (callN Try.prog tblC2a (fun _ _ => false) 100 20 19 [.c (.ptr 0 0)] ⟨colH.heap ⟨2, g, node, segs, []⟩ cap ++ [(1, arO A)], 100⟩ .nil (fun v m _ => colPost ⟨2, g, node, segs, []⟩ A v m)) = (
    ∃ (g_1 : Nat), ∃ (node_1 : Nat), ∃ (segs_1 : Nat → Nat), ∃ (z : Nat), Is (Col.mk (2 : Nat) g_1 node_1 segs_1 []) (Col.mk (2 : Nat) g node segs []) ∧ (Value.nilFunc = Value.nilFunc ∧
    (0 : Nat) = (0 : Nat) ∧ (↑g_1 : Int) = (↑g : Int) ∧ (↑node_1 : Int) = (↑node : Int) ∧ (↑(segs_1 (0 : Nat)) : Int) = (↑(segs (0 : Nat)) : Int) ∧ (↑(segs_1 (1 : Nat)) : Int) = (↑(segs
    (1 : Nat)) : Int) ∧ (↑(segs_1 (2 : Nat)) : Int) = (↑(segs (2 : Nat)) : Int) ∧ (↑(segs_1 (3 : Nat)) : Int) = (↑(segs (3 : Nat)) : Int) ∧ (↑(segs_1 (4 : Nat)) : Int) = (↑(segs (4 :
    Nat)) : Int) ∧ (↑(segs_1 (5 : Nat)) : Int) = (↑(segs (5 : Nat)) : Int) ∧ (↑(segs_1 (6 : Nat)) : Int) = (↑(segs (6 : Nat)) : Int) ∧ (↑(segs_1 (7 : Nat)) : Int) = (↑(segs (7 : Nat)) :
    Int) ∧ True ∧ True) ∧ A = A ∧ True) := by
  kernel_rfl
theorem colS2a (g node : Nat) (segs : Nat → Nat) (A : Ar) (cap : Nat) : Run (callN Try.prog tblC2a (fun _ _ => false) 100 20 19 [.c (.ptr 0 0)] ⟨colH.heap ⟨2, g, node, segs, []⟩ cap ++ [(1, arO A)], 100⟩ .nil (fun v m _ => colPost ⟨2, g, node, segs, []⟩ A v m)) := by
  constructor
  rw [colS2a_vc]
  repeat' first
    | with_reducible apply And.intro
    | with_reducible exact trivial
    | with_reducible exact fun _ h => h
    | (intro (K : KO XE); simp only [and_imp]; intros; repeat' first | with_reducible apply And.intro | with_reducible exact trivial | with_reducible exact Eq.refl _ | with_reducible assumption)
    | intro _
    | with_reducible exact Eq.refl _
    | (refine Exists.intro g (Exists.intro node (Exists.intro segs (Exists.intro cap (And.intro rfl ?_)))))
    | exact (Eq.refl _ : _ = _)
end Go.Proofs.Ytnfpkadepomjjaa

/- A step of a collect that is done, by the executor. -/
namespace Go.Proofs.Ytnfpkadepomjjaa
open Go
set_option maxRecDepth 1000000
set_option maxHeartbeats 0
def tblC2b : List (Smry Try.prog XE) := [readX, fixedS, counterS, slotS]
/-- What the executor leaves to be shown, written out. -/
theorem colS2b_vc (g node : Nat) (segs : Nat → Nat) (q : Nat × Nat) (l : List (Nat × Nat)) (A : Ar) (cap : Nat) : (callN Try.prog tblC2b (fun _ _ => false) 100 20 19 [.c (.ptr 0 0)] ⟨colH.heap ⟨2, g, node, segs, q :: l⟩ cap ++ [(1, arO A)], 100⟩ .nil (fun v m _ => colPost ⟨2, g, node, segs, q :: l⟩ A v m)) = (
    ∃ (g_1 : Nat), ∃ (node_1 : Nat), ∃ (segs_1 : Nat → Nat), ∃ (q_1 : Nat × Nat), ∃ (l_1 : List (Nat × Nat)), ∃ (z : Nat), Is (Col.mk (2 : Nat) g_1 node_1 segs_1 (q_1 :: l_1)) (Col.mk
    (2 : Nat) g node segs (q :: l)) ∧ (Value.nilFunc = Value.nilFunc ∧ (0 : Nat) = (0 : Nat) ∧ (↑g_1 : Int) = (↑g : Int) ∧ (↑node_1 : Int) = (↑node : Int) ∧ (↑(segs_1 (0 : Nat)) : Int)
    = (↑(segs (0 : Nat)) : Int) ∧ (↑(segs_1 (1 : Nat)) : Int) = (↑(segs (1 : Nat)) : Int) ∧ (↑(segs_1 (2 : Nat)) : Int) = (↑(segs (2 : Nat)) : Int) ∧ (↑(segs_1 (3 : Nat)) : Int) =
    (↑(segs (3 : Nat)) : Int) ∧ (↑(segs_1 (4 : Nat)) : Int) = (↑(segs (4 : Nat)) : Int) ∧ (↑(segs_1 (5 : Nat)) : Int) = (↑(segs (5 : Nat)) : Int) ∧ (↑(segs_1 (6 : Nat)) : Int) = (↑(segs
    (6 : Nat)) : Int) ∧ (↑(segs_1 (7 : Nat)) : Int) = (↑(segs (7 : Nat)) : Int) ∧ ((0 : Nat) = (0 : Nat) ∧ (q_1 :: l_1).length = (q :: l).length ∧ z = cap) ∧ True) ∧ ((q_1 ::
    l_1).length = (q :: l).length ∧ z = cap ∧ ∀ (i : Nat), i < (q_1 :: l_1).length → [Value.int IntKind.u64 (↑((q_1 :: l_1).getD i ((0 : Nat), (0 : Nat))).fst : Int), Value.int
    IntKind.i64 (↑((q_1 :: l_1).getD i ((0 : Nat), (0 : Nat))).snd : Int)] = [Value.int IntKind.u64 (↑((q :: l).getD i ((0 : Nat), (0 : Nat))).fst : Int), Value.int IntKind.i64 (↑((q ::
    l).getD i ((0 : Nat), (0 : Nat))).snd : Int)]) ∧ A = A ∧ True) := by
  kernel_rfl
theorem colS2b (g node : Nat) (segs : Nat → Nat) (q : Nat × Nat) (l : List (Nat × Nat)) (A : Ar) (cap : Nat) : Run (callN Try.prog tblC2b (fun _ _ => false) 100 20 19 [.c (.ptr 0 0)] ⟨colH.heap ⟨2, g, node, segs, q :: l⟩ cap ++ [(1, arO A)], 100⟩ .nil (fun v m _ => colPost ⟨2, g, node, segs, q :: l⟩ A v m)) := by
  constructor
  rw [colS2b_vc]
  repeat' first
    | with_reducible apply And.intro
    | with_reducible exact trivial
    | with_reducible exact fun _ h => h
    | (intro (K : KO XE); simp only [and_imp]; intros; repeat' first | with_reducible apply And.intro | with_reducible exact trivial | with_reducible exact Eq.refl _ | with_reducible assumption)
    | intro _
    | with_reducible exact Eq.refl _
    | (refine Exists.intro g (Exists.intro node (Exists.intro segs (Exists.intro q (Exists.intro l (Exists.intro cap (And.intro rfl ?_)))))))
    | exact (Eq.refl _ : _ = _)
end Go.Proofs.Ytnfpkadepomjjaa

/- Done, of a collect, by the executor. -/
namespace Go.Proofs.Ytnfpkadepomjjaa
open Go
set_option maxRecDepth 1000000
set_option maxHeartbeats 0
def tblCD0a : List (Smry Try.prog XE) := [readX, fixedS, counterS, slotS]
/-- What the executor leaves to be shown, written out. -/
theorem colT0a_vc (g node : Nat) (segs : Nat → Nat)  (A : Ar) (cap : Nat) : (callN Try.prog tblCD0a (fun _ _ => false) 100 20 16 [.c (.ptr 0 0)] ⟨colH.heap ⟨0, g, node, segs, []⟩ cap ++ [(1, arO A)], 100⟩ .nil (fun v m _ => colPostR (.c (.boo true false)) ⟨0, g, node, segs, []⟩ A v m)) = (
    ∃ (g_1 : Nat), ∃ (node_1 : Nat), ∃ (segs_1 : Nat → Nat), ∃ (z : Nat), Is (Col.mk (0 : Nat) g_1 node_1 segs_1 []) (Col.mk (0 : Nat) g node segs []) ∧ ((((0 : Nat) = (0 : Nat) ∧ True)
    ∧ True) ∧ (0 : Nat) = (0 : Nat) ∧ (↑g_1 : Int) = (↑g : Int) ∧ (↑node_1 : Int) = (↑node : Int) ∧ (↑(segs_1 (0 : Nat)) : Int) = (↑(segs (0 : Nat)) : Int) ∧ (↑(segs_1 (1 : Nat)) : Int)
    = (↑(segs (1 : Nat)) : Int) ∧ (↑(segs_1 (2 : Nat)) : Int) = (↑(segs (2 : Nat)) : Int) ∧ (↑(segs_1 (3 : Nat)) : Int) = (↑(segs (3 : Nat)) : Int) ∧ (↑(segs_1 (4 : Nat)) : Int) =
    (↑(segs (4 : Nat)) : Int) ∧ (↑(segs_1 (5 : Nat)) : Int) = (↑(segs (5 : Nat)) : Int) ∧ (↑(segs_1 (6 : Nat)) : Int) = (↑(segs (6 : Nat)) : Int) ∧ (↑(segs_1 (7 : Nat)) : Int) = (↑(segs
    (7 : Nat)) : Int) ∧ True ∧ True) ∧ A = A ∧ True) := by
  kernel_rfl
theorem colT0a (g node : Nat) (segs : Nat → Nat)  (A : Ar) (cap : Nat) : Run (callN Try.prog tblCD0a (fun _ _ => false) 100 20 16 [.c (.ptr 0 0)] ⟨colH.heap ⟨0, g, node, segs, []⟩ cap ++ [(1, arO A)], 100⟩ .nil (fun v m _ => colPostR (.c (.boo true false)) ⟨0, g, node, segs, []⟩ A v m)) := by
  constructor
  rw [colT0a_vc]
  repeat' first
    | with_reducible apply And.intro
    | with_reducible exact trivial
    | with_reducible exact fun _ h => h
    | (intro (K : KO XE); simp only [and_imp]; intros; repeat' first | with_reducible apply And.intro | with_reducible exact trivial | with_reducible exact Eq.refl _ | with_reducible assumption)
    | intro _
    | with_reducible exact Eq.refl _
    | (refine Exists.intro g (Exists.intro node (Exists.intro segs (Exists.intro cap (And.intro rfl ?_)))))
    | exact (Eq.refl _ : _ = _)
end Go.Proofs.Ytnfpkadepomjjaa

/- Done, of a collect, by the executor. -/
namespace Go.Proofs.Ytnfpkadepomjjaa
open Go
set_option maxRecDepth 1000000
set_option maxHeartbeats 0
def tblCD0b : List (Smry Try.prog XE) := [readX, fixedS, counterS, slotS]
/-- What the executor leaves to be shown, written out. -/
theorem colT0b_vc (g node : Nat) (segs : Nat → Nat) (q : Nat × Nat) (l : List (Nat × Nat)) (A : Ar) (cap : Nat) : (callN Try.prog tblCD0b (fun _ _ => false) 100 20 16 [.c (.ptr 0 0)] ⟨colH.heap ⟨0, g, node, segs, q :: l⟩ cap ++ [(1, arO A)], 100⟩ .nil (fun v m _ => colPostR (.c (.boo true false)) ⟨0, g, node, segs, q :: l⟩ A v m)) = (
    ∃ (g_1 : Nat), ∃ (node_1 : Nat), ∃ (segs_1 : Nat → Nat), ∃ (q_1 : Nat × Nat), ∃ (l_1 : List (Nat × Nat)), ∃ (z : Nat), Is (Col.mk (0 : Nat) g_1 node_1 segs_1 (q_1 :: l_1)) (Col.mk
    (0 : Nat) g node segs (q :: l)) ∧ ((((0 : Nat) = (0 : Nat) ∧ True) ∧ True) ∧ (0 : Nat) = (0 : Nat) ∧ (↑g_1 : Int) = (↑g : Int) ∧ (↑node_1 : Int) = (↑node : Int) ∧ (↑(segs_1 (0 :
    Nat)) : Int) = (↑(segs (0 : Nat)) : Int) ∧ (↑(segs_1 (1 : Nat)) : Int) = (↑(segs (1 : Nat)) : Int) ∧ (↑(segs_1 (2 : Nat)) : Int) = (↑(segs (2 : Nat)) : Int) ∧ (↑(segs_1 (3 : Nat)) :
    Int) = (↑(segs (3 : Nat)) : Int) ∧ (↑(segs_1 (4 : Nat)) : Int) = (↑(segs (4 : Nat)) : Int) ∧ (↑(segs_1 (5 : Nat)) : Int) = (↑(segs (5 : Nat)) : Int) ∧ (↑(segs_1 (6 : Nat)) : Int) =
    (↑(segs (6 : Nat)) : Int) ∧ (↑(segs_1 (7 : Nat)) : Int) = (↑(segs (7 : Nat)) : Int) ∧ ((0 : Nat) = (0 : Nat) ∧ (q_1 :: l_1).length = (q :: l).length ∧ z = cap) ∧ True) ∧ ((q_1 ::
    l_1).length = (q :: l).length ∧ z = cap ∧ ∀ (i : Nat), i < (q_1 :: l_1).length → [Value.int IntKind.u64 (↑((q_1 :: l_1).getD i ((0 : Nat), (0 : Nat))).fst : Int), Value.int
    IntKind.i64 (↑((q_1 :: l_1).getD i ((0 : Nat), (0 : Nat))).snd : Int)] = [Value.int IntKind.u64 (↑((q :: l).getD i ((0 : Nat), (0 : Nat))).fst : Int), Value.int IntKind.i64 (↑((q ::
    l).getD i ((0 : Nat), (0 : Nat))).snd : Int)]) ∧ A = A ∧ True) := by
  kernel_rfl
theorem colT0b (g node : Nat) (segs : Nat → Nat) (q : Nat × Nat) (l : List (Nat × Nat)) (A : Ar) (cap : Nat) : Run (callN Try.prog tblCD0b (fun _ _ => false) 100 20 16 [.c (.ptr 0 0)] ⟨colH.heap ⟨0, g, node, segs, q :: l⟩ cap ++ [(1, arO A)], 100⟩ .nil (fun v m _ => colPostR (.c (.boo true false)) ⟨0, g, node, segs, q :: l⟩ A v m)) := by
  constructor
  rw [colT0b_vc]
  repeat' first
    | with_reducible apply And.intro
    | with_reducible exact trivial
    | with_reducible exact fun _ h => h
    | (intro (K : KO XE); simp only [and_imp]; intros; repeat' first | with_reducible apply And.intro | with_reducible exact trivial | with_reducible exact Eq.refl _ | with_reducible assumption)
    | intro _
    | with_reducible exact Eq.refl _
    | (refine Exists.intro g (Exists.intro node (Exists.intro segs (Exists.intro q (Exists.intro l (Exists.intro cap (And.intro rfl ?_)))))))
    | exact (Eq.refl _ : _ = _)
end Go.Proofs.Ytnfpkadepomjjaa

/- Done, of a collect, by the executor. -/
namespace Go.Proofs.Ytnfpkadepomjjaa
open Go
set_option maxRecDepth 1000000
set_option maxHeartbeats 0
def tblCD1a : List (Smry Try.prog XE) := [readX, fixedS, counterS, slotS]
/-- What the executor leaves to be shown, written out. -/
theorem colT1a_vc (g node : Nat) (segs : Nat → Nat)  (A : Ar) (cap : Nat) : (callN Try.prog tblCD1a (fun _ _ => false) 100 20 16 [.c (.ptr 0 0)] ⟨colH.heap ⟨1, g, node, segs, []⟩ cap ++ [(1, arO A)], 100⟩ .nil (fun v m _ => colPostR (.c (.boo true false)) ⟨1, g, node, segs, []⟩ A v m)) = (
    ∃ (g_1 : Nat), ∃ (node_1 : Nat), ∃ (segs_1 : Nat → Nat), ∃ (z : Nat), Is (Col.mk (1 : Nat) g_1 node_1 segs_1 []) (Col.mk (1 : Nat) g node segs []) ∧ ((((0 : Nat) = (0 : Nat) ∧ True)
    ∧ True) ∧ (0 : Nat) = (0 : Nat) ∧ (↑g_1 : Int) = (↑g : Int) ∧ (↑node_1 : Int) = (↑node : Int) ∧ (↑(segs_1 (0 : Nat)) : Int) = (↑(segs (0 : Nat)) : Int) ∧ (↑(segs_1 (1 : Nat)) : Int)
    = (↑(segs (1 : Nat)) : Int) ∧ (↑(segs_1 (2 : Nat)) : Int) = (↑(segs (2 : Nat)) : Int) ∧ (↑(segs_1 (3 : Nat)) : Int) = (↑(segs (3 : Nat)) : Int) ∧ (↑(segs_1 (4 : Nat)) : Int) =
    (↑(segs (4 : Nat)) : Int) ∧ (↑(segs_1 (5 : Nat)) : Int) = (↑(segs (5 : Nat)) : Int) ∧ (↑(segs_1 (6 : Nat)) : Int) = (↑(segs (6 : Nat)) : Int) ∧ (↑(segs_1 (7 : Nat)) : Int) = (↑(segs
    (7 : Nat)) : Int) ∧ True ∧ True) ∧ A = A ∧ True) := by
  kernel_rfl
theorem colT1a (g node : Nat) (segs : Nat → Nat)  (A : Ar) (cap : Nat) : Run (callN Try.prog tblCD1a (fun _ _ => false) 100 20 16 [.c (.ptr 0 0)] ⟨colH.heap ⟨1, g, node, segs, []⟩ cap ++ [(1, arO A)], 100⟩ .nil (fun v m _ => colPostR (.c (.boo true false)) ⟨1, g, node, segs, []⟩ A v m)) := by
  constructor
  rw [colT1a_vc]
  repeat' first
    | with_reducible apply And.intro
    | with_reducible exact trivial
    | with_reducible exact fun _ h => h
    | (intro (K : KO XE); simp only [and_imp]; intros; repeat' first | with_reducible apply And.intro | with_reducible exact trivial | with_reducible exact Eq.refl _ | with_reducible assumption)
    | intro _
    | with_reducible exact Eq.refl _
    | (refine Exists.intro g (Exists.intro node (Exists.intro segs (Exists.intro cap (And.intro rfl ?_)))))
    | exact (Eq.refl _ : _ = _)
end Go.Proofs.Ytnfpkadepomjjaa

/- Done, of a collect, by the executor. -/
namespace Go.Proofs.Ytnfpkadepomjjaa
open Go
set_option maxRecDepth 1000000
set_option maxHeartbeats 0
def tblCD1b : List (Smry Try.prog XE) := [readX, fixedS, counterS, slotS]
/-- What the executor leaves to be shown, written out. -/
theorem colT1b_vc (g node : Nat) (segs : Nat → Nat) (q : Nat × Nat) (l : List (Nat × Nat)) (A : Ar) (cap : Nat) : (callN Try.prog tblCD1b (fun _ _ => false) 100 20 16 [.c (.ptr 0 0)] ⟨colH.heap ⟨1, g, node, segs, q :: l⟩ cap ++ [(1, arO A)], 100⟩ .nil (fun v m _ => colPostR (.c (.boo true false)) ⟨1, g, node, segs, q :: l⟩ A v m)) = (
    ∃ (g_1 : Nat), ∃ (node_1 : Nat), ∃ (segs_1 : Nat → Nat), ∃ (q_1 : Nat × Nat), ∃ (l_1 : List (Nat × Nat)), ∃ (z : Nat), Is (Col.mk (1 : Nat) g_1 node_1 segs_1 (q_1 :: l_1)) (Col.mk
    (1 : Nat) g node segs (q :: l)) ∧ ((((0 : Nat) = (0 : Nat) ∧ True) ∧ True) ∧ (0 : Nat) = (0 : Nat) ∧ (↑g_1 : Int) = (↑g : Int) ∧ (↑node_1 : Int) = (↑node : Int) ∧ (↑(segs_1 (0 :
    Nat)) : Int) = (↑(segs (0 : Nat)) : Int) ∧ (↑(segs_1 (1 : Nat)) : Int) = (↑(segs (1 : Nat)) : Int) ∧ (↑(segs_1 (2 : Nat)) : Int) = (↑(segs (2 : Nat)) : Int) ∧ (↑(segs_1 (3 : Nat)) :
    Int) = (↑(segs (3 : Nat)) : Int) ∧ (↑(segs_1 (4 : Nat)) : Int) = (↑(segs (4 : Nat)) : Int) ∧ (↑(segs_1 (5 : Nat)) : Int) = (↑(segs (5 : Nat)) : Int) ∧ (↑(segs_1 (6 : Nat)) : Int) =
    (↑(segs (6 : Nat)) : Int) ∧ (↑(segs_1 (7 : Nat)) : Int) = (↑(segs (7 : Nat)) : Int) ∧ ((0 : Nat) = (0 : Nat) ∧ (q_1 :: l_1).length = (q :: l).length ∧ z = cap) ∧ True) ∧ ((q_1 ::
    l_1).length = (q :: l).length ∧ z = cap ∧ ∀ (i : Nat), i < (q_1 :: l_1).length → [Value.int IntKind.u64 (↑((q_1 :: l_1).getD i ((0 : Nat), (0 : Nat))).fst : Int), Value.int
    IntKind.i64 (↑((q_1 :: l_1).getD i ((0 : Nat), (0 : Nat))).snd : Int)] = [Value.int IntKind.u64 (↑((q :: l).getD i ((0 : Nat), (0 : Nat))).fst : Int), Value.int IntKind.i64 (↑((q ::
    l).getD i ((0 : Nat), (0 : Nat))).snd : Int)]) ∧ A = A ∧ True) := by
  kernel_rfl
theorem colT1b (g node : Nat) (segs : Nat → Nat) (q : Nat × Nat) (l : List (Nat × Nat)) (A : Ar) (cap : Nat) : Run (callN Try.prog tblCD1b (fun _ _ => false) 100 20 16 [.c (.ptr 0 0)] ⟨colH.heap ⟨1, g, node, segs, q :: l⟩ cap ++ [(1, arO A)], 100⟩ .nil (fun v m _ => colPostR (.c (.boo true false)) ⟨1, g, node, segs, q :: l⟩ A v m)) := by
  constructor
  rw [colT1b_vc]
  repeat' first
    | with_reducible apply And.intro
    | with_reducible exact trivial
    | with_reducible exact fun _ h => h
    | (intro (K : KO XE); simp only [and_imp]; intros; repeat' first | with_reducible apply And.intro | with_reducible exact trivial | with_reducible exact Eq.refl _ | with_reducible assumption)
    | intro _
    | with_reducible exact Eq.refl _
    | (refine Exists.intro g (Exists.intro node (Exists.intro segs (Exists.intro q (Exists.intro l (Exists.intro cap (And.intro rfl ?_)))))))
    | exact (Eq.refl _ : _ = _)
end Go.Proofs.Ytnfpkadepomjjaa

/- Done, of a collect, by the executor. -/
namespace Go.Proofs.Ytnfpkadepomjjaa
open Go
set_option maxRecDepth 1000000
set_option maxHeartbeats 0
def tblCD2a : List (Smry Try.prog XE) := [readX, fixedS, counterS, slotS]
/-- What the executor leaves to be shown, written out. -/
theorem colT2a_vc (g node : Nat) (segs : Nat → Nat)  (A : Ar) (cap : Nat) : (callN Try.prog tblCD2a (fun _ _ => false) 100 20 16 [.c (.ptr 0 0)] ⟨colH.heap ⟨2, g, node, segs, []⟩ cap ++ [(1, arO A)], 100⟩ .nil (fun v m _ => colPostR (.c (.boo true true)) ⟨2, g, node, segs, []⟩ A v m)) = (
    ∃ (g_1 : Nat), ∃ (node_1 : Nat), ∃ (segs_1 : Nat → Nat), ∃ (z : Nat), Is (Col.mk (2 : Nat) g_1 node_1 segs_1 []) (Col.mk (2 : Nat) g node segs []) ∧ (Value.nilFunc = Value.nilFunc ∧
    (0 : Nat) = (0 : Nat) ∧ (↑g_1 : Int) = (↑g : Int) ∧ (↑node_1 : Int) = (↑node : Int) ∧ (↑(segs_1 (0 : Nat)) : Int) = (↑(segs (0 : Nat)) : Int) ∧ (↑(segs_1 (1 : Nat)) : Int) = (↑(segs
    (1 : Nat)) : Int) ∧ (↑(segs_1 (2 : Nat)) : Int) = (↑(segs (2 : Nat)) : Int) ∧ (↑(segs_1 (3 : Nat)) : Int) = (↑(segs (3 : Nat)) : Int) ∧ (↑(segs_1 (4 : Nat)) : Int) = (↑(segs (4 :
    Nat)) : Int) ∧ (↑(segs_1 (5 : Nat)) : Int) = (↑(segs (5 : Nat)) : Int) ∧ (↑(segs_1 (6 : Nat)) : Int) = (↑(segs (6 : Nat)) : Int) ∧ (↑(segs_1 (7 : Nat)) : Int) = (↑(segs (7 : Nat)) :
    Int) ∧ True ∧ True) ∧ A = A ∧ True) := by
  kernel_rfl
theorem colT2a (g node : Nat) (segs : Nat → Nat)  (A : Ar) (cap : Nat) : Run (callN Try.prog tblCD2a (fun _ _ => false) 100 20 16 [.c (.ptr 0 0)] ⟨colH.heap ⟨2, g, node, segs, []⟩ cap ++ [(1, arO A)], 100⟩ .nil (fun v m _ => colPostR (.c (.boo true true)) ⟨2, g, node, segs, []⟩ A v m)) := by
  constructor
  rw [colT2a_vc]
  repeat' first
    | with_reducible apply And.intro
    | with_reducible exact trivial
    | with_reducible exact fun _ h => h
    | (intro (K : KO XE); simp only [and_imp]; intros; repeat' first | with_reducible apply And.intro | with_reducible exact trivial | with_reducible exact Eq.refl _ | with_reducible assumption)
    | intro _
    | with_reducible exact Eq.refl _
    | (refine Exists.intro g (Exists.intro node (Exists.intro segs (Exists.intro cap (And.intro rfl ?_)))))
    | exact (Eq.refl _ : _ = _)
end Go.Proofs.Ytnfpkadepomjjaa

/- Done, of a collect, by the executor. -/
namespace Go.Proofs.Ytnfpkadepomjjaa
open Go
set_option maxRecDepth 1000000
set_option maxHeartbeats 0
def tblCD2b : List (Smry Try.prog XE) := [readX, fixedS, counterS, slotS]
/-- What the executor leaves to be shown, written out. -/
theorem colT2b_vc (g node : Nat) (segs : Nat → Nat) (q : Nat × Nat) (l : List (Nat × Nat)) (A : Ar) (cap : Nat) : (callN Try.prog tblCD2b (fun _ _ => false) 100 20 16 [.c (.ptr 0 0)] ⟨colH.heap ⟨2, g, node, segs, q :: l⟩ cap ++ [(1, arO A)], 100⟩ .nil (fun v m _ => colPostR (.c (.boo true true)) ⟨2, g, node, segs, q :: l⟩ A v m)) = (
    ∃ (g_1 : Nat), ∃ (node_1 : Nat), ∃ (segs_1 : Nat → Nat), ∃ (q_1 : Nat × Nat), ∃ (l_1 : List (Nat × Nat)), ∃ (z : Nat), Is (Col.mk (2 : Nat) g_1 node_1 segs_1 (q_1 :: l_1)) (Col.mk
    (2 : Nat) g node segs (q :: l)) ∧ (Value.nilFunc = Value.nilFunc ∧ (0 : Nat) = (0 : Nat) ∧ (↑g_1 : Int) = (↑g : Int) ∧ (↑node_1 : Int) = (↑node : Int) ∧ (↑(segs_1 (0 : Nat)) : Int)
    = (↑(segs (0 : Nat)) : Int) ∧ (↑(segs_1 (1 : Nat)) : Int) = (↑(segs (1 : Nat)) : Int) ∧ (↑(segs_1 (2 : Nat)) : Int) = (↑(segs (2 : Nat)) : Int) ∧ (↑(segs_1 (3 : Nat)) : Int) =
    (↑(segs (3 : Nat)) : Int) ∧ (↑(segs_1 (4 : Nat)) : Int) = (↑(segs (4 : Nat)) : Int) ∧ (↑(segs_1 (5 : Nat)) : Int) = (↑(segs (5 : Nat)) : Int) ∧ (↑(segs_1 (6 : Nat)) : Int) = (↑(segs
    (6 : Nat)) : Int) ∧ (↑(segs_1 (7 : Nat)) : Int) = (↑(segs (7 : Nat)) : Int) ∧ ((0 : Nat) = (0 : Nat) ∧ (q_1 :: l_1).length = (q :: l).length ∧ z = cap) ∧ True) ∧ ((q_1 ::
    l_1).length = (q :: l).length ∧ z = cap ∧ ∀ (i : Nat), i < (q_1 :: l_1).length → [Value.int IntKind.u64 (↑((q_1 :: l_1).getD i ((0 : Nat), (0 : Nat))).fst : Int), Value.int
    IntKind.i64 (↑((q_1 :: l_1).getD i ((0 : Nat), (0 : Nat))).snd : Int)] = [Value.int IntKind.u64 (↑((q :: l).getD i ((0 : Nat), (0 : Nat))).fst : Int), Value.int IntKind.i64 (↑((q ::
    l).getD i ((0 : Nat), (0 : Nat))).snd : Int)]) ∧ A = A ∧ True) := by
  kernel_rfl
theorem colT2b (g node : Nat) (segs : Nat → Nat) (q : Nat × Nat) (l : List (Nat × Nat)) (A : Ar) (cap : Nat) : Run (callN Try.prog tblCD2b (fun _ _ => false) 100 20 16 [.c (.ptr 0 0)] ⟨colH.heap ⟨2, g, node, segs, q :: l⟩ cap ++ [(1, arO A)], 100⟩ .nil (fun v m _ => colPostR (.c (.boo true true)) ⟨2, g, node, segs, q :: l⟩ A v m)) := by
  constructor
  rw [colT2b_vc]
  repeat' first
    | with_reducible apply And.intro
    | with_reducible exact trivial
    | with_reducible exact fun _ h => h
    | (intro (K : KO XE); simp only [and_imp]; intros; repeat' first | with_reducible apply And.intro | with_reducible exact trivial | with_reducible exact Eq.refl _ | with_reducible assumption)
    | intro _
    | with_reducible exact Eq.refl _
    | (refine Exists.intro g (Exists.intro node (Exists.intro segs (Exists.intro q (Exists.intro l (Exists.intro cap (And.intro rfl ?_)))))))
    | exact (Eq.refl _ : _ = _)
end Go.Proofs.Ytnfpkadepomjjaa

/- A new collect, by the executor. -/
namespace Go.Proofs.Ytnfpkadepomjjaa
open Go
set_option maxRecDepth 1000000
set_option maxHeartbeats 0
def tblCN : List (Smry Try.prog XE) := []
/-- What the executor leaves to be shown, written out. -/
theorem colN_vc (A : Ar) : (callN Try.prog tblCN (fun _ _ => false) 100 20 14 [.c (.ptr 1 0)] ⟨[(1, arO A)], 100⟩ .nil (fun v m _ => outM (.c (.ptr 10 0)) (renHeap (colHeap ⟨0, 0, 0, fun _ => 0, []⟩ 0) ++ [(1, arO A)]) v m)) = (
    ((((0 : Nat) = (0 : Nat) ∧ True) ∧ True) ∧ (0 : Nat) = (0 : Nat) ∧ (0 : Int) = (0 : Int) ∧ (0 : Int) = (0 : Int) ∧ (0 : Int) = (0 : Int) ∧ (0 : Int) = (0 : Int) ∧ (0 : Int) = (0 :
    Int) ∧ (0 : Int) = (0 : Int) ∧ (0 : Int) = (0 : Int) ∧ (0 : Int) = (0 : Int) ∧ (0 : Int) = (0 : Int) ∧ (0 : Int) = (0 : Int) ∧ True ∧ True) ∧ A = A ∧ True) := by
  kernel_rfl
theorem colN (A : Ar) : Run (callN Try.prog tblCN (fun _ _ => false) 100 20 14 [.c (.ptr 1 0)] ⟨[(1, arO A)], 100⟩ .nil (fun v m _ => outM (.c (.ptr 10 0)) (renHeap (colHeap ⟨0, 0, 0, fun _ => 0, []⟩ 0) ++ [(1, arO A)]) v m)) := by
  constructor
  rw [colN_vc]
  repeat' first
    | with_reducible apply And.intro
    | with_reducible exact trivial
    | with_reducible exact fun _ h => h
    | (intro (K : KO XE); simp only [and_imp]; intros; repeat' first | with_reducible apply And.intro | with_reducible exact trivial | with_reducible exact Eq.refl _ | with_reducible assumption)
    | intro _
    | with_reducible exact Eq.refl _
    | rfl
end Go.Proofs.Ytnfpkadepomjjaa

/- The places that a collect found, by the executor. -/
namespace Go.Proofs.Ytnfpkadepomjjaa
open Go
set_option maxRecDepth 1000000
set_option maxHeartbeats 0
def tblCP : List (Smry Try.prog XE) := []
/-- What the executor leaves to be shown, written out. -/
theorem colP_vc (g node : Nat) (segs : Nat → Nat) (q : Nat × Nat) (l : List (Nat × Nat)) (A : Ar) (cap : Nat) (hlen : (q :: l).length < 1000000000) : (callN Try.prog tblCP (fun _ _ => false) 100 20 93 [.c (.ptr 0 0)] ⟨colH.heap ⟨2, g, node, segs, q :: l⟩ cap ++ [(1, arO A)], 100⟩ (bothS 5) (fun v m _ => ∃ (z cap2 : Nat), (q :: l).length ≤ cap2 ∧ outM (.c (.sli 20 2 true 0 false (q :: l).length cap2)) (colHeap ⟨2, g, node, segs, q :: l⟩ z ++ [(1, arO A), (20, .vals 44 2 (q :: l).length cap2 (plF (q :: l)))]) v m)) = (
    True ∧ ((0 : Nat) + (q :: l).length ≤ (q :: l).length ∧ ∀ (i : Nat), i < (q :: l).length → ∀ (u : Value), List.Mem u [Value.int IntKind.u64 (↑((q :: l).getD (addO true (0 : Nat) i)
    ((0 : Nat), (0 : Nat))).fst : Int), Value.int IntKind.i64 (↑((q :: l).getD (addO true (0 : Nat) i) ((0 : Nat), (0 : Nat))).snd : Int)] → u.oneCell' = true) ∧ (0 : Nat) + (q ::
    l).length ≤ (1000000000 : Nat) ∧ ∀ (cap_1 : Nat), (0 : Nat) + (q :: l).length ≤ cap_1 → ∃ (z : Nat), ∃ (cap2 : Nat), (q :: l).length ≤ cap2 ∧ (0 : Nat) = (0 : Nat) ∧ (q :: l).length
    = (0 : Nat) + (q :: l).length ∧ cap2 = cap_1 ∧ (Value.nilFunc = Value.nilFunc ∧ (0 : Nat) = (0 : Nat) ∧ (↑g : Int) = (↑g : Int) ∧ (↑node : Int) = (↑node : Int) ∧ (↑(segs (0 : Nat))
    : Int) = (↑(segs (0 : Nat)) : Int) ∧ (↑(segs (1 : Nat)) : Int) = (↑(segs (1 : Nat)) : Int) ∧ (↑(segs (2 : Nat)) : Int) = (↑(segs (2 : Nat)) : Int) ∧ (↑(segs (3 : Nat)) : Int) =
    (↑(segs (3 : Nat)) : Int) ∧ (↑(segs (4 : Nat)) : Int) = (↑(segs (4 : Nat)) : Int) ∧ (↑(segs (5 : Nat)) : Int) = (↑(segs (5 : Nat)) : Int) ∧ (↑(segs (6 : Nat)) : Int) = (↑(segs (6 :
    Nat)) : Int) ∧ (↑(segs (7 : Nat)) : Int) = (↑(segs (7 : Nat)) : Int) ∧ ((0 : Nat) = (0 : Nat) ∧ (q :: l).length = (q :: l).length ∧ z = cap) ∧ True) ∧ ((q :: l).length = (q ::
    l).length ∧ z = cap ∧ ∀ (i : Nat), i < (q :: l).length → [Value.int IntKind.u64 (↑((q :: l).getD i ((0 : Nat), (0 : Nat))).fst : Int), Value.int IntKind.i64 (↑((q :: l).getD i ((0 :
    Nat), (0 : Nat))).snd : Int)] = [Value.int IntKind.u64 (↑((q :: l).getD i ((0 : Nat), (0 : Nat))).fst : Int), Value.int IntKind.i64 (↑((q :: l).getD i ((0 : Nat), (0 : Nat))).snd :
    Int)]) ∧ A = A ∧ ((q :: l).length = (0 : Nat) + (q :: l).length ∧ cap2 = cap_1 ∧ ∀ (i : Nat), i < (q :: l).length → [Value.int IntKind.u64 (↑((q :: l).getD i ((0 : Nat), (0 :
    Nat))).fst : Int), Value.int IntKind.i64 (↑((q :: l).getD i ((0 : Nat), (0 : Nat))).snd : Int)] = [Value.int IntKind.u64 (↑((q :: l).getD (addO true (0 : Nat) i) ((0 : Nat), (0 :
    Nat))).fst : Int), Value.int IntKind.i64 (↑((q :: l).getD (addO true (0 : Nat) i) ((0 : Nat), (0 : Nat))).snd : Int)]) ∧ True) := by
  kernel_rfl
theorem colP (g node : Nat) (segs : Nat → Nat) (q : Nat × Nat) (l : List (Nat × Nat)) (A : Ar) (cap : Nat) (hlen : (q :: l).length < 1000000000) : Run (callN Try.prog tblCP (fun _ _ => false) 100 20 93 [.c (.ptr 0 0)] ⟨colH.heap ⟨2, g, node, segs, q :: l⟩ cap ++ [(1, arO A)], 100⟩ (bothS 5) (fun v m _ => ∃ (z cap2 : Nat), (q :: l).length ≤ cap2 ∧ outM (.c (.sli 20 2 true 0 false (q :: l).length cap2)) (colHeap ⟨2, g, node, segs, q :: l⟩ z ++ [(1, arO A), (20, .vals 44 2 (q :: l).length cap2 (plF (q :: l)))]) v m)) := by
  constructor
  rw [colP_vc]
  repeat' first
    | with_reducible apply And.intro
    | with_reducible exact trivial
    | with_reducible exact fun _ h => h
    | (intro (K : KO XE); simp only [and_imp]; intros; repeat' first | with_reducible apply And.intro | with_reducible exact trivial | with_reducible exact Eq.refl _ | with_reducible assumption)
    | intro _
    | with_reducible exact Eq.refl _
    | omega
    | (apply Exists.intro cap; apply Exists.intro)
    | (rw [addO_eq, Nat.zero_add]; done)
    | (rw [Nat.zero_add] at *; with_reducible assumption)
    | exact oneCell_two ‹_›
end Go.Proofs.Ytnfpkadepomjjaa

/- The places of a collect that found none, by the executor. -/
namespace Go.Proofs.Ytnfpkadepomjjaa
open Go
set_option maxRecDepth 1000000
set_option maxHeartbeats 0
def tblCP0 : List (Smry Try.prog XE) := []
/-- What the executor leaves to be shown, written out. -/
theorem colP0_vc (g node : Nat) (segs : Nat → Nat) (A : Ar) (cap : Nat) : (callN Try.prog tblCP0 (fun _ _ => false) 100 20 93 [.c (.ptr 0 0)] ⟨colH.heap ⟨2, g, node, segs, []⟩ cap ++ [(1, arO A)], 100⟩ (bothS 5) (fun v m _ => ∃ (z : Nat), outM (.c .nls) (colHeap ⟨2, g, node, segs, []⟩ z ++ [(1, arO A)]) v m)) = (
    ∃ (z : Nat), (Value.nilFunc = Value.nilFunc ∧ (0 : Nat) = (0 : Nat) ∧ (↑g : Int) = (↑g : Int) ∧ (↑node : Int) = (↑node : Int) ∧ (↑(segs (0 : Nat)) : Int) = (↑(segs (0 : Nat)) : Int)
    ∧ (↑(segs (1 : Nat)) : Int) = (↑(segs (1 : Nat)) : Int) ∧ (↑(segs (2 : Nat)) : Int) = (↑(segs (2 : Nat)) : Int) ∧ (↑(segs (3 : Nat)) : Int) = (↑(segs (3 : Nat)) : Int) ∧ (↑(segs (4
    : Nat)) : Int) = (↑(segs (4 : Nat)) : Int) ∧ (↑(segs (5 : Nat)) : Int) = (↑(segs (5 : Nat)) : Int) ∧ (↑(segs (6 : Nat)) : Int) = (↑(segs (6 : Nat)) : Int) ∧ (↑(segs (7 : Nat)) :
    Int) = (↑(segs (7 : Nat)) : Int) ∧ True ∧ True) ∧ A = A ∧ True) := by
  kernel_rfl
theorem colP0 (g node : Nat) (segs : Nat → Nat) (A : Ar) (cap : Nat) : Run (callN Try.prog tblCP0 (fun _ _ => false) 100 20 93 [.c (.ptr 0 0)] ⟨colH.heap ⟨2, g, node, segs, []⟩ cap ++ [(1, arO A)], 100⟩ (bothS 5) (fun v m _ => ∃ (z : Nat), outM (.c .nls) (colHeap ⟨2, g, node, segs, []⟩ z ++ [(1, arO A)]) v m)) := by
  constructor
  rw [colP0_vc]
  repeat' first
    | with_reducible apply And.intro
    | with_reducible exact trivial
    | with_reducible exact fun _ h => h
    | (intro (K : KO XE); simp only [and_imp]; intros; repeat' first | with_reducible apply And.intro | with_reducible exact trivial | with_reducible exact Eq.refl _ | with_reducible assumption)
    | intro _
    | with_reducible exact Eq.refl _
    | omega
    | (apply Exists.intro cap)
    | (rw [addO_eq, Nat.zero_add]; done)
    | exact oneCell_two ‹_›
end Go.Proofs.Ytnfpkadepomjjaa

/- A collect's step and Done, as contracts. -/
namespace Go.Proofs.Ytnfpkadepomjjaa
open Go Go.RowKit

abbrev XC : EXT := XE.hid colH
def colOk (x : Col) : XO → Prop
  | .ar A => x.pl.length < 1000000000 ∧ ((x.ph = 0 ∧ x.g < 8) ∨ (x.ph = 1 ∧ x.g < 8 ∧ (1 ≤ x.node ∧ x.node < 2 * 2 ^ x.g) ∧ A.Has (x.segs x.g : Int) (5 * 2 ^ x.g + x.node : Nat)) ∨ x.ph = 2)
  | .cnt _ _ => False
def colXF (x : Col) : XO → Col
  | .ar A => colStep x A
  | .cnt _ _ => x
def colAF (x : Col) : XO → XO
  | .ar A => .ar (colRead x A)
  | .cnt p st => .cnt p st
theorem col_step : MethodOk (E := XE) colH 19 colOk (fun _ _ => .tup []) colXF colAF := by
  refine method_ok (H := colH) ?_ ?_
  · rintro x (A | ⟨p, st⟩) h
    · exact ⟨rfl, rfl, rfl⟩
    · exact h.elim
  · rintro ⟨ph, g, node, segs, pl⟩ (A | ⟨p, st⟩) h z
    · obtain ⟨hl, ⟨h0, hg⟩ | ⟨h1, hg, hn, hA⟩ | h2⟩ := h
      · dsimp only at h0 hg
        subst h0
        cases pl with
        | nil => exact ⟨_, _, _, _, _, _, colS0a g node segs A z hg, fun v m h => colPost_of h⟩
        | cons q l => exact ⟨_, _, _, _, _, _, colS0b g node segs q l A z hg, fun v m h => colPost_of h⟩
      · dsimp only at h1 hg hn hA
        subst h1
        cases pl with
        | nil => exact ⟨_, _, _, _, _, _, colS1a g node segs A z hg hn hA, fun v m h => colPost_of h⟩
        | cons q l => exact ⟨_, _, _, _, _, _, colS1b g node segs q l _ rfl A z hl hg hn hA, fun v m h => colPost_of h⟩
      · dsimp only at h2
        subst h2
        cases pl with
        | nil => exact ⟨_, _, _, _, _, _, colS2a g node segs A z, fun v m h => colPost_of h⟩
        | cons q l => exact ⟨_, _, _, _, _, _, colS2b g node segs q l A z, fun v m h => colPost_of h⟩
    · exact h.elim
def colIs (x : Col) : XO → Prop
  | .ar _ => x.ph ≤ 2
  | .cnt _ _ => False
def colDone (x : Col) : Bool := Nat.beq x.ph 2
theorem method_res {E : EXT} {H : Hid E} {g : FuncId} {cond : H.X → E.X → Prop} {res res' : H.X → E.X → SV} {xF : H.X → E.X → H.X} {aF : H.X → E.X → E.X} (h : MethodOk H g cond res xF aF) (e : ∀ x a ν, (res x a).den ν = (res' x a).den ν) : MethodOk H g cond res' xF aF :=
  fun x a hc ν c p w R w0 Hs HK => (h x a hc ν c p w R w0 Hs HK).mono fun _ _ ⟨he, r⟩ => ⟨by rw [he, e], r⟩
theorem col_done0 : MethodOk (E := XE) colH 16 colIs (fun x _ => .c (.boo true (colDone x))) (fun x _ => x) (fun _ a => a) := by
  refine method_ok (H := colH) ?_ ?_
  · rintro x (A | ⟨p, st⟩) h
    · exact ⟨rfl, rfl, rfl⟩
    · exact h.elim
  · rintro ⟨ph, g, node, segs, pl⟩ (A | ⟨p, st⟩) h z
    · have h : ph ≤ 2 := h
      rcases (by omega : ph = 0 ∨ ph = 1 ∨ ph = 2) with rfl | rfl | rfl
      · cases pl with
        | nil => exact ⟨_, _, _, _, _, _, colT0a g node segs A z, fun v m h => colPostR_of h⟩
        | cons q l => exact ⟨_, _, _, _, _, _, colT0b g node segs q l A z, fun v m h => colPostR_of h⟩
      · cases pl with
        | nil => exact ⟨_, _, _, _, _, _, colT1a g node segs A z, fun v m h => colPostR_of h⟩
        | cons q l => exact ⟨_, _, _, _, _, _, colT1b g node segs q l A z, fun v m h => colPostR_of h⟩
      · cases pl with
        | nil => exact ⟨_, _, _, _, _, _, colT2a g node segs A z, fun v m h => colPostR_of h⟩
        | cons q l => exact ⟨_, _, _, _, _, _, colT2b g node segs q l A z, fun v m h => colPostR_of h⟩
    · exact h.elim
theorem col_done : MethodOk (E := XE) colH 16 colIs (fun x _ => .c (.boo false (colDone x))) (fun x _ => x) (fun _ a => a) := method_res col_done0 fun _ _ _ => rfl
def colDoneX : Smry Try.prog XC := methodS _ colIs _ _ _ col_done
def colStepX : Smry Try.prog XC := methodS _ colOk _ colXF colAF col_step
def col0 : Col := ⟨0, 0, 0, fun _ => 0, []⟩
def isAr : XO → Prop
  | .ar _ => True
  | .cnt _ _ => False
theorem col_new : MadeOk (E := XE) colH 14 isAr (fun _ => col0) := by
  refine made_ok (H := colH) ?_ ?_
  · rintro (A | ⟨p, st⟩) h
    · rfl
    · exact h.elim
  · rintro (A | ⟨p, st⟩) h
    · exact ⟨_, _, _, _, _, _, colN A, fun v m h => ⟨(0 : Nat), h⟩⟩
    · exact h.elim
def colNewX : Smry Try.prog XC := madeS _ isAr _ col_new
def colEnd (x : Col) : XO → Prop
  | .ar _ => x.ph = 2 ∧ x.pl.length < 1000000000
  | .cnt _ _ => False
def colRow (x : Col) : RowR := ⟨44, 2, x.pl.length, plF x.pl⟩
theorem col_places : MethodRow (E := XE) colH 93 colEnd colRow := by
  refine row_ok (H := colH) ?_ ?_
  · rintro x (A | ⟨p, st⟩) h
    · rfl
    · exact h.elim
  · rintro ⟨ph, g, node, segs, pl⟩ (A | ⟨p, st⟩) h z
    · obtain ⟨h2, hl⟩ := h
      dsimp only at h2 hl
      subst h2
      cases pl with
      | nil => exact ⟨_, _, _, _, _, _, colP0 g node segs A z, fun v m h => .inl ⟨rfl, h⟩⟩
      | cons q l => exact ⟨_, _, _, _, _, _, colP g node segs q l A z hl, fun v m h => by
          obtain ⟨z', cap, h1, h2⟩ := h
          exact .inr ⟨Nat.succ_pos _, z', cap, h1, h2⟩⟩
    · exact h.elim
def colPlacesX : Smry Try.prog XC := rowS _ colEnd _ col_places
end Go.Proofs.Ytnfpkadepomjjaa
