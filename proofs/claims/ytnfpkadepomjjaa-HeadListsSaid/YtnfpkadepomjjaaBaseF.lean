/- What small functions of the packages fields, draft, ops, head hand back. -/
import Derived.Test.YtnfpkadepomjjaaBaseC
import Derived.Test.YtnfpkadepomjjaaBaseS
import Derived.Test.YtnfpkadepomjjaaBaseQ0
set_option linter.all false
namespace Go.Proofs.Ytnfpkadepomjjaa
open Go Go.RowKit
set_option maxRecDepth 1000000
set_option maxHeartbeats 0
/-- A right handle. -/
def rgtB (h : Int) : Bool := decide (((1 ≤ h / 65536 ∧ h / 65536 ≤ 268435455) ∧ 1 ≤ h % 65536))
def bOut (b : Bool) : List (Out XE) := [Out.one (.c (.boo false b))]
/-- What the executor leaves to be shown of roundelay/fields.Right, written out. -/
theorem rgt_vc (h : Int) : (callN Try.prog ([] : List (Smry Try.prog XE)) (fun _ _ => false) 100 20 215 [.c (.int false .u64 h)] ⟨[], 100⟩ (bN 4) (fun v m _ => nthO (bOut (rgtB h)) ((fun _ => 0) v) v m)) = (
    ((0 : Int) ≤ h ∧ (0 : Int) ≤ h ∧ h < (18446744073709551616 : Int)) ∧ (decide (h / (65536 : Int) ≥ (1 : Int)) = true → ((!decide (h / (65536 : Int) ≤ (268435455 : Int))) = true → ∃
    (z : Un), True ∧ rgtB h = false ∧ True) ∧ ((!decide (h / (65536 : Int) ≤ (268435455 : Int))) = false → (decide (h % (65536 : Int) ≥ (1 : Int)) = true → ((0 : Int) ≤ h / (65536 :
    Int) * (65536 : Int) ∧ h / (65536 : Int) * (65536 : Int) < (18446744073709551616 : Int)) ∧ ∃ (z : Un), True ∧ rgtB h = true ∧ True) ∧ (decide (h % (65536 : Int) ≥ (1 : Int)) = false
    → ∃ (z : Un), True ∧ rgtB h = false ∧ True))) ∧ (decide (h / (65536 : Int) ≥ (1 : Int)) = false → ∃ (z : Un), True ∧ rgtB h = false ∧ True)) := by
  kernel_rfl
theorem rgt_run (h : Int) (hc : 0 ≤ h ∧ h ≤ 18446744073709551615) : Run (callN Try.prog ([] : List (Smry Try.prog XE)) (fun _ _ => false) 100 20 215 [.c (.int false .u64 h)] ⟨[], 100⟩ (bN 4) (fun v m _ => nthO (bOut (rgtB h)) ((fun _ => 0) v) v m)) := by
  constructor
  rw [rgt_vc]
  obtain ⟨h0, h1⟩ := hc
  unfold rgtB

  repeat' first
    | with_reducible apply And.intro
    | with_reducible exact trivial
    | (intro h; first | with_reducible have hq := of_decide_eq_true h | with_reducible have hq := of_decide_eq_false h | with_reducible have hq := eq_of_beq h | with_reducible have hq := beq_eq_false_iff_ne.1 h | with_reducible have hq := bne_iff_ne.1 h | with_reducible have hq := bne_eq_false_iff_eq.1 h | (have hq := h; simp only [Bool.not_eq_true', Bool.not_eq_false', decide_eq_true_eq, decide_eq_false_iff_not, beq_iff_eq, beq_eq_false_iff_ne, ne_eq] at hq))
    | intro _
    | with_reducible refine Exists.intro Un.mk ?_
    | with_reducible exact Eq.refl _
  all_goals first
    | omega
    | (symm; exact decide_eq_true (by omega))
    | (symm; exact decide_eq_false (by omega))
    | exact decide_eq_decide.2 (by omega)
    | (simp only [hq, decide_true, Bool.true_or]; done)
    | (simp only [hq, decide_false, Bool.false_or]; done)
    | exact decide_eq_true (by omega)
    | exact decide_eq_false (by omega)
    | skip
def rgtS : Smry Try.prog XE := outS 215 (fun args => match args with
  | [.c (.int _ .u64 h _)] => some ([.c (.int false .u64 h)], 0 ≤ h ∧ h ≤ 18446744073709551615, bOut (rgtB h))
  | _ => none)
  ⟨(by intro args na c os h ν; split at h <;> first | (cases h; rfl) | cases h), (by intro args na c os h hc; split at h <;> first | (cases h; exact ⟨([] : List (Smry Try.prog XE)), _, _, _, _, _, rgt_run _ hc⟩) | cases h)⟩
/-- What the executor leaves to be shown of roundelay/roundelayref01.Right, written out. -/
theorem rrgt_vc (h : Int) : (callN Try.prog ([] : List (Smry Try.prog XE)) (fun _ _ => false) 100 20 237 [.c (.int false .u64 h)] ⟨[], 100⟩ (bN 4) (fun v m _ => nthO (bOut (rgtB h)) ((fun _ => 0) v) v m)) = (
    ((0 : Int) ≤ h ∧ (0 : Int) < (65536 : Int) ∧ (0 : Int) ≤ h ∧ h < (18446744073709551616 : Int)) ∧ ((0 : Int) ≤ h ∧ (0 : Int) < (65536 : Int)) ∧ (decide (h / (65536 : Int) ≥ (1 :
    Int)) = true → (decide (h / (65536 : Int) ≤ (268435455 : Int)) = true → ∃ (z : Un), True ∧ rgtB h = decide (h % (65536 : Int) ≥ (1 : Int)) ∧ True) ∧ (decide (h / (65536 : Int) ≤
    (268435455 : Int)) = false → ∃ (z : Un), True ∧ rgtB h = false ∧ True)) ∧ (decide (h / (65536 : Int) ≥ (1 : Int)) = false → ∃ (z : Un), True ∧ rgtB h = false ∧ True)) := by
  kernel_rfl
theorem rrgt_run (h : Int) (hc : 0 ≤ h ∧ h ≤ 18446744073709551615) : Run (callN Try.prog ([] : List (Smry Try.prog XE)) (fun _ _ => false) 100 20 237 [.c (.int false .u64 h)] ⟨[], 100⟩ (bN 4) (fun v m _ => nthO (bOut (rgtB h)) ((fun _ => 0) v) v m)) := by
  constructor
  rw [rrgt_vc]
  obtain ⟨h0, h1⟩ := hc
  unfold rgtB

  repeat' first
    | with_reducible apply And.intro
    | with_reducible exact trivial
    | (intro h; first | with_reducible have hq := of_decide_eq_true h | with_reducible have hq := of_decide_eq_false h | with_reducible have hq := eq_of_beq h | with_reducible have hq := beq_eq_false_iff_ne.1 h | with_reducible have hq := bne_iff_ne.1 h | with_reducible have hq := bne_eq_false_iff_eq.1 h | (have hq := h; simp only [Bool.not_eq_true', Bool.not_eq_false', decide_eq_true_eq, decide_eq_false_iff_not, beq_iff_eq, beq_eq_false_iff_ne, ne_eq] at hq))
    | intro _
    | with_reducible refine Exists.intro Un.mk ?_
    | with_reducible exact Eq.refl _
  all_goals first
    | omega
    | (symm; exact decide_eq_true (by omega))
    | (symm; exact decide_eq_false (by omega))
    | exact decide_eq_decide.2 (by omega)
    | (simp only [hq, decide_true, Bool.true_or]; done)
    | (simp only [hq, decide_false, Bool.false_or]; done)
    | exact decide_eq_true (by omega)
    | exact decide_eq_false (by omega)
    | skip
def rrgtS : Smry Try.prog XE := outS 237 (fun args => match args with
  | [.c (.int _ .u64 h _)] => some ([.c (.int false .u64 h)], 0 ≤ h ∧ h ≤ 18446744073709551615, bOut (rgtB h))
  | _ => none)
  ⟨(by intro args na c os h ν; split at h <;> first | (cases h; rfl) | cases h), (by intro args na c os h hc; split at h <;> first | (cases h; exact ⟨([] : List (Smry Try.prog XE)), _, _, _, _, _, rrgt_run _ hc⟩) | cases h)⟩
/-- A handle, or none. -/
def lnkB (h : Int) : Bool := decide (h = 0) || rgtB h
/-- A version is right. -/
def verB (ml fr ln sl : Int) : Bool := decide ((0 ≤ ml ∧ ml ≤ 256) ∧ (0 ≤ fr ∧ fr ≤ 255) ∧ (0 ≤ ln ∧ ln ≤ 256) ∧ (0 ≤ sl ∧ sl ≤ 256))
/-- What the executor leaves to be shown of roundelay/draft.Right, written out. -/
theorem drgt_vc (mp ml qu fr ln se sl : Int) : (callN Try.prog ([] : List (Smry Try.prog XE)) (fun _ _ => false) 100 20 30 [.agg [.int false .u64 mp, .int false .i64 ml, .int false .u64 qu, .int false .i64 fr, .int false .i64 ln, .int false .u64 se, .int false .i64 sl]] ⟨[], 100⟩ (bN 4) (fun v m _ => nthO (bOut (verB ml fr ln sl)) ((fun _ => 0) v) v m)) = (
    (decide (min (min (min ml ln) sl) fr ≥ (0 : Int)) = true → (decide (max (max ml ln) sl ≤ (256 : Int)) = true → ∃ (z : Un), True ∧ verB ml fr ln sl = decide (fr < (256 : Int)) ∧
    True) ∧ (decide (max (max ml ln) sl ≤ (256 : Int)) = false → ∃ (z : Un), True ∧ verB ml fr ln sl = false ∧ True)) ∧ (decide (min (min (min ml ln) sl) fr ≥ (0 : Int)) = false → ∃ (z
    : Un), True ∧ verB ml fr ln sl = false ∧ True)) := by
  kernel_rfl
theorem drgt_run (mp ml qu fr ln se sl : Int) (hc : True) : Run (callN Try.prog ([] : List (Smry Try.prog XE)) (fun _ _ => false) 100 20 30 [.agg [.int false .u64 mp, .int false .i64 ml, .int false .u64 qu, .int false .i64 fr, .int false .i64 ln, .int false .u64 se, .int false .i64 sl]] ⟨[], 100⟩ (bN 4) (fun v m _ => nthO (bOut (verB ml fr ln sl)) ((fun _ => 0) v) v m)) := by
  constructor
  rw [drgt_vc]
  unfold verB

  repeat' first
    | with_reducible apply And.intro
    | with_reducible exact trivial
    | (intro h; first | with_reducible have hq := of_decide_eq_true h | with_reducible have hq := of_decide_eq_false h | with_reducible have hq := eq_of_beq h | with_reducible have hq := beq_eq_false_iff_ne.1 h | with_reducible have hq := bne_iff_ne.1 h | with_reducible have hq := bne_eq_false_iff_eq.1 h | (have hq := h; simp only [Bool.not_eq_true', Bool.not_eq_false', decide_eq_true_eq, decide_eq_false_iff_not, beq_iff_eq, beq_eq_false_iff_ne, ne_eq] at hq))
    | intro _
    | with_reducible refine Exists.intro Un.mk ?_
    | with_reducible exact Eq.refl _
  all_goals first
    | omega
    | (symm; exact decide_eq_true (by omega))
    | (symm; exact decide_eq_false (by omega))
    | exact decide_eq_decide.2 (by omega)
    | (simp only [hq, decide_true, Bool.true_or]; done)
    | (simp only [hq, decide_false, Bool.false_or]; done)
    | exact decide_eq_true (by omega)
    | exact decide_eq_false (by omega)
    | skip
def drgtS : Smry Try.prog XE := outS 30 (fun args => match args with
  | [.agg [.int _ .u64 mp _, .int _ .i64 ml _, .int _ .u64 qu _, .int _ .i64 fr _, .int _ .i64 ln _, .int _ .u64 se _, .int _ .i64 sl _]] => some ([.agg [.int false .u64 mp, .int false .i64 ml, .int false .u64 qu, .int false .i64 fr, .int false .i64 ln, .int false .u64 se, .int false .i64 sl]], True, bOut (verB ml fr ln sl))
  | _ => none)
  ⟨(by intro args na c os h ν; split at h <;> first | (cases h; rfl) | cases h), (by intro args na c os h hc; split at h <;> first | (cases h; exact ⟨([] : List (Smry Try.prog XE)), _, _, _, _, _, drgt_run _ _ _ _ _ _ _ hc⟩) | cases h)⟩
/-- What the executor leaves to be shown of roundelay/roundelayref08.Right, written out. -/
theorem rdrgt_vc (mp ml qu fr ln se sl : Int) : (callN Try.prog ([] : List (Smry Try.prog XE)) (fun _ _ => false) 100 20 31 [.agg [.int false .u64 mp, .int false .i64 ml, .int false .u64 qu, .int false .i64 fr, .int false .i64 ln, .int false .u64 se, .int false .i64 sl]] ⟨[], 100⟩ (bN 9) (fun v m _ => nthO (bOut (verB ml fr ln sl)) ((fun _ => 0) v) v m)) = (
    (decide (ml ≥ (0 : Int)) = true → (decide (ml ≤ (256 : Int)) = true → (decide (ln ≥ (0 : Int)) = true → (decide (ln ≤ (256 : Int)) = true → (decide (sl ≥ (0 : Int)) = true → (decide
    (sl ≤ (256 : Int)) = true → (decide (fr ≥ (0 : Int)) = true → ∃ (z : Un), True ∧ verB ml fr ln sl = decide (fr ≤ (255 : Int)) ∧ True) ∧ (decide (fr ≥ (0 : Int)) = false → ∃ (z :
    Un), True ∧ verB ml fr ln sl = false ∧ True)) ∧ (decide (sl ≤ (256 : Int)) = false → ∃ (z : Un), True ∧ verB ml fr ln sl = false ∧ True)) ∧ (decide (sl ≥ (0 : Int)) = false → ∃ (z :
    Un), True ∧ verB ml fr ln sl = false ∧ True)) ∧ (decide (ln ≤ (256 : Int)) = false → ∃ (z : Un), True ∧ verB ml fr ln sl = false ∧ True)) ∧ (decide (ln ≥ (0 : Int)) = false → ∃ (z :
    Un), True ∧ verB ml fr ln sl = false ∧ True)) ∧ (decide (ml ≤ (256 : Int)) = false → ∃ (z : Un), True ∧ verB ml fr ln sl = false ∧ True)) ∧ (decide (ml ≥ (0 : Int)) = false → ∃ (z :
    Un), True ∧ verB ml fr ln sl = false ∧ True)) := by
  kernel_rfl
theorem rdrgt_run (mp ml qu fr ln se sl : Int) (hc : True) : Run (callN Try.prog ([] : List (Smry Try.prog XE)) (fun _ _ => false) 100 20 31 [.agg [.int false .u64 mp, .int false .i64 ml, .int false .u64 qu, .int false .i64 fr, .int false .i64 ln, .int false .u64 se, .int false .i64 sl]] ⟨[], 100⟩ (bN 9) (fun v m _ => nthO (bOut (verB ml fr ln sl)) ((fun _ => 0) v) v m)) := by
  constructor
  rw [rdrgt_vc]
  unfold verB

  repeat' first
    | with_reducible apply And.intro
    | with_reducible exact trivial
    | (intro h; first | with_reducible have hq := of_decide_eq_true h | with_reducible have hq := of_decide_eq_false h | with_reducible have hq := eq_of_beq h | with_reducible have hq := beq_eq_false_iff_ne.1 h | with_reducible have hq := bne_iff_ne.1 h | with_reducible have hq := bne_eq_false_iff_eq.1 h | (have hq := h; simp only [Bool.not_eq_true', Bool.not_eq_false', decide_eq_true_eq, decide_eq_false_iff_not, beq_iff_eq, beq_eq_false_iff_ne, ne_eq] at hq))
    | intro _
    | with_reducible refine Exists.intro Un.mk ?_
    | with_reducible exact Eq.refl _
  all_goals first
    | omega
    | (symm; exact decide_eq_true (by omega))
    | (symm; exact decide_eq_false (by omega))
    | exact decide_eq_decide.2 (by omega)
    | (simp only [hq, decide_true, Bool.true_or]; done)
    | (simp only [hq, decide_false, Bool.false_or]; done)
    | exact decide_eq_true (by omega)
    | exact decide_eq_false (by omega)
    | skip
def rdrgtS : Smry Try.prog XE := outS 31 (fun args => match args with
  | [.agg [.int _ .u64 mp _, .int _ .i64 ml _, .int _ .u64 qu _, .int _ .i64 fr _, .int _ .i64 ln _, .int _ .u64 se _, .int _ .i64 sl _]] => some ([.agg [.int false .u64 mp, .int false .i64 ml, .int false .u64 qu, .int false .i64 fr, .int false .i64 ln, .int false .u64 se, .int false .i64 sl]], True, bOut (verB ml fr ln sl))
  | _ => none)
  ⟨(by intro args na c os h ν; split at h <;> first | (cases h; rfl) | cases h), (by intro args na c os h hc; split at h <;> first | (cases h; exact ⟨([] : List (Smry Try.prog XE)), _, _, _, _, _, rdrgt_run _ _ _ _ _ _ _ hc⟩) | cases h)⟩
/-- What the executor leaves to be shown of roundelay/roundelayref09.Link, written out. -/
theorem rlnk_vc (h : Int) : (callN Try.prog ([rrgtS] : List (Smry Try.prog XE)) (fun _ _ => false) 100 20 218 [.c (.int false .u64 h)] ⟨[], 100⟩ (bN 4) (fun v m _ => nthO (bOut (lnkB h)) ((fun _ => 0) v) v m)) = (
    ((h == (0 : Int)) = true → ∃ (z : Un), True ∧ lnkB h = true ∧ True) ∧ ((h == (0 : Int)) = false → ((0 : Int) ≤ h ∧ h ≤ (18446744073709551615 : Int)) ∧ (∀ (z : Un), True → ∃ (z :
    Un), True ∧ lnkB h = rgtB h ∧ True) ∧ True)) := by
  kernel_rfl
theorem rlnk_run (h : Int) (hc : 0 ≤ h ∧ h ≤ 18446744073709551615) : Run (callN Try.prog ([rrgtS] : List (Smry Try.prog XE)) (fun _ _ => false) 100 20 218 [.c (.int false .u64 h)] ⟨[], 100⟩ (bN 4) (fun v m _ => nthO (bOut (lnkB h)) ((fun _ => 0) v) v m)) := by
  constructor
  rw [rlnk_vc]
  obtain ⟨h0, h1⟩ := hc
  unfold lnkB

  repeat' first
    | with_reducible apply And.intro
    | with_reducible exact trivial
    | (intro h; first | with_reducible have hq := of_decide_eq_true h | with_reducible have hq := of_decide_eq_false h | with_reducible have hq := eq_of_beq h | with_reducible have hq := beq_eq_false_iff_ne.1 h | with_reducible have hq := bne_iff_ne.1 h | with_reducible have hq := bne_eq_false_iff_eq.1 h | (have hq := h; simp only [Bool.not_eq_true', Bool.not_eq_false', decide_eq_true_eq, decide_eq_false_iff_not, beq_iff_eq, beq_eq_false_iff_ne, ne_eq] at hq))
    | intro _
    | with_reducible refine Exists.intro Un.mk ?_
    | with_reducible exact Eq.refl _
  all_goals first
    | omega
    | (symm; exact decide_eq_true (by omega))
    | (symm; exact decide_eq_false (by omega))
    | exact decide_eq_decide.2 (by omega)
    | (simp only [hq, decide_true, Bool.true_or]; done)
    | (simp only [hq, decide_false, Bool.false_or]; done)
    | exact decide_eq_true (by omega)
    | exact decide_eq_false (by omega)
    | skip
def rlnkS : Smry Try.prog XE := outS 218 (fun args => match args with
  | [.c (.int _ .u64 h _)] => some ([.c (.int false .u64 h)], 0 ≤ h ∧ h ≤ 18446744073709551615, bOut (lnkB h))
  | _ => none)
  ⟨(by intro args na c os h ν; split at h <;> first | (cases h; rfl) | cases h), (by intro args na c os h hc; split at h <;> first | (cases h; exact ⟨([rrgtS] : List (Smry Try.prog XE)), _, _, _, _, _, rlnk_run _ hc⟩) | cases h)⟩
def headB (cursor mp ml qu fr ln se sl : Int) : Bool := verB ml fr ln sl && (lnkB cursor && (lnkB mp && (lnkB qu && lnkB se)))
def row8 (cursor mp ml qu fr ln se sl : Int) : List SC := [.int false .u64 cursor, .int false .u64 mp, .int false .u64 ml, .int false .u64 qu, .int false .u64 fr, .int false .u64 ln, .int false .u64 se, .int false .u64 sl]
theorem verB_bd {ml fr ln sl : Int} (h : verB ml fr ln sl = true) : (0 ≤ ml ∧ ml ≤ 256) ∧ (0 ≤ fr ∧ fr ≤ 255) ∧ (0 ≤ ln ∧ ln ≤ 256) ∧ (0 ≤ sl ∧ sl ≤ 256) := of_decide_eq_true h
def wordsOuts (B : Bool) (n : Nat) (l : List SC) : List (Out XE) := [⟨Un, fun _ => B = false, fun _ => .tup [(false, [.nls]), okB false], fun _ => [], 0⟩, ⟨Un, fun _ => B = true, fun _ => .tup [(false, [.sli 10 1 true 0 true n n]), okB true], fun _ => [(10, .cells l 25)], 1⟩]
def pickN (v : SV) : Nat := match v with
  | .tup ((false, [.nls]) :: _) => 0
  | _ => 1
/-- A response's number is right. -/
def respB (n : Int) : Bool := decide (n / 268435456 ≤ 5 ∧ (n % 268435456 = 0 ∨ n / 268435456 = 0 ∨ n / 268435456 = 4))
def entB (slot note next : Int) : Bool := respB (note % 4294967296) && (decide (0 ≤ slot ∧ slot ≤ 254) && lnkB next)
def row3 (slot note next : Int) : List SC := [.int false .u64 slot, .int false .u64 note, .int false .u64 next]
theorem lnkB_zero {h : Int} (e : (h != 0) = false) : lnkB h = true := by
  have : h = 0 := bne_eq_false_iff_eq.1 e
  subst this
  rfl
theorem lnkB_rgt {h : Int} (e : (h != 0) = true) : lnkB h = rgtB h := by
  have : h ≠ 0 := bne_iff_ne.1 e
  unfold lnkB
  simp [this]
/-- What the executor leaves to be shown of roundelay/head.Words, written out. -/
theorem hwords_vc (cursor mp ml qu fr ln se sl : Int) : (callN Try.prog ([rgtS, drgtS] : List (Smry Try.prog XE)) (fun _ _ => false) 100 20 127 [.c (.int false .u64 cursor), .agg [.int false .u64 mp, .int false .i64 ml, .int false .u64 qu, .int false .i64 fr, .int false .i64 ln, .int false .u64 se, .int false .i64 sl]] ⟨[], 100⟩ (bN 12) (fun v m _ => nthO (wordsOuts (headB cursor mp ml qu fr ln se sl) 8 (row8 cursor mp ml qu fr ln se sl)) ((pickN) v) v m)) = (
    True ∧ (∀ (z : Un), True → ((!verB ml fr ln sl) = true → ∃ (z : Un), headB cursor mp ml qu fr ln se sl = false ∧ True) ∧ ((!verB ml fr ln sl) = false → ((cursor != (0 : Int)) = true
    → ((0 : Int) ≤ cursor ∧ cursor ≤ (18446744073709551615 : Int)) ∧ (∀ (z : Un), True → ((!rgtB cursor) = true → ∃ (z : Un), headB cursor mp ml qu fr ln se sl = false ∧ True) ∧ ((!rgtB
    cursor) = false → ((mp != (0 : Int)) = true → ((0 : Int) ≤ mp ∧ mp ≤ (18446744073709551615 : Int)) ∧ (∀ (z : Un), True → ((!rgtB mp) = true → ∃ (z : Un), headB cursor mp ml qu fr ln
    se sl = false ∧ True) ∧ ((!rgtB mp) = false → ((qu != (0 : Int)) = true → ((0 : Int) ≤ qu ∧ qu ≤ (18446744073709551615 : Int)) ∧ (∀ (z : Un), True → ((!rgtB qu) = true → ∃ (z : Un),
    headB cursor mp ml qu fr ln se sl = false ∧ True) ∧ ((!rgtB qu) = false → ((se != (0 : Int)) = true → ((0 : Int) ≤ se ∧ se ≤ (18446744073709551615 : Int)) ∧ (∀ (z : Un), True →
    ((!rgtB se) = true → ∃ (z : Un), headB cursor mp ml qu fr ln se sl = false ∧ True) ∧ ((!rgtB se) = false → ((0 : Int) ≤ ml ∧ ml < (18446744073709551616 : Int)) ∧ ((0 : Int) ≤ fr ∧
    fr < (18446744073709551616 : Int)) ∧ ((0 : Int) ≤ ln ∧ ln < (18446744073709551616 : Int)) ∧ ((0 : Int) ≤ sl ∧ sl < (18446744073709551616 : Int)) ∧ ∃ (z : Un), headB cursor mp ml qu
    fr ln se sl = true ∧ (0 : Nat) = (0 : Nat) ∧ (8 : Nat) = (8 : Nat) ∧ (cursor = cursor ∧ mp = mp ∧ ml = ml ∧ qu = qu ∧ fr = fr ∧ ln = ln ∧ se = se ∧ sl = sl ∧ True) ∧ True)) ∧ True)
    ∧ ((se != (0 : Int)) = false → ((0 : Int) ≤ ml ∧ ml < (18446744073709551616 : Int)) ∧ ((0 : Int) ≤ fr ∧ fr < (18446744073709551616 : Int)) ∧ ((0 : Int) ≤ ln ∧ ln <
    (18446744073709551616 : Int)) ∧ ((0 : Int) ≤ sl ∧ sl < (18446744073709551616 : Int)) ∧ ∃ (z : Un), headB cursor mp ml qu fr ln se sl = true ∧ (0 : Nat) = (0 : Nat) ∧ (8 : Nat) = (8
    : Nat) ∧ (cursor = cursor ∧ mp = mp ∧ ml = ml ∧ qu = qu ∧ fr = fr ∧ ln = ln ∧ se = se ∧ sl = sl ∧ True) ∧ True))) ∧ True) ∧ ((qu != (0 : Int)) = false → ((se != (0 : Int)) = true →
    ((0 : Int) ≤ se ∧ se ≤ (18446744073709551615 : Int)) ∧ (∀ (z : Un), True → ((!rgtB se) = true → ∃ (z : Un), headB cursor mp ml qu fr ln se sl = false ∧ True) ∧ ((!rgtB se) = false →
    ((0 : Int) ≤ ml ∧ ml < (18446744073709551616 : Int)) ∧ ((0 : Int) ≤ fr ∧ fr < (18446744073709551616 : Int)) ∧ ((0 : Int) ≤ ln ∧ ln < (18446744073709551616 : Int)) ∧ ((0 : Int) ≤ sl
    ∧ sl < (18446744073709551616 : Int)) ∧ ∃ (z : Un), headB cursor mp ml qu fr ln se sl = true ∧ (0 : Nat) = (0 : Nat) ∧ (8 : Nat) = (8 : Nat) ∧ (cursor = cursor ∧ mp = mp ∧ ml = ml ∧
    qu = qu ∧ fr = fr ∧ ln = ln ∧ se = se ∧ sl = sl ∧ True) ∧ True)) ∧ True) ∧ ((se != (0 : Int)) = false → ((0 : Int) ≤ ml ∧ ml < (18446744073709551616 : Int)) ∧ ((0 : Int) ≤ fr ∧ fr <
    (18446744073709551616 : Int)) ∧ ((0 : Int) ≤ ln ∧ ln < (18446744073709551616 : Int)) ∧ ((0 : Int) ≤ sl ∧ sl < (18446744073709551616 : Int)) ∧ ∃ (z : Un), headB cursor mp ml qu fr ln
    se sl = true ∧ (0 : Nat) = (0 : Nat) ∧ (8 : Nat) = (8 : Nat) ∧ (cursor = cursor ∧ mp = mp ∧ ml = ml ∧ qu = qu ∧ fr = fr ∧ ln = ln ∧ se = se ∧ sl = sl ∧ True) ∧ True)))) ∧ True) ∧
    ((mp != (0 : Int)) = false → ((qu != (0 : Int)) = true → ((0 : Int) ≤ qu ∧ qu ≤ (18446744073709551615 : Int)) ∧ (∀ (z : Un), True → ((!rgtB qu) = true → ∃ (z : Un), headB cursor mp
    ml qu fr ln se sl = false ∧ True) ∧ ((!rgtB qu) = false → ((se != (0 : Int)) = true → ((0 : Int) ≤ se ∧ se ≤ (18446744073709551615 : Int)) ∧ (∀ (z : Un), True → ((!rgtB se) = true →
    ∃ (z : Un), headB cursor mp ml qu fr ln se sl = false ∧ True) ∧ ((!rgtB se) = false → ((0 : Int) ≤ ml ∧ ml < (18446744073709551616 : Int)) ∧ ((0 : Int) ≤ fr ∧ fr <
    (18446744073709551616 : Int)) ∧ ((0 : Int) ≤ ln ∧ ln < (18446744073709551616 : Int)) ∧ ((0 : Int) ≤ sl ∧ sl < (18446744073709551616 : Int)) ∧ ∃ (z : Un), headB cursor mp ml qu fr ln
    se sl = true ∧ (0 : Nat) = (0 : Nat) ∧ (8 : Nat) = (8 : Nat) ∧ (cursor = cursor ∧ mp = mp ∧ ml = ml ∧ qu = qu ∧ fr = fr ∧ ln = ln ∧ se = se ∧ sl = sl ∧ True) ∧ True)) ∧ True) ∧ ((se
    != (0 : Int)) = false → ((0 : Int) ≤ ml ∧ ml < (18446744073709551616 : Int)) ∧ ((0 : Int) ≤ fr ∧ fr < (18446744073709551616 : Int)) ∧ ((0 : Int) ≤ ln ∧ ln < (18446744073709551616 :
    Int)) ∧ ((0 : Int) ≤ sl ∧ sl < (18446744073709551616 : Int)) ∧ ∃ (z : Un), headB cursor mp ml qu fr ln se sl = true ∧ (0 : Nat) = (0 : Nat) ∧ (8 : Nat) = (8 : Nat) ∧ (cursor =
    cursor ∧ mp = mp ∧ ml = ml ∧ qu = qu ∧ fr = fr ∧ ln = ln ∧ se = se ∧ sl = sl ∧ True) ∧ True))) ∧ True) ∧ ((qu != (0 : Int)) = false → ((se != (0 : Int)) = true → ((0 : Int) ≤ se ∧
    se ≤ (18446744073709551615 : Int)) ∧ (∀ (z : Un), True → ((!rgtB se) = true → ∃ (z : Un), headB cursor mp ml qu fr ln se sl = false ∧ True) ∧ ((!rgtB se) = false → ((0 : Int) ≤ ml ∧
    ml < (18446744073709551616 : Int)) ∧ ((0 : Int) ≤ fr ∧ fr < (18446744073709551616 : Int)) ∧ ((0 : Int) ≤ ln ∧ ln < (18446744073709551616 : Int)) ∧ ((0 : Int) ≤ sl ∧ sl <
    (18446744073709551616 : Int)) ∧ ∃ (z : Un), headB cursor mp ml qu fr ln se sl = true ∧ (0 : Nat) = (0 : Nat) ∧ (8 : Nat) = (8 : Nat) ∧ (cursor = cursor ∧ mp = mp ∧ ml = ml ∧ qu = qu
    ∧ fr = fr ∧ ln = ln ∧ se = se ∧ sl = sl ∧ True) ∧ True)) ∧ True) ∧ ((se != (0 : Int)) = false → ((0 : Int) ≤ ml ∧ ml < (18446744073709551616 : Int)) ∧ ((0 : Int) ≤ fr ∧ fr <
    (18446744073709551616 : Int)) ∧ ((0 : Int) ≤ ln ∧ ln < (18446744073709551616 : Int)) ∧ ((0 : Int) ≤ sl ∧ sl < (18446744073709551616 : Int)) ∧ ∃ (z : Un), headB cursor mp ml qu fr ln
    se sl = true ∧ (0 : Nat) = (0 : Nat) ∧ (8 : Nat) = (8 : Nat) ∧ (cursor = cursor ∧ mp = mp ∧ ml = ml ∧ qu = qu ∧ fr = fr ∧ ln = ln ∧ se = se ∧ sl = sl ∧ True) ∧ True))))) ∧ True) ∧
    ((cursor != (0 : Int)) = false → ((mp != (0 : Int)) = true → ((0 : Int) ≤ mp ∧ mp ≤ (18446744073709551615 : Int)) ∧ (∀ (z : Un), True → ((!rgtB mp) = true → ∃ (z : Un), headB cursor
    mp ml qu fr ln se sl = false ∧ True) ∧ ((!rgtB mp) = false → ((qu != (0 : Int)) = true → ((0 : Int) ≤ qu ∧ qu ≤ (18446744073709551615 : Int)) ∧ (∀ (z : Un), True → ((!rgtB qu) =
    true → ∃ (z : Un), headB cursor mp ml qu fr ln se sl = false ∧ True) ∧ ((!rgtB qu) = false → ((se != (0 : Int)) = true → ((0 : Int) ≤ se ∧ se ≤ (18446744073709551615 : Int)) ∧ (∀ (z
    : Un), True → ((!rgtB se) = true → ∃ (z : Un), headB cursor mp ml qu fr ln se sl = false ∧ True) ∧ ((!rgtB se) = false → ((0 : Int) ≤ ml ∧ ml < (18446744073709551616 : Int)) ∧ ((0 :
    Int) ≤ fr ∧ fr < (18446744073709551616 : Int)) ∧ ((0 : Int) ≤ ln ∧ ln < (18446744073709551616 : Int)) ∧ ((0 : Int) ≤ sl ∧ sl < (18446744073709551616 : Int)) ∧ ∃ (z : Un), headB
    cursor mp ml qu fr ln se sl = true ∧ (0 : Nat) = (0 : Nat) ∧ (8 : Nat) = (8 : Nat) ∧ (cursor = cursor ∧ mp = mp ∧ ml = ml ∧ qu = qu ∧ fr = fr ∧ ln = ln ∧ se = se ∧ sl = sl ∧ True) ∧
    True)) ∧ True) ∧ ((se != (0 : Int)) = false → ((0 : Int) ≤ ml ∧ ml < (18446744073709551616 : Int)) ∧ ((0 : Int) ≤ fr ∧ fr < (18446744073709551616 : Int)) ∧ ((0 : Int) ≤ ln ∧ ln <
    (18446744073709551616 : Int)) ∧ ((0 : Int) ≤ sl ∧ sl < (18446744073709551616 : Int)) ∧ ∃ (z : Un), headB cursor mp ml qu fr ln se sl = true ∧ (0 : Nat) = (0 : Nat) ∧ (8 : Nat) = (8
    : Nat) ∧ (cursor = cursor ∧ mp = mp ∧ ml = ml ∧ qu = qu ∧ fr = fr ∧ ln = ln ∧ se = se ∧ sl = sl ∧ True) ∧ True))) ∧ True) ∧ ((qu != (0 : Int)) = false → ((se != (0 : Int)) = true →
    ((0 : Int) ≤ se ∧ se ≤ (18446744073709551615 : Int)) ∧ (∀ (z : Un), True → ((!rgtB se) = true → ∃ (z : Un), headB cursor mp ml qu fr ln se sl = false ∧ True) ∧ ((!rgtB se) = false →
    ((0 : Int) ≤ ml ∧ ml < (18446744073709551616 : Int)) ∧ ((0 : Int) ≤ fr ∧ fr < (18446744073709551616 : Int)) ∧ ((0 : Int) ≤ ln ∧ ln < (18446744073709551616 : Int)) ∧ ((0 : Int) ≤ sl
    ∧ sl < (18446744073709551616 : Int)) ∧ ∃ (z : Un), headB cursor mp ml qu fr ln se sl = true ∧ (0 : Nat) = (0 : Nat) ∧ (8 : Nat) = (8 : Nat) ∧ (cursor = cursor ∧ mp = mp ∧ ml = ml ∧
    qu = qu ∧ fr = fr ∧ ln = ln ∧ se = se ∧ sl = sl ∧ True) ∧ True)) ∧ True) ∧ ((se != (0 : Int)) = false → ((0 : Int) ≤ ml ∧ ml < (18446744073709551616 : Int)) ∧ ((0 : Int) ≤ fr ∧ fr <
    (18446744073709551616 : Int)) ∧ ((0 : Int) ≤ ln ∧ ln < (18446744073709551616 : Int)) ∧ ((0 : Int) ≤ sl ∧ sl < (18446744073709551616 : Int)) ∧ ∃ (z : Un), headB cursor mp ml qu fr ln
    se sl = true ∧ (0 : Nat) = (0 : Nat) ∧ (8 : Nat) = (8 : Nat) ∧ (cursor = cursor ∧ mp = mp ∧ ml = ml ∧ qu = qu ∧ fr = fr ∧ ln = ln ∧ se = se ∧ sl = sl ∧ True) ∧ True)))) ∧ True) ∧
    ((mp != (0 : Int)) = false → ((qu != (0 : Int)) = true → ((0 : Int) ≤ qu ∧ qu ≤ (18446744073709551615 : Int)) ∧ (∀ (z : Un), True → ((!rgtB qu) = true → ∃ (z : Un), headB cursor mp
    ml qu fr ln se sl = false ∧ True) ∧ ((!rgtB qu) = false → ((se != (0 : Int)) = true → ((0 : Int) ≤ se ∧ se ≤ (18446744073709551615 : Int)) ∧ (∀ (z : Un), True → ((!rgtB se) = true →
    ∃ (z : Un), headB cursor mp ml qu fr ln se sl = false ∧ True) ∧ ((!rgtB se) = false → ((0 : Int) ≤ ml ∧ ml < (18446744073709551616 : Int)) ∧ ((0 : Int) ≤ fr ∧ fr <
    (18446744073709551616 : Int)) ∧ ((0 : Int) ≤ ln ∧ ln < (18446744073709551616 : Int)) ∧ ((0 : Int) ≤ sl ∧ sl < (18446744073709551616 : Int)) ∧ ∃ (z : Un), headB cursor mp ml qu fr ln
    se sl = true ∧ (0 : Nat) = (0 : Nat) ∧ (8 : Nat) = (8 : Nat) ∧ (cursor = cursor ∧ mp = mp ∧ ml = ml ∧ qu = qu ∧ fr = fr ∧ ln = ln ∧ se = se ∧ sl = sl ∧ True) ∧ True)) ∧ True) ∧ ((se
    != (0 : Int)) = false → ((0 : Int) ≤ ml ∧ ml < (18446744073709551616 : Int)) ∧ ((0 : Int) ≤ fr ∧ fr < (18446744073709551616 : Int)) ∧ ((0 : Int) ≤ ln ∧ ln < (18446744073709551616 :
    Int)) ∧ ((0 : Int) ≤ sl ∧ sl < (18446744073709551616 : Int)) ∧ ∃ (z : Un), headB cursor mp ml qu fr ln se sl = true ∧ (0 : Nat) = (0 : Nat) ∧ (8 : Nat) = (8 : Nat) ∧ (cursor =
    cursor ∧ mp = mp ∧ ml = ml ∧ qu = qu ∧ fr = fr ∧ ln = ln ∧ se = se ∧ sl = sl ∧ True) ∧ True))) ∧ True) ∧ ((qu != (0 : Int)) = false → ((se != (0 : Int)) = true → ((0 : Int) ≤ se ∧
    se ≤ (18446744073709551615 : Int)) ∧ (∀ (z : Un), True → ((!rgtB se) = true → ∃ (z : Un), headB cursor mp ml qu fr ln se sl = false ∧ True) ∧ ((!rgtB se) = false → ((0 : Int) ≤ ml ∧
    ml < (18446744073709551616 : Int)) ∧ ((0 : Int) ≤ fr ∧ fr < (18446744073709551616 : Int)) ∧ ((0 : Int) ≤ ln ∧ ln < (18446744073709551616 : Int)) ∧ ((0 : Int) ≤ sl ∧ sl <
    (18446744073709551616 : Int)) ∧ ∃ (z : Un), headB cursor mp ml qu fr ln se sl = true ∧ (0 : Nat) = (0 : Nat) ∧ (8 : Nat) = (8 : Nat) ∧ (cursor = cursor ∧ mp = mp ∧ ml = ml ∧ qu = qu
    ∧ fr = fr ∧ ln = ln ∧ se = se ∧ sl = sl ∧ True) ∧ True)) ∧ True) ∧ ((se != (0 : Int)) = false → ((0 : Int) ≤ ml ∧ ml < (18446744073709551616 : Int)) ∧ ((0 : Int) ≤ fr ∧ fr <
    (18446744073709551616 : Int)) ∧ ((0 : Int) ≤ ln ∧ ln < (18446744073709551616 : Int)) ∧ ((0 : Int) ≤ sl ∧ sl < (18446744073709551616 : Int)) ∧ ∃ (z : Un), headB cursor mp ml qu fr ln
    se sl = true ∧ (0 : Nat) = (0 : Nat) ∧ (8 : Nat) = (8 : Nat) ∧ (cursor = cursor ∧ mp = mp ∧ ml = ml ∧ qu = qu ∧ fr = fr ∧ ln = ln ∧ se = se ∧ sl = sl ∧ True) ∧ True)))))) ∧ True) := by
  kernel_rfl
theorem hwords_run (cursor mp ml qu fr ln se sl : Int) (hc : (0 ≤ cursor ∧ cursor ≤ 18446744073709551615) ∧ (0 ≤ mp ∧ mp ≤ 18446744073709551615) ∧ (0 ≤ qu ∧ qu ≤ 18446744073709551615) ∧ (0 ≤ se ∧ se ≤ 18446744073709551615)) : Run (callN Try.prog ([rgtS, drgtS] : List (Smry Try.prog XE)) (fun _ _ => false) 100 20 127 [.c (.int false .u64 cursor), .agg [.int false .u64 mp, .int false .i64 ml, .int false .u64 qu, .int false .i64 fr, .int false .i64 ln, .int false .u64 se, .int false .i64 sl]] ⟨[], 100⟩ (bN 12) (fun v m _ => nthO (wordsOuts (headB cursor mp ml qu fr ln se sl) 8 (row8 cursor mp ml qu fr ln se sl)) ((pickN) v) v m)) := by
  constructor
  rw [hwords_vc]
  obtain ⟨h0, h1, h2, h3⟩ := hc

  repeat' first
    | with_reducible apply And.intro
    | with_reducible exact trivial
    | (intro h; first | with_reducible have hq := of_decide_eq_true h | with_reducible have hq := of_decide_eq_false h | with_reducible have hq := beq_eq_false_iff_ne.1 h | with_reducible have hq := bne_iff_ne.1 h | with_reducible have hq := bne_eq_false_iff_eq.1 h | (have hq := h; simp only [Bool.not_eq_true', Bool.not_eq_false', decide_eq_true_eq, decide_eq_false_iff_not, beq_iff_eq, beq_eq_false_iff_ne, ne_eq] at hq) | with_reducible have hq := eq_of_beq h)
    | intro _
    | with_reducible refine Exists.intro Un.mk ?_
    | with_reducible exact Eq.refl _
    | (have hv := verB_bd (by assumption); omega)
    | omega
  all_goals first
    | (simp [headB, *]; done)
    | (simp [headB, lnkB, *]; done)
    | (have e : respB (note % 4294967296) = false := decide_eq_false (by omega); simp [entB, e]; done)
    | (have e : decide (0 ≤ slot ∧ slot ≤ 254) = false := decide_eq_false (by omega); simp only [entB, e, Bool.false_and, Bool.and_false]; done)
    | (have e : respB (note % 4294967296) = true := decide_eq_true (by omega); have e2 : decide (0 ≤ slot ∧ slot ≤ 254) = true := decide_eq_true (by omega); simp only [entB, e, e2, Bool.true_and]; first | assumption | (simp [lnkB, *]; done))
    | (simp [entB, lnkB, *]; done)
    | (simp [entB, *]; done)
    | omega
    | skip
def hwordsS : Smry Try.prog XE := outS 127 (fun args => match args with
  | [.c (.int _ .u64 cursor _), .agg [.int _ .u64 mp _, .int _ .i64 ml _, .int _ .u64 qu _, .int _ .i64 fr _, .int _ .i64 ln _, .int _ .u64 se _, .int _ .i64 sl _]] => some ([.c (.int false .u64 cursor), .agg [.int false .u64 mp, .int false .i64 ml, .int false .u64 qu, .int false .i64 fr, .int false .i64 ln, .int false .u64 se, .int false .i64 sl]], (0 ≤ cursor ∧ cursor ≤ 18446744073709551615) ∧ (0 ≤ mp ∧ mp ≤ 18446744073709551615) ∧ (0 ≤ qu ∧ qu ≤ 18446744073709551615) ∧ (0 ≤ se ∧ se ≤ 18446744073709551615), wordsOuts (headB cursor mp ml qu fr ln se sl) 8 (row8 cursor mp ml qu fr ln se sl))
  | _ => none)
  ⟨(by intro args na c os h ν; split at h <;> first | (cases h; rfl) | cases h), (by intro args na c os h hc; split at h <;> first | (cases h; exact ⟨([rgtS, drgtS] : List (Smry Try.prog XE)), _, _, _, _, _, hwords_run _ _ _ _ _ _ _ _ hc⟩) | cases h)⟩
/-- What the executor leaves to be shown of roundelay/head.EntryWords, written out. -/
theorem hentw_vc (slot note next : Int) : (callN Try.prog ([rgtS] : List (Smry Try.prog XE)) (fun _ _ => false) 100 20 129 [.agg [.int false .i64 slot, .int false .u64 note, .int false .u64 next]] ⟨[], 100⟩ (bN 16) (fun v m _ => nthO (wordsOuts (entB slot note next) 3 (row3 slot note next)) ((pickN) v) v m)) = (
    ((0 : Int) ≤ note ∧ (0 : Int) ≤ note ∧ note < (18446744073709551616 : Int)) ∧ ((note % (4294967296 : Int) / (4294967296 : Int) != (0 : Int)) = true → ∃ (z : Un), entB slot note next
    = false ∧ True) ∧ ((note % (4294967296 : Int) / (4294967296 : Int) != (0 : Int)) = false → (decide (note % (4294967296 : Int) / (268435456 : Int) ≤ (5 : Int)) = true → ((note %
    (4294967296 : Int) % (268435456 : Int) == (0 : Int)) = true → (decide (slot < (0 : Int)) = true → ∃ (z : Un), entB slot note next = false ∧ True) ∧ (decide (slot < (0 : Int)) =
    false → (decide (slot ≥ (255 : Int)) = true → ∃ (z : Un), entB slot note next = false ∧ True) ∧ (decide (slot ≥ (255 : Int)) = false → ((next != (0 : Int)) = true → ((0 : Int) ≤
    next ∧ next ≤ (18446744073709551615 : Int)) ∧ (∀ (z : Un), True → ((!rgtB next) = true → ∃ (z : Un), entB slot note next = false ∧ True) ∧ ((!rgtB next) = false → ((0 : Int) ≤ slot
    ∧ slot < (18446744073709551616 : Int)) ∧ ∃ (z : Un), entB slot note next = true ∧ (0 : Nat) = (0 : Nat) ∧ (3 : Nat) = (3 : Nat) ∧ (slot = slot ∧ note = note ∧ next = next ∧ True) ∧
    True)) ∧ True) ∧ ((next != (0 : Int)) = false → ((0 : Int) ≤ slot ∧ slot < (18446744073709551616 : Int)) ∧ ∃ (z : Un), entB slot note next = true ∧ (0 : Nat) = (0 : Nat) ∧ (3 : Nat)
    = (3 : Nat) ∧ (slot = slot ∧ note = note ∧ next = next ∧ True) ∧ True)))) ∧ ((note % (4294967296 : Int) % (268435456 : Int) == (0 : Int)) = false → ((note % (4294967296 : Int) /
    (268435456 : Int) == (0 : Int)) = true → (decide (slot < (0 : Int)) = true → ∃ (z : Un), entB slot note next = false ∧ True) ∧ (decide (slot < (0 : Int)) = false → (decide (slot ≥
    (255 : Int)) = true → ∃ (z : Un), entB slot note next = false ∧ True) ∧ (decide (slot ≥ (255 : Int)) = false → ((next != (0 : Int)) = true → ((0 : Int) ≤ next ∧ next ≤
    (18446744073709551615 : Int)) ∧ (∀ (z : Un), True → ((!rgtB next) = true → ∃ (z : Un), entB slot note next = false ∧ True) ∧ ((!rgtB next) = false → ((0 : Int) ≤ slot ∧ slot <
    (18446744073709551616 : Int)) ∧ ∃ (z : Un), entB slot note next = true ∧ (0 : Nat) = (0 : Nat) ∧ (3 : Nat) = (3 : Nat) ∧ (slot = slot ∧ note = note ∧ next = next ∧ True) ∧ True)) ∧
    True) ∧ ((next != (0 : Int)) = false → ((0 : Int) ≤ slot ∧ slot < (18446744073709551616 : Int)) ∧ ∃ (z : Un), entB slot note next = true ∧ (0 : Nat) = (0 : Nat) ∧ (3 : Nat) = (3 :
    Nat) ∧ (slot = slot ∧ note = note ∧ next = next ∧ True) ∧ True)))) ∧ ((note % (4294967296 : Int) / (268435456 : Int) == (0 : Int)) = false → ((!note % (4294967296 : Int) /
    (268435456 : Int) == (4 : Int)) = true → ∃ (z : Un), entB slot note next = false ∧ True) ∧ ((!note % (4294967296 : Int) / (268435456 : Int) == (4 : Int)) = false → (decide (slot <
    (0 : Int)) = true → ∃ (z : Un), entB slot note next = false ∧ True) ∧ (decide (slot < (0 : Int)) = false → (decide (slot ≥ (255 : Int)) = true → ∃ (z : Un), entB slot note next =
    false ∧ True) ∧ (decide (slot ≥ (255 : Int)) = false → ((next != (0 : Int)) = true → ((0 : Int) ≤ next ∧ next ≤ (18446744073709551615 : Int)) ∧ (∀ (z : Un), True → ((!rgtB next) =
    true → ∃ (z : Un), entB slot note next = false ∧ True) ∧ ((!rgtB next) = false → ((0 : Int) ≤ slot ∧ slot < (18446744073709551616 : Int)) ∧ ∃ (z : Un), entB slot note next = true ∧
    (0 : Nat) = (0 : Nat) ∧ (3 : Nat) = (3 : Nat) ∧ (slot = slot ∧ note = note ∧ next = next ∧ True) ∧ True)) ∧ True) ∧ ((next != (0 : Int)) = false → ((0 : Int) ≤ slot ∧ slot <
    (18446744073709551616 : Int)) ∧ ∃ (z : Un), entB slot note next = true ∧ (0 : Nat) = (0 : Nat) ∧ (3 : Nat) = (3 : Nat) ∧ (slot = slot ∧ note = note ∧ next = next ∧ True) ∧
    True))))))) ∧ (decide (note % (4294967296 : Int) / (268435456 : Int) ≤ (5 : Int)) = false → ∃ (z : Un), entB slot note next = false ∧ True))) := by
  kernel_rfl
theorem hentw_run (slot note next : Int) (hc : (0 ≤ note ∧ note ≤ 18446744073709551615) ∧ (0 ≤ next ∧ next ≤ 18446744073709551615)) : Run (callN Try.prog ([rgtS] : List (Smry Try.prog XE)) (fun _ _ => false) 100 20 129 [.agg [.int false .i64 slot, .int false .u64 note, .int false .u64 next]] ⟨[], 100⟩ (bN 16) (fun v m _ => nthO (wordsOuts (entB slot note next) 3 (row3 slot note next)) ((pickN) v) v m)) := by
  constructor
  rw [hentw_vc]
  obtain ⟨h0, h1⟩ := hc

  repeat' first
    | with_reducible apply And.intro
    | with_reducible exact trivial
    | (intro h; first | with_reducible have hq := of_decide_eq_true h | with_reducible have hq := of_decide_eq_false h | with_reducible have hq := beq_eq_false_iff_ne.1 h | with_reducible have hq := bne_iff_ne.1 h | with_reducible have hq := bne_eq_false_iff_eq.1 h | (have hq := h; simp only [Bool.not_eq_true', Bool.not_eq_false', decide_eq_true_eq, decide_eq_false_iff_not, beq_iff_eq, beq_eq_false_iff_ne, ne_eq] at hq) | with_reducible have hq := eq_of_beq h)
    | intro _
    | with_reducible refine Exists.intro Un.mk ?_
    | with_reducible exact Eq.refl _
    | (have hv := verB_bd (by assumption); omega)
    | omega
  all_goals first
    | (simp [headB, *]; done)
    | (simp [headB, lnkB, *]; done)
    | (have e : respB (note % 4294967296) = false := decide_eq_false (by omega); simp [entB, e]; done)
    | (have e : decide (0 ≤ slot ∧ slot ≤ 254) = false := decide_eq_false (by omega); simp only [entB, e, Bool.false_and, Bool.and_false]; done)
    | (have e : respB (note % 4294967296) = true := decide_eq_true (by omega); have e2 : decide (0 ≤ slot ∧ slot ≤ 254) = true := decide_eq_true (by omega); simp only [entB, e, e2, Bool.true_and]; first | assumption | (simp [lnkB, *]; done))
    | (simp [entB, lnkB, *]; done)
    | (simp [entB, *]; done)
    | omega
    | skip
def hentwS : Smry Try.prog XE := outS 129 (fun args => match args with
  | [.agg [.int _ .i64 slot _, .int _ .u64 note _, .int _ .u64 next _]] => some ([.agg [.int false .i64 slot, .int false .u64 note, .int false .u64 next]], (0 ≤ note ∧ note ≤ 18446744073709551615) ∧ (0 ≤ next ∧ next ≤ 18446744073709551615), wordsOuts (entB slot note next) 3 (row3 slot note next))
  | _ => none)
  ⟨(by intro args na c os h ν; split at h <;> first | (cases h; rfl) | cases h), (by intro args na c os h hc; split at h <;> first | (cases h; exact ⟨([rgtS] : List (Smry Try.prog XE)), _, _, _, _, _, hentw_run _ _ _ hc⟩) | cases h)⟩
/-- What the executor leaves to be shown of roundelay/roundelayref09.Entry, written out. -/
theorem rentw_vc (slot note next : Int) : (callN Try.prog ([rlnkS] : List (Smry Try.prog XE)) (fun _ _ => false) 100 20 191 [.agg [.int false .i64 slot, .int false .u64 note, .int false .u64 next]] ⟨[], 100⟩ (bN 16) (fun v m _ => nthO (wordsOuts (entB slot note next) 3 (row3 slot note next)) ((pickN) v) v m)) = (
    ((0 : Int) ≤ note ∧ (0 : Int) < (4294967296 : Int)) ∧ (decide (note % (4294967296 : Int) / (268435456 : Int) > (5 : Int)) = true → ∃ (z : Un), entB slot note next = false ∧ True) ∧
    (decide (note % (4294967296 : Int) / (268435456 : Int) > (5 : Int)) = false → ((note % (4294967296 : Int) % (268435456 : Int) == (0 : Int)) = true → (decide (slot < (0 : Int)) =
    true → ∃ (z : Un), entB slot note next = false ∧ True) ∧ (decide (slot < (0 : Int)) = false → (decide (slot > (254 : Int)) = true → ∃ (z : Un), entB slot note next = false ∧ True) ∧
    (decide (slot > (254 : Int)) = false → ((0 : Int) ≤ next ∧ next ≤ (18446744073709551615 : Int)) ∧ (∀ (z : Un), True → ((!lnkB next) = true → ∃ (z : Un), entB slot note next = false
    ∧ True) ∧ ((!lnkB next) = false → ((0 : Int) ≤ slot ∧ slot < (18446744073709551616 : Int)) ∧ ∃ (z : Un), entB slot note next = true ∧ (0 : Nat) = (0 : Nat) ∧ (3 : Nat) = (3 : Nat) ∧
    (slot = slot ∧ note = note ∧ next = next ∧ True) ∧ True)) ∧ True))) ∧ ((note % (4294967296 : Int) % (268435456 : Int) == (0 : Int)) = false → ((note % (4294967296 : Int) /
    (268435456 : Int) == (0 : Int)) = true → (decide (slot < (0 : Int)) = true → ∃ (z : Un), entB slot note next = false ∧ True) ∧ (decide (slot < (0 : Int)) = false → (decide (slot >
    (254 : Int)) = true → ∃ (z : Un), entB slot note next = false ∧ True) ∧ (decide (slot > (254 : Int)) = false → ((0 : Int) ≤ next ∧ next ≤ (18446744073709551615 : Int)) ∧ (∀ (z :
    Un), True → ((!lnkB next) = true → ∃ (z : Un), entB slot note next = false ∧ True) ∧ ((!lnkB next) = false → ((0 : Int) ≤ slot ∧ slot < (18446744073709551616 : Int)) ∧ ∃ (z : Un),
    entB slot note next = true ∧ (0 : Nat) = (0 : Nat) ∧ (3 : Nat) = (3 : Nat) ∧ (slot = slot ∧ note = note ∧ next = next ∧ True) ∧ True)) ∧ True))) ∧ ((note % (4294967296 : Int) /
    (268435456 : Int) == (0 : Int)) = false → ((!note % (4294967296 : Int) / (268435456 : Int) == (4 : Int)) = true → ∃ (z : Un), entB slot note next = false ∧ True) ∧ ((!note %
    (4294967296 : Int) / (268435456 : Int) == (4 : Int)) = false → (decide (slot < (0 : Int)) = true → ∃ (z : Un), entB slot note next = false ∧ True) ∧ (decide (slot < (0 : Int)) =
    false → (decide (slot > (254 : Int)) = true → ∃ (z : Un), entB slot note next = false ∧ True) ∧ (decide (slot > (254 : Int)) = false → ((0 : Int) ≤ next ∧ next ≤
    (18446744073709551615 : Int)) ∧ (∀ (z : Un), True → ((!lnkB next) = true → ∃ (z : Un), entB slot note next = false ∧ True) ∧ ((!lnkB next) = false → ((0 : Int) ≤ slot ∧ slot <
    (18446744073709551616 : Int)) ∧ ∃ (z : Un), entB slot note next = true ∧ (0 : Nat) = (0 : Nat) ∧ (3 : Nat) = (3 : Nat) ∧ (slot = slot ∧ note = note ∧ next = next ∧ True) ∧ True)) ∧
    True))))))) := by
  kernel_rfl
theorem rentw_run (slot note next : Int) (hc : (0 ≤ note ∧ note ≤ 18446744073709551615) ∧ (0 ≤ next ∧ next ≤ 18446744073709551615)) : Run (callN Try.prog ([rlnkS] : List (Smry Try.prog XE)) (fun _ _ => false) 100 20 191 [.agg [.int false .i64 slot, .int false .u64 note, .int false .u64 next]] ⟨[], 100⟩ (bN 16) (fun v m _ => nthO (wordsOuts (entB slot note next) 3 (row3 slot note next)) ((pickN) v) v m)) := by
  constructor
  rw [rentw_vc]
  obtain ⟨h0, h1⟩ := hc

  repeat' first
    | with_reducible apply And.intro
    | with_reducible exact trivial
    | (intro h; first | with_reducible have hq := of_decide_eq_true h | with_reducible have hq := of_decide_eq_false h | with_reducible have hq := beq_eq_false_iff_ne.1 h | with_reducible have hq := bne_iff_ne.1 h | with_reducible have hq := bne_eq_false_iff_eq.1 h | (have hq := h; simp only [Bool.not_eq_true', Bool.not_eq_false', decide_eq_true_eq, decide_eq_false_iff_not, beq_iff_eq, beq_eq_false_iff_ne, ne_eq] at hq) | with_reducible have hq := eq_of_beq h)
    | intro _
    | with_reducible refine Exists.intro Un.mk ?_
    | with_reducible exact Eq.refl _
    | (have hv := verB_bd (by assumption); omega)
    | omega
  all_goals first
    | (simp [headB, *]; done)
    | (simp [headB, lnkB, *]; done)
    | (have e : respB (note % 4294967296) = false := decide_eq_false (by omega); simp [entB, e]; done)
    | (have e : decide (0 ≤ slot ∧ slot ≤ 254) = false := decide_eq_false (by omega); simp only [entB, e, Bool.false_and, Bool.and_false]; done)
    | (have e : respB (note % 4294967296) = true := decide_eq_true (by omega); have e2 : decide (0 ≤ slot ∧ slot ≤ 254) = true := decide_eq_true (by omega); simp only [entB, e, e2, Bool.true_and]; first | assumption | (simp [lnkB, *]; done))
    | (simp [entB, lnkB, *]; done)
    | (simp [entB, *]; done)
    | omega
    | skip
def rentwS : Smry Try.prog XE := outS 191 (fun args => match args with
  | [.agg [.int _ .i64 slot _, .int _ .u64 note _, .int _ .u64 next _]] => some ([.agg [.int false .i64 slot, .int false .u64 note, .int false .u64 next]], (0 ≤ note ∧ note ≤ 18446744073709551615) ∧ (0 ≤ next ∧ next ≤ 18446744073709551615), wordsOuts (entB slot note next) 3 (row3 slot note next))
  | _ => none)
  ⟨(by intro args na c os h ν; split at h <;> first | (cases h; rfl) | cases h), (by intro args na c os h hc; split at h <;> first | (cases h; exact ⟨([rlnkS] : List (Smry Try.prog XE)), _, _, _, _, _, rentw_run _ _ _ hc⟩) | cases h)⟩
/-- A word as a number; one that is too great is below nothing. -/
def smF (w : Int) : Int := if 256 < w then -1 else w
def smOuts (w : Int) : List (Out XE) := [Out.one (.c (.int false .i64 (smF w)))]
/-- What the executor leaves to be shown of roundelay/head.small, written out. -/
theorem hsmall_vc (w : Int) : (callN Try.prog ([] : List (Smry Try.prog XE)) (fun _ _ => false) 100 20 188 [.c (.int false .u64 w)] ⟨[], 100⟩ (bN 3) (fun v m _ => nthO (smOuts w) ((fun _ => 0) v) v m)) = (
    (decide (w > (256 : Int)) = true → ∃ (z : Un), True ∧ smF w = (-1 : Int) ∧ True) ∧ (decide (w > (256 : Int)) = false → ((-9223372036854775808 : Int) ≤ w ∧ w ≤ (9223372036854775807 :
    Int)) ∧ ∃ (z : Un), True ∧ smF w = w ∧ True)) := by
  kernel_rfl
theorem hsmall_run (w : Int) (hc : 0 ≤ w ∧ w ≤ 18446744073709551615) : Run (callN Try.prog ([] : List (Smry Try.prog XE)) (fun _ _ => false) 100 20 188 [.c (.int false .u64 w)] ⟨[], 100⟩ (bN 3) (fun v m _ => nthO (smOuts w) ((fun _ => 0) v) v m)) := by
  constructor
  rw [hsmall_vc]
  obtain ⟨h0, h1⟩ := hc
  unfold smF

  repeat' first
    | with_reducible apply And.intro
    | with_reducible exact trivial
    | (intro h; first | with_reducible have hq := of_decide_eq_true h | with_reducible have hq := of_decide_eq_false h | with_reducible have hq := eq_of_beq h | with_reducible have hq := beq_eq_false_iff_ne.1 h | with_reducible have hq := bne_iff_ne.1 h | with_reducible have hq := bne_eq_false_iff_eq.1 h | (have hq := h; simp only [Bool.not_eq_true', Bool.not_eq_false', decide_eq_true_eq, decide_eq_false_iff_not, beq_iff_eq, beq_eq_false_iff_ne, ne_eq] at hq))
    | intro _
    | with_reducible refine Exists.intro Un.mk ?_
    | with_reducible exact Eq.refl _
  all_goals first
    | omega
    | (symm; exact decide_eq_true (by omega))
    | (symm; exact decide_eq_false (by omega))
    | exact decide_eq_decide.2 (by omega)
    | (simp only [hq, decide_true, Bool.true_or]; done)
    | (simp only [hq, decide_false, Bool.false_or]; done)
    | exact decide_eq_true (by omega)
    | exact decide_eq_false (by omega)
    | skip

  all_goals first
    | (rw [if_pos (by omega)]; done)
    | (rw [if_neg (by omega)]; done)
def hsmallS : Smry Try.prog XE := outS 188 (fun args => match args with
  | [.c (.int _ .u64 w _)] => some ([.c (.int false .u64 w)], 0 ≤ w ∧ w ≤ 18446744073709551615, smOuts w)
  | _ => none)
  ⟨(by intro args na c os h ν; split at h <;> first | (cases h; rfl) | cases h), (by intro args na c os h hc; split at h <;> first | (cases h; exact ⟨([] : List (Smry Try.prog XE)), _, _, _, _, _, hsmall_run _ hc⟩) | cases h)⟩
end Go.Proofs.Ytnfpkadepomjjaa

/- An entry's words, read: as plain data, and as they lie in memory. -/
namespace Go.Proofs.Ytnfpkadepomjjaa
open Go Go.RowKit
set_option maxRecDepth 1000000
set_option maxHeartbeats 0
/-- An entry's words are right; what they are. -/
def enOkF (n : Nat) (f : Nat → Int) : Bool := match n with
  | 3 => entB (smF (f 0)) (f 1) (f 2)
  | _ => false
theorem enOkF_no {n : Nat} {f : Nat → Int} (h : n ≠ 3) : enOkF n f = false := by
  unfold enOkF
  split
  · exact absurd rfl h
  · rfl
def enSF (n : Nat) (f : Nat → Int) : Int := if enOkF n f = true then smF (f 0) else 0
def enNF (n : Nat) (f : Nat → Int) : Int := if enOkF n f = true then f 1 else 0
def enXF (n : Nat) (f : Nat → Int) : Int := if enOkF n f = true then f 2 else 0
def enRes (n : Nat) (f : Nat → Int) : SV := .tup [(true, [.int false .i64 (enSF n f), .int false .u64 (enNF n f), .int false .u64 (enXF n f)]), (false, [.boo false (enOkF n f)])]
def tblE : List (Smry Try.prog XE) := [hentwS, hsmallS]
/-- What the executor leaves to be shown of roundelay/head.ReadEntry, written out. -/
theorem readRow_vc (n cap : Nat) (f : Nat → Int) : (callN Try.prog (tblE : List (Smry Try.prog XE)) (fun _ _ => false) 100 20 130 [.c (.sli 0 1 true 0 false n cap)] ⟨[(0, .ints 25 .u64 n cap f)], 100⟩ (.nil) (fun v m _ => outM (enRes n f) [(0, .ints 25 .u64 n cap f)] v m)) = (
    (((↑n : Int) != (3 : Int)) = true → enSF n f = (0 : Int) ∧ enNF n f = (0 : Int) ∧ enXF n f = (0 : Int) ∧ enOkF n f = false ∧ (n = n ∧ cap = cap ∧ ∀ (i : Nat), i < n → f i = f i) ∧
    True) ∧ (((↑n : Int) != (3 : Int)) = false → ((0 : Int) ≤ (0 : Int) ∧ (0 : Int) < (↑n : Int)) ∧ (0 : Nat) < n ∧ ((0 : Int) ≤ (1 : Int) ∧ (1 : Int) < (↑n : Int)) ∧ (1 : Nat) < n ∧
    ((0 : Int) ≤ (2 : Int) ∧ (2 : Int) < (↑n : Int)) ∧ (2 : Nat) < n ∧ (((0 : Int) ≤ f (0 : Nat) ∧ f (0 : Nat) ≤ (18446744073709551615 : Int)) ∧ (∀ (z : Un), True → n = n ∧ cap = cap ∧
    f = f ∧ (n = n ∧ cap = cap ∧ f = f ∧ ((((0 : Int) ≤ f (1 : Nat) ∧ f (1 : Nat) ≤ (18446744073709551615 : Int)) ∧ (0 : Int) ≤ f (2 : Nat) ∧ f (2 : Nat) ≤ (18446744073709551615 : Int))
    ∧ (∀ (z : Un), entB (smF (f (0 : Nat))) (f (1 : Nat)) (f (2 : Nat)) = false → enSF n f = (0 : Int) ∧ enNF n f = (0 : Int) ∧ enXF n f = (0 : Int) ∧ enOkF n f = false ∧ (n = n ∧ cap =
    cap ∧ ∀ (i : Nat), i < n → f i = f i) ∧ True) ∧ (∀ (z : Un), entB (smF (f (0 : Nat))) (f (1 : Nat)) (f (2 : Nat)) = true → enSF n f = smF (f (0 : Nat)) ∧ enNF n f = f (1 : Nat) ∧
    enXF n f = f (2 : Nat) ∧ enOkF n f = true ∧ (n = n ∧ cap = cap ∧ ∀ (i : Nat), i < n → f i = f i) ∧ True) ∧ True) ∧ True) ∧ True) ∧ True) ∧ (∀ (K : KO XE), ((0 : Int) ≤ f (0 : Nat) ∧
    f (0 : Nat) ≤ (18446744073709551615 : Int)) ∧ (∀ (z : Un), True → n = n ∧ cap = cap ∧ f = f ∧ (n = n ∧ cap = cap ∧ f = f ∧ K (SF.mk (31 : Nat) (ST.node (SV.c (SC.sli (0 : Nat) (1 :
    Nat) true (0 : Nat) false n cap)) (ST.node (SV.tup []) (ST.node (SV.c (SC.boo true false)) (ST.node (SV.c (SC.sli (0 : Nat) (1 : Nat) true (0 : Nat) false n cap)) (ST.node (SV.c
    (SC.sli (0 : Nat) (1 : Nat) true (0 : Nat) false n cap)) ST.nil ST.nil) (ST.node (SV.tup []) ST.nil ST.nil)) (ST.node (SV.c (SC.sli (0 : Nat) (1 : Nat) true (0 : Nat) false n cap))
    (ST.node (SV.c (SC.elp (0 : Nat) (2 : Nat) (1 : Nat) (0 : Nat))) ST.nil ST.nil) (ST.node (SV.tup []) ST.nil ST.nil))) (ST.node (SV.tup []) (ST.node (SV.c (SC.boo true false))
    (ST.node (SV.c (SC.int false IntKind.u64 (f (1 : Nat)) Bd.any)) ST.nil ST.nil) (ST.node (SV.tup []) ST.nil ST.nil)) (ST.node (SV.c (SC.int false IntKind.u64 (f (0 : Nat)) Bd.any))
    (ST.node (SV.agg [SC.int false IntKind.i64 (smF (f (0 : Nat))) Bd.any, SC.int false IntKind.u64 (f (1 : Nat)) Bd.any, SC.int false IntKind.u64 (f (2 : Nat)) Bd.any]) ST.nil ST.nil)
    (ST.node (SV.tup []) ST.nil ST.nil)))) (ST.node (SV.c (SC.ptr (100 : Nat) (0 : Nat))) (ST.node (SV.c (SC.ptr (116 : Nat) (0 : Nat))) (ST.node (SV.c (SC.int false IntKind.i64 (↑n :
    Int))) (ST.node (SV.c (SC.elp (0 : Nat) (1 : Nat) (1 : Nat) (0 : Nat))) ST.nil ST.nil) (ST.node (SV.tup []) ST.nil ST.nil)) (ST.node (SV.c (SC.elp (0 : Nat) (0 : Nat) (1 : Nat) (0 :
    Nat))) (ST.node (SV.c (SC.int false IntKind.u64 (f (2 : Nat)) Bd.any)) ST.nil ST.nil) (ST.node (SV.tup []) ST.nil ST.nil))) (ST.node (SV.tup []) (ST.node (SV.tup []) (ST.node (SV.c
    (SC.sli (0 : Nat) (1 : Nat) true (0 : Nat) false n cap)) ST.nil ST.nil) (ST.node (SV.tup []) ST.nil ST.nil)) (ST.node (SV.c (SC.int false IntKind.i64 (smF (f (0 : Nat))) Bd.any))
    (ST.node (SV.tup []) ST.nil ST.nil) (ST.node (SV.tup []) ST.nil ST.nil))))) []) (Mem.mk [((0 : Nat), SO.ints (OfNat.ofNat (25 : Nat)) IntKind.u64 n cap f), ((100 : Nat), SO.cells
    [SC.int true IntKind.i64 (0 : Int), SC.int true IntKind.u64 (0 : Int), SC.int true IntKind.u64 (0 : Int)] (119 : Nat)), ((116 : Nat), SO.cells [SC.int false IntKind.i64 (smF (f (0 :
    Nat))) Bd.any, SC.int false IntKind.u64 (f (1 : Nat)) Bd.any, SC.int false IntKind.u64 (f (2 : Nat)) Bd.any] (119 : Nat))] (118 : Nat)) Scr.nil ∧ True) ∧ True) ∧ True → n = n ∧ cap
    = cap ∧ f = f ∧ (((0 : Int) ≤ f (0 : Nat) ∧ f (0 : Nat) ≤ (18446744073709551615 : Int)) ∧ (∀ (z : Un), True → n = n ∧ cap = cap ∧ f = f ∧ K (SF.mk (31 : Nat) (ST.node (SV.c (SC.sli
    (0 : Nat) (1 : Nat) true (0 : Nat) false n cap)) (ST.node (SV.tup []) (ST.node (SV.c (SC.boo true false)) (ST.node (SV.c (SC.sli (0 : Nat) (1 : Nat) true (0 : Nat) false n cap))
    (ST.node (SV.c (SC.sli (0 : Nat) (1 : Nat) true (0 : Nat) false n cap)) ST.nil ST.nil) (ST.node (SV.tup []) ST.nil ST.nil)) (ST.node (SV.c (SC.sli (0 : Nat) (1 : Nat) true (0 : Nat)
    false n cap)) (ST.node (SV.c (SC.elp (0 : Nat) (2 : Nat) (1 : Nat) (0 : Nat))) ST.nil ST.nil) (ST.node (SV.tup []) ST.nil ST.nil))) (ST.node (SV.tup []) (ST.node (SV.c (SC.boo true
    false)) (ST.node (SV.c (SC.int false IntKind.u64 (f (1 : Nat)) Bd.any)) ST.nil ST.nil) (ST.node (SV.tup []) ST.nil ST.nil)) (ST.node (SV.c (SC.int false IntKind.u64 (f (0 : Nat))
    Bd.any)) (ST.node (SV.agg [SC.int false IntKind.i64 (smF (f (0 : Nat))) Bd.any, SC.int false IntKind.u64 (f (1 : Nat)) Bd.any, SC.int false IntKind.u64 (f (2 : Nat)) Bd.any]) ST.nil
    ST.nil) (ST.node (SV.tup []) ST.nil ST.nil)))) (ST.node (SV.c (SC.ptr (100 : Nat) (0 : Nat))) (ST.node (SV.c (SC.ptr (116 : Nat) (0 : Nat))) (ST.node (SV.c (SC.int false IntKind.i64
    (↑n : Int))) (ST.node (SV.c (SC.elp (0 : Nat) (1 : Nat) (1 : Nat) (0 : Nat))) ST.nil ST.nil) (ST.node (SV.tup []) ST.nil ST.nil)) (ST.node (SV.c (SC.elp (0 : Nat) (0 : Nat) (1 :
    Nat) (0 : Nat))) (ST.node (SV.c (SC.int false IntKind.u64 (f (2 : Nat)) Bd.any)) ST.nil ST.nil) (ST.node (SV.tup []) ST.nil ST.nil))) (ST.node (SV.tup []) (ST.node (SV.tup [])
    (ST.node (SV.c (SC.sli (0 : Nat) (1 : Nat) true (0 : Nat) false n cap)) ST.nil ST.nil) (ST.node (SV.tup []) ST.nil ST.nil)) (ST.node (SV.c (SC.int false IntKind.i64 (smF (f (0 :
    Nat))) Bd.any)) (ST.node (SV.tup []) ST.nil ST.nil) (ST.node (SV.tup []) ST.nil ST.nil))))) []) (Mem.mk [((0 : Nat), SO.ints (OfNat.ofNat (25 : Nat)) IntKind.u64 n cap f), ((100 :
    Nat), SO.cells [SC.int true IntKind.i64 (0 : Int), SC.int true IntKind.u64 (0 : Int), SC.int true IntKind.u64 (0 : Int)] (119 : Nat)), ((116 : Nat), SO.cells [SC.int false
    IntKind.i64 (smF (f (0 : Nat))) Bd.any, SC.int false IntKind.u64 (f (1 : Nat)) Bd.any, SC.int false IntKind.u64 (f (2 : Nat)) Bd.any] (119 : Nat))] (118 : Nat)) Scr.nil ∧ True) ∧
    True) ∧ True) ∧ True)) := by
  kernel_rfl
theorem readRow_run (n cap : Nat) (f : Nat → Int) (hc : ∀ i, i < n → 0 ≤ f i ∧ f i ≤ 18446744073709551615) : Run (callN Try.prog (tblE : List (Smry Try.prog XE)) (fun _ _ => false) 100 20 130 [.c (.sli 0 1 true 0 false n cap)] ⟨[(0, .ints 25 .u64 n cap f)], 100⟩ (.nil) (fun v m _ => outM (enRes n f) [(0, .ints 25 .u64 n cap f)] v m)) := by
  constructor
  rw [readRow_vc]
  repeat' first
    | with_reducible apply And.intro
    | with_reducible exact trivial
    | with_reducible assumption
    | with_reducible exact Eq.refl _
    | (intro (K : KO XE); simp only [eq_self, true_and, and_true, forall_const, true_implies, and_imp]; intros; (repeat' first | with_reducible apply And.intro | with_reducible assumption); done)
    | (intro hh; first | with_reducible have hq := of_decide_eq_true hh | with_reducible have hq := of_decide_eq_false hh | with_reducible have hq := beq_eq_false_iff_ne.1 hh | with_reducible have hq := bne_iff_ne.1 hh | with_reducible have hq := bne_eq_false_iff_eq.1 hh | skip)
  all_goals first
    | omega
    | exact (hc _ (by omega)).1
    | exact (hc _ (by omega)).2
    | (have h3 : n = 3 := by omega
       subst h3
       have hb := ‹entB _ _ _ = true›
       have e : enOkF 3 f = true := hb
       first | exact e | exact if_pos e)
    | (have h3 : n = 3 := by omega
       subst h3
       have hb := ‹entB _ _ _ = false›
       have e : enOkF 3 f = false := hb
       first | exact e | exact if_neg (by rw [e]; exact Bool.false_ne_true))
    | (have e : enOkF n f = false := enOkF_no (by omega)
       first | exact e | exact if_neg (by rw [e]; exact Bool.false_ne_true))
    | exact Int.le_trans (by decide) (hc _ (by omega)).1
    | skip
/-- What the executor leaves to be shown of roundelay/head.ReadEntry, written out. -/
theorem readNil_vc (f : Nat → Int) : (callN Try.prog (tblE : List (Smry Try.prog XE)) (fun _ _ => false) 100 20 130 [.c .nls] ⟨[], 100⟩ (.nil) (fun v m _ => outM (enRes 0 f) [] v m)) = (
    enSF (0 : Nat) f = (0 : Int) ∧ enNF (0 : Nat) f = (0 : Int) ∧ enXF (0 : Nat) f = (0 : Int) ∧ enOkF (0 : Nat) f = false ∧ True) := by
  kernel_rfl
theorem readNil_run (f : Nat → Int) (hc : True) : Run (callN Try.prog (tblE : List (Smry Try.prog XE)) (fun _ _ => false) 100 20 130 [.c .nls] ⟨[], 100⟩ (.nil) (fun v m _ => outM (enRes 0 f) [] v m)) := by
  constructor
  rw [readNil_vc]
  repeat' first
    | with_reducible apply And.intro
    | with_reducible exact trivial
    | exact Eq.refl _
/-- An entry's words, as a list. -/
def wsF (ws : List Nat) (i : Nat) : Int := ((ws.getD i 0 : Nat) : Int)
theorem readEntry_row (v : Value) (ws : List Nat) (hw : ∀ x ∈ ws, x < TW) (w : World) {R : Assn} (H : Sat w (rowAt 25 v (u64s ws) * R)) :
    Calls Try.prog 130 #[v] w fun e w' => e = .returned ((enRes ws.length (wsF ws)).den fun _ => 0) ∧ Sat w' (rowAt 25 v (u64s ws) * R) ∧ Kept w w' := by
  have hn : (enRes ws.length (wsF ws)).names = [] := rfl
  have hlen : (u64s ws).length = ws.length := by simp [u64s]
  by_cases hv : v = .slice none 0 0
  · subst hv
    have hz : ws = [] := by
      rcases rowAt_open H with ⟨_, h, _⟩ | ⟨g, cap, cur, he, _⟩
      · exact List.length_eq_zero_iff.1 (by rw [← hlen, h]; rfl)
      · cases he
    subst hz
    have H1 : Sat w ((⟨[], 100⟩ : Mem XE).hp.den (fun _ => 0) * (rowAt 25 (.slice none 0 0) (u64s []) * R)) := by
      simp only [SH.den]
      rw [Assn.one_mul]
      exact H
    have h := callN_ok namesOk mixed _ _ _ _ _ _ _ _ _ (readNil_run (wsF []) trivial).out (fun _ => 0) w _ w H1 (Kept.refl w)
    refine Calls.mono (h : Calls Try.prog 130 #[.slice none 0 0] w _) ?_
    rintro e w' ⟨r, m', s', ξ, hv, _, _, he, hs, hk⟩
    obtain ⟨κ, _, hd, hs2⟩ := outM_sound hv hs
    refine ⟨by rw [he, hd]; rfl, ?_, hk⟩
    simp only [SH.den] at hs2
    rw [Assn.one_mul] at hs2
    exact hs2
  · rw [rowAt_rowK, hlen] at H
    obtain ⟨g, cap, rfl, hcap, H2⟩ := rowK_head H hv
    have e1 : u64s ws = intsOf .u64 ws.length (wsF ws) := by
      unfold u64s intsOf wsF
      rw [Go.Deep.map_by_index ws 0]
    have H1 : Sat w ((⟨[(0, .ints 25 .u64 ws.length cap (wsF ws))], 100⟩ : Mem XE).hp.den (fun _ => g) * R) := by
      simp only [SH.den, SO.den]
      rw [Assn.mul_comm _ (1 : Assn), Assn.one_mul, ← e1]
      exact H2
    have hc : ∀ i, i < ws.length → 0 ≤ wsF ws i ∧ wsF ws i ≤ 18446744073709551615 := by
      intro i hi
      have := hw (ws.getD i 0) (by rw [List.getD_eq_getElem?_getD, List.getElem?_eq_getElem hi]; exact List.getElem_mem _)
      unfold TW at this
      unfold wsF
      omega
    have h := callN_ok namesOk mixed _ _ _ _ _ _ _ _ _ (readRow_run ws.length cap (wsF ws) hc).out (fun _ => g) w _ w H1 (Kept.refl w)
    have ea : (List.map (SV.den fun _ => g) [.c (.sli 0 1 true 0 false ws.length cap)]).toArray = #[.slice (some ⟨g, 0, none⟩) ws.length cap] := by simp [SV.den, SC.den]
    rw [ea] at h
    refine h.mono ?_
    rintro e w' ⟨r, m', s', ξ, hv, ag, _, he, hs, hk⟩
    obtain ⟨κ, ag2, hd, hs2⟩ := outM_sound hv hs
    refine ⟨by rw [he, hd]; rfl, ?_, hk⟩
    simp only [SH.den, SO.den] at hs2
    rw [Assn.mul_comm _ (1 : Assn), Assn.one_mul, ← e1, ag2 0 (by decide), ag 0 (show 0 < 100 by decide)] at hs2
    rw [rowAt_rowK, hlen]
    have := head_rowK hs2 (Nat.le_refl ws.length)
    rw [Nat.mul_one, List.take_of_length_le (by omega)] at this
    exact this
end Go.Proofs.Ytnfpkadepomjjaa

/- Entries, one by the next of the other: the loop of head.through, by the executor. -/
namespace Go.Proofs.Ytnfpkadepomjjaa
open Go Go.RowKit
set_option maxRecDepth 1000000
set_option maxHeartbeats 0
/-- The words of a handle. -/
def hwds (ks : List (Nat × List Nat)) (c : Nat) : List Nat := match ks.find? (fun b => b.1 == c) with
  | some b => b.2
  | none => []
abbrev Ent : Type := Nat × Int × Int × Int
def entE (ks : List (Nat × List Nat)) (c : Nat) : Ent := (c, enSF (hwds ks c).length (wsF (hwds ks c)), enNF (hwds ks c).length (wsF (hwds ks c)), enXF (hwds ks c).length (wsF (hwds ks c)))
/-- Entries, one by the next of the other. -/
def chainF (ks : List (Nat × List Nat)) : Nat → Nat → List Ent → Option (List Ent)
  | 0, _, _ => none
  | k + 1, c, l => if c = 0 then some l else if enOkF (hwds ks c).length (wsF (hwds ks c)) = true ∧ l.length < 1000 then chainF ks k (enXF (hwds ks c).length (wsF (hwds ks c))).toNat (l ++ [entE ks c]) else none
/-- Rows of words, wherever. -/
def XR : EXT where
  X := Wds
  den := fun _ _ xs => wrows xs
  names := fun _ => []
  ren := fun _ x => x
  law := fun _ _ _ _ _ => rfl
  rlaw := fun _ _ _ _ => rfl
def HasW (xs : Wds) (v : Value) (ws : List Nat) : Prop := ((v = .slice none 0 0 ∧ ws = []) ∨ ∃ h, (h, ws, v) ∈ xs) ∧ ∀ z ∈ ws, z < TW
def extOf : SH XR → Option Wds
  | [] => none
  | (_, .ext xs) :: _ => some xs
  | _ :: h => extOf h
theorem extOf_den {ν : Nat → Nat} {xs : Wds} : ∀ {h : SH XR}, extOf h = some xs → ∃ Q : Assn, h.den ν = wrows xs * Q
  | [], h => by simp [extOf] at h
  | (n, o) :: h, hs => by
    have next : extOf h = some xs → ∃ Q : Assn, SH.den ν ((n, o) :: h) = wrows xs * Q := fun hs => by
      obtain ⟨Q, hQ⟩ := extOf_den (ν := ν) hs
      exact ⟨o.den ν (ν n) * Q, by simp only [SH.den]; rw [hQ]; ac_rfl⟩
    cases o with
    | ext x =>
      have hs := Option.some.inj hs
      subst hs
      exact ⟨SH.den ν h, rfl⟩
    | _ => exact next hs
def readEntR : Smry Try.prog XR where
  g := 130
  run := fun args m K => match args with
    | [.c (.raw v)] => match extOf m.hp with
      | some xs => ∃ ws, HasW xs v ws ∧ K (enRes ws.length (wsF ws)) m
      | none => Stuck 860
    | _ => Stuck 861
  ok := fun args m K hr => by
    split at hr <;> try exact hr.elim
    rename_i v
    split at hr <;> try exact hr.elim
    rename_i xs hxs
    obtain ⟨ws, ⟨hv, hw⟩, hk⟩ := hr
    intro ν w R w0 Hs HK
    obtain ⟨Q, hQ⟩ := extOf_den (ν := ν) hxs
    have hn : (enRes ws.length (wsF ws)).names = [] := rfl
    rcases hv with ⟨rfl, rfl⟩ | ⟨h, hm⟩
    · have H1 := rowAt_nil (T := 25) Hs
      refine (readEntry_row (.slice none 0 0) [] (by simp) w H1).mono ?_
      rintro e w' ⟨he, hs, hk'⟩
      exact ⟨_, m, ν, hk, Agree.refl _ _, Nat.le_refl _, by rw [he]; rfl, hs.right, HK.trans hk'⟩
    · obtain ⟨l1, l2, hx⟩ := List.append_of_mem hm
      have hwm := wrows_mid l1 l2 (h, ws, v)
      rw [← hx] at hwm
      rw [hQ, hwm] at Hs
      have H1 : Sat w (rowAt 25 v (u64s ws) * (wrows (l1 ++ l2) * Q * R)) := Hs.cast (by ac_rfl)
      refine (readEntry_row v ws hw w H1).mono ?_
      rintro e w' ⟨he, hs, hk'⟩
      refine ⟨_, m, ν, hk, Agree.refl _ _, Nat.le_refl _, by rw [he]; rfl, ?_, HK.trans hk'⟩
      rw [hQ, hwm]
      exact hs.cast (by ac_rfl)
/-- The loop of a function that has a region. -/
def findLoop (id : Nat) : Code → Option Code
  | .loop c => bif hasRegion id c then some (.loop c) else none
  | .seq a b => match findLoop id a with
    | some c => some c
    | none => findLoop id b
  | .cond _ a b => match findLoop id a with
    | some c => some c
    | none => findLoop id b
  | .block _ c => findLoop id c
  | .scope c => findLoop id c
  | _ => none
def loopOf (P : Program) (g : FuncId) (id : Nat) : Code := match ((P.funcs[g]?).bind (·.body)).bind (findLoop id) with
  | some c => c
  | none => .skip
theorem getD_app {l : List Ent} {e d : Ent} {i : Nat} (h : i < (l ++ [e]).length) : (l ++ [e]).getD i d = if i < l.length then l.getD i d else e := by
  simp only [List.getD_eq_getElem?_getD, List.getElem?_append]
  split
  · rfl
  · have : i = l.length := by simp at h; omega
    subst this
    simp
structure HSt where
  c : Nat
  l : List Ent
  cap1 : Nat
  cap2 : Nat
structure HOk (ks : List (Nat × List Nat)) (c0 : Nat) (s : HSt) : Prop where
  c : s.c < TW
  l : s.l.length ≤ 1000
  ch : chainF ks (1001 - s.l.length) s.c s.l = chainF ks 1001 c0 []
inductive HY (ks : List (Nat × List Nat)) (c0 : Nat) where
  | z (x : {s : HSt // HOk ks c0 s ∧ s.l = []})
  | s (x : {s : HSt // HOk ks c0 s ∧ s.l ≠ []})
def HY.st {ks : List (Nat × List Nat)} {c0 : Nat} : HY ks c0 → HSt
  | .z x => x.1
  | .s x => x.1
def embsH (ks : List (Nat × List Nat)) (c0 : Nat) : List (Emb (HY ks c0)) := [⟨_, HY.z⟩, ⟨_, HY.s⟩]
theorem embsH_cover {ks : List (Nat × List Nat)} {c0 : Nat} (y : HY ks c0) : coverE y (embsH ks c0) := by
  cases y with
  | z x => exact .inl ⟨x, rfl⟩
  | s x => exact .inr (.inl ⟨x, rfl⟩)
theorem hasW_hwds {xs : Wds} (hw : ∀ b ∈ xs, ∀ z ∈ b.2.1, z < TW) (c : Nat) : HasW xs ((look (xs.map went) (c : Int)).getD (.slice none 0 0)) (hwds (xs.map keyW) c) := by
  rw [look_went]
  unfold hwds
  rw [find_keyW]
  cases hf : xs.find? (fun b => b.1 == c) with
  | none => exact ⟨.inl ⟨rfl, rfl⟩, fun z hz => by cases hz⟩
  | some b =>
    have hm := List.mem_of_find?_eq_some hf
    exact ⟨.inr ⟨b.1, hm⟩, fun z hz => hw b hm z hz⟩
theorem enX_nat {ws : List Nat} (hw : ∀ z ∈ ws, z < TW) : ∃ n : Nat, enXF ws.length (wsF ws) = n ∧ n < TW := by
  unfold enXF
  split
  · rename_i h
    have h3 : ws.length = 3 := by
      by_cases h3 : ws.length = 3
      · exact h3
      · rw [enOkF_no h3] at h; cases h
    refine ⟨ws.getD 2 0, rfl, hw _ ?_⟩
    rw [List.getD_eq_getElem?_getD, List.getElem?_eq_getElem (by omega)]
    exact List.getElem_mem _
  · exact ⟨0, rfl, by unfold TW; omega⟩
section
variable {ks : List (Nat × List Nat)} {c0 : Nat} {s : HSt}
theorem chain_step (h : HOk ks c0 s) (hc : s.c ≠ 0) : chainF ks 1001 c0 [] = if enOkF (hwds ks s.c).length (wsF (hwds ks s.c)) = true ∧ s.l.length < 1000 then chainF ks (1000 - s.l.length) (enXF (hwds ks s.c).length (wsF (hwds ks s.c))).toNat (s.l ++ [entE ks s.c]) else none := by
  rw [← h.ch, show 1001 - s.l.length = 1000 - s.l.length + 1 by have := h.l; omega]
  show (if s.c = 0 then _ else _) = _
  rw [if_neg hc]
theorem chain_end (h : HOk ks c0 s) (hc : s.c = 0) : chainF ks 1001 c0 [] = some s.l := by
  rw [← h.ch, show 1001 - s.l.length = 1000 - s.l.length + 1 by have := h.l; omega]
  exact if_pos hc
theorem chain_no (h : HOk ks c0 s) (hc : s.c ≠ 0) (hn : enOkF (hwds ks s.c).length (wsF (hwds ks s.c)) = false) : chainF ks 1001 c0 [] = none := by
  rw [chain_step h hc, if_neg]
  rintro ⟨h1, _⟩
  rw [hn] at h1; cases h1
theorem chain_full (h : HOk ks c0 s) (hc : s.c ≠ 0) (hl : 1000 ≤ s.l.length) : chainF ks 1001 c0 [] = none := by
  rw [chain_step h hc, if_neg]
  rintro ⟨_, h1⟩
  omega
theorem HOk.next (h : HOk ks c0 s) (hw : ∀ z ∈ hwds ks s.c, z < TW) (hc : s.c ≠ 0) (ho : enOkF (hwds ks s.c).length (wsF (hwds ks s.c)) = true) (hl : s.l.length < 1000) (cap1 cap2 : Nat) :
    HOk ks c0 ⟨(enXF (hwds ks s.c).length (wsF (hwds ks s.c))).toNat, s.l ++ [entE ks s.c], cap1, cap2⟩ := by
  refine ⟨?_, ?_, ?_⟩
  · obtain ⟨n, e, hn⟩ := enX_nat hw
    show (enXF _ _).toNat < TW
    rw [e]
    exact hn
  · show (s.l ++ [_]).length ≤ 1000
    simp; omega
  · rw [chain_step h hc, if_pos ⟨ho, hl⟩]
    show chainF ks (1001 - (s.l ++ [_]).length) _ _ = _
    rw [show 1001 - (s.l ++ [entE ks s.c]).length = 1000 - s.l.length by simp]
end
def entV (l : List Ent) (i : Nat) : List Value := [.int .i64 (l.getD i (0, 0, 0, 0)).2.1, .int .u64 (l.getD i (0, 0, 0, 0)).2.2.1, .int .u64 (l.getD i (0, 0, 0, 0)).2.2.2]
def entC (l : List Ent) (i : Nat) : Int := ((l.getD i (0, 0, 0, 0)).1 : Nat)
def rowsH (n : Nat) (s : HSt) : List (Nat × SO XR) := [(n, .vals 119 3 s.l.length s.cap1 (entV s.l)), (n + 1, .ints 25 .u64 s.l.length s.cap2 (entC s.l))]
def sli1 (n : Nat) (s : HSt) : SV := .c (.sli n 3 true 0 false s.l.length s.cap1)
def sli2 (n : Nat) (s : HSt) : SV := .c (.sli n 1 true 0 false s.l.length s.cap2)
def invH (ks : List (Nat × List Nat)) (c0 n : Nat) : HY ks c0 → List (Nat × SV) × List (Nat × SO XR)
  | .z x => ([(1, .c (.int false .u64 (x.1.c : Int))), (10, .c .nls), (11, .c .nls)], [])
  | .s x => ([(1, .c (.int false .u64 (x.1.c : Int))), (10, sli1 n x.1), (11, sli2 (n + 1) x.1)], rowsH n x.1)
def selH (f : SF) (_ : SH XR) : Nat := match f.at 10 with
  | .c .nls => 0
  | _ => 1
def loopH (ks : List (Nat × List Nat)) (c0 : Nat) : Scr XR := .invs (liveL [1, 7, 10, 11]) [] (HY ks c0) (embsH ks c0) selH (invH ks c0) (fun y => 1001 - y.st.l.length) (fun _ => .nil)
def f0H (pv : Value) (cur : Nat) (fv : Value) (dd : Deferred) : SF := SF.tab 50 (fun i => [.c (.raw pv), .c (.int false .u64 (cur : Int)), SV.und, SV.und, .c .nls, .c .nls, .c (.boo true false), .c (.ptr 0 0), SV.und, SV.und, .c .nls, .c .nls, SV.und, SV.und, .c (.map 1), .c (.raw pv), .c (.raw fv), SV.und, SV.und, SV.und, SV.und, SV.und, SV.und, SV.und, SV.und, SV.und, SV.und, SV.und, SV.und, SV.und, SV.und, SV.und, SV.und, SV.und, SV.und, SV.und, SV.und, SV.und, SV.und, SV.und, SV.und, SV.und, SV.und, SV.und, SV.und, SV.und, SV.und, SV.und, SV.und, SV.und].getD i SV.und) [dd]
def m0H (xs : Wds) : Mem XR := ⟨[(0, .cells [.map 1] 218), (1, .mp true (xs.map went)), (2, .ext xs)], 10⟩
/-- What the loop leaves: its slices; or nothing. -/
def endH (ks : List (Nat × List Nat)) (c0 : Nat) (f0 : SF) : KC XR := fun e f m _ => match e with
  | .exit 2 => match f.at 10 with
    | .c .nls => chainF ks 1001 c0 [] = some [] ∧ closeE 300 (liveL []) f0 [] ([(10, .c .nls), (11, .c .nls)], []) f m.hp
    | _ => ∃ s : HSt, chainF ks 1001 c0 [] = some s.l ∧ closeE 300 (liveL []) f0 [] ([(10, sli1 310 s), (11, sli2 311 s)], rowsH 310 s) f m.hp
  | .ret => chainF ks 1001 c0 [] = none ∧ closeE 300 (liveL []) f0 [] ([(4, .c .nls), (5, .c .nls), (6, .c (.boo true false))], []) f m.hp
  | _ => Stuck 862
/-- What the executor leaves to be shown of loopHd, written out. -/
theorem loopHd_vc (pv : Value) (cur : Nat) (fv : Value) (dd : Deferred) (xs : Wds) : (codeE Try.prog (callN Try.prog [readEntR] (fun _ _ => false) 100 20) (fun _ => false) 100 (loopOf Try.prog 131 8) (f0H pv cur fv dd) (m0H xs) (loopH (xs.map keyW) cur) (endH (xs.map keyW) cur (f0H pv cur fv dd))) = (
    (∀ (y : HY (List.map keyW xs) cur), (∃ (z : (Emb.mk { s : HSt // HOk (List.map keyW xs) cur s ∧ s.l = [] } HY.z).Z), HY.z z = y) ∨ (∃ (z : (Emb.mk { s : HSt // HOk (List.map keyW
    xs) cur s ∧ s.l ≠ [] } HY.s).Z), HY.s z = y) ∨ False) ∧ (∃ (z : (Emb.mk { s : HSt // HOk (List.map keyW xs) cur s ∧ s.l = [] } HY.z).Z), [dd] = [dd] ∧ List.map went xs = List.map
    went xs ∧ xs = xs ∧ (↑z.val.c : Int) = (↑cur : Int) ∧ True) ∧ (∀ (z : (Emb.mk { s : HSt // HOk (List.map keyW xs) cur s ∧ s.l = [] } HY.z).Z) (ρ : Nat → Value), (((↑z.val.c : Int)
    != (0 : Int)) = true → ∃ (ws : List Nat), HasW xs ((look (List.map went xs) (↑z.val.c : Int)).getD (Value.slice none (0 : Nat) (0 : Nat))) ws ∧ ((!enOkF ws.length (wsF ws)) = true →
    chainF (List.map keyW xs) (1001 : Nat) cur [] = none ∧ [dd] = [dd] ∧ True) ∧ ((!enOkF ws.length (wsF ws)) = false → (enSF ws.length (wsF ws) = enSF ws.length (wsF ws) ∧ enNF
    ws.length (wsF ws) = enNF ws.length (wsF ws) ∧ enXF ws.length (wsF ws) = enXF ws.length (wsF ws) ∧ (True ∧ True ∧ (1 : Nat) ≤ (1000000000 : Nat) ∧ ∀ (cap : Nat), (1 : Nat) ≤ cap →
    enSF ws.length (wsF ws) = enSF ws.length (wsF ws) ∧ enNF ws.length (wsF ws) = enNF ws.length (wsF ws) ∧ enXF ws.length (wsF ws) = enXF ws.length (wsF ws) ∧ (enSF ws.length (wsF ws)
    = enSF ws.length (wsF ws) ∧ enNF ws.length (wsF ws) = enNF ws.length (wsF ws) ∧ enXF ws.length (wsF ws) = enXF ws.length (wsF ws) ∧ (True ∧ True ∧ (1 : Nat) ≤ (1000000000 : Nat) ∧ ∀
    (cap_1 : Nat), (1 : Nat) ≤ cap_1 → enSF ws.length (wsF ws) = enSF ws.length (wsF ws) ∧ enNF ws.length (wsF ws) = enNF ws.length (wsF ws) ∧ enXF ws.length (wsF ws) = enXF ws.length
    (wsF ws) ∧ ∃ (z_1 : (Emb.mk { s : HSt // HOk (List.map keyW xs) cur s ∧ s.l ≠ [] } HY.s).Z), (1001 : Nat) - ((Emb.mk { s : HSt // HOk (List.map keyW xs) cur s ∧ s.l ≠ [] } HY.s).e
    z_1).st.l.length < (1001 : Nat) - ((Emb.mk { s : HSt // HOk (List.map keyW xs) cur s ∧ s.l = [] } HY.z).e z).st.l.length ∧ [dd] = [dd] ∧ List.map went xs = List.map went xs ∧ xs =
    xs ∧ (↑z_1.val.c : Int) = enXF ws.length (wsF ws) ∧ (0 : Nat) = (0 : Nat) ∧ z_1.val.l.length = (1 : Nat) ∧ z_1.val.cap1 = cap ∧ (0 : Nat) = (0 : Nat) ∧ z_1.val.l.length = (1 : Nat)
    ∧ z_1.val.cap2 = cap_1 ∧ (z_1.val.l.length = (1 : Nat) ∧ z_1.val.cap1 = cap ∧ (3 : Nat) = (3 : Nat) ∧ [Value.int IntKind.i64 (z_1.val.l.getD (0 : Nat) ((0 : Nat), (0 : Int), (0 :
    Int), (0 : Int))).snd.fst, Value.int IntKind.u64 (z_1.val.l.getD (0 : Nat) ((0 : Nat), (0 : Int), (0 : Int), (0 : Int))).snd.snd.fst, Value.int IntKind.u64 (z_1.val.l.getD (0 : Nat)
    ((0 : Nat), (0 : Int), (0 : Int), (0 : Int))).snd.snd.snd] = [Value.int IntKind.i64 (enSF ws.length (wsF ws)), Value.int IntKind.u64 (enNF ws.length (wsF ws)), Value.int IntKind.u64
    (enXF ws.length (wsF ws))] ∧ True) ∧ (z_1.val.l.length = (1 : Nat) ∧ z_1.val.cap2 = cap_1 ∧ entC z_1.val.l (0 : Nat) = (↑z.val.c : Int) ∧ True) ∧ True) ∧ True) ∧ True) ∧ (∀ (K : KO
    XR), (fun X0 : (Nat) → (Nat) → Prop => (True ∧ True ∧ (1 : Nat) ≤ (1000000000 : Nat) ∧ ∀ (cap : Nat), (1 : Nat) ≤ cap → enSF ws.length (wsF ws) = enSF ws.length (wsF ws) ∧ enNF
    ws.length (wsF ws) = enNF ws.length (wsF ws) ∧ enXF ws.length (wsF ws) = enXF ws.length (wsF ws) ∧ (enSF ws.length (wsF ws) = enSF ws.length (wsF ws) ∧ enNF ws.length (wsF ws) =
    enNF ws.length (wsF ws) ∧ enXF ws.length (wsF ws) = enXF ws.length (wsF ws) ∧ (True ∧ True ∧ (1 : Nat) ≤ (1000000000 : Nat) ∧ ∀ (cap_1 : Nat), (1 : Nat) ≤ cap_1 → enSF ws.length
    (wsF ws) = enSF ws.length (wsF ws) ∧ enNF ws.length (wsF ws) = enNF ws.length (wsF ws) ∧ enXF ws.length (wsF ws) = enXF ws.length (wsF ws) ∧ (X0 cap cap_1)) ∧ True) ∧ True) → enSF
    ws.length (wsF ws) = enSF ws.length (wsF ws) ∧ enNF ws.length (wsF ws) = enNF ws.length (wsF ws) ∧ enXF ws.length (wsF ws) = enXF ws.length (wsF ws) ∧ (True ∧ True ∧ (1 : Nat) ≤
    (1000000000 : Nat) ∧ ∀ (cap : Nat), (1 : Nat) ≤ cap → enSF ws.length (wsF ws) = enSF ws.length (wsF ws) ∧ enNF ws.length (wsF ws) = enNF ws.length (wsF ws) ∧ enXF ws.length (wsF ws)
    = enXF ws.length (wsF ws) ∧ (True ∧ True ∧ (1 : Nat) ≤ (1000000000 : Nat) ∧ ∀ (cap_1 : Nat), (1 : Nat) ≤ cap_1 → enSF ws.length (wsF ws) = enSF ws.length (wsF ws) ∧ enNF ws.length
    (wsF ws) = enNF ws.length (wsF ws) ∧ enXF ws.length (wsF ws) = enXF ws.length (wsF ws) ∧ (X0 cap cap_1)) ∧ True) ∧ True) (fun (cap : Nat) (cap_1 : Nat) => K (SF.mk (50 : Nat)
    (ST.node (SV.c (SC.raw (ρ (0 : Nat)))) (ST.node (SV.c (SC.int false IntKind.u64 (enXF ws.length (wsF ws)))) (ST.node (SV.c (SC.raw (ρ (3 : Nat)))) (ST.node (SV.c (SC.ptr (0 : Nat)
    (0 : Nat))) (ST.node (SV.c (SC.raw (ρ (15 : Nat)))) (ST.node (SV.c (SC.boo false (enOkF ws.length (wsF ws)))) ST.nil ST.nil) (ST.node (SV.c (SC.int false IntKind.u64 (enXF ws.length
    (wsF ws)))) ST.nil ST.nil)) (ST.node (SV.c (SC.boo true true)) (ST.node (SV.agg [SC.int false IntKind.i64 (enSF ws.length (wsF ws)), SC.int false IntKind.u64 (enNF ws.length (wsF
    ws)), SC.int false IntKind.u64 (enXF ws.length (wsF ws))]) ST.nil ST.nil) ST.nil)) (ST.node (SV.c (SC.sli (68 : Nat) (1 : Nat) true (0 : Nat) true (1 : Nat) cap_1)) (ST.node (SV.c
    (SC.raw (ρ (19 : Nat)))) (ST.node (SV.c (SC.int true IntKind.i64 (0 : Int))) ST.nil ST.nil) ST.nil) (ST.node (SV.c (SC.raw ((look (List.map went xs) (↑z.val.c : Int)).getD
    (Value.slice none (0 : Nat) (0 : Nat))))) (ST.node (SV.c (SC.int false IntKind.u64 (↑z.val.c : Int))) ST.nil ST.nil) ST.nil))) (ST.node (SV.c (SC.raw (ρ (5 : Nat)))) (ST.node (SV.c
    (SC.raw (ρ (9 : Nat)))) (ST.node (SV.c (SC.raw (ρ (17 : Nat)))) (ST.node (SV.c (SC.boo true false)) ST.nil ST.nil) (ST.node (SV.c (SC.raw (ρ (49 : Nat)))) ST.nil ST.nil)) (ST.node
    (SV.c (SC.map (1 : Nat))) (ST.node (SV.c (SC.sli (64 : Nat) (3 : Nat) true (0 : Nat) true (1 : Nat) cap)) ST.nil ST.nil) ST.nil)) (ST.node (SV.c (SC.boo false (enOkF ws.length (wsF
    ws)))) (ST.node (SV.c (SC.raw (ρ (21 : Nat)))) (ST.node (SV.c (SC.boo true false)) ST.nil ST.nil) ST.nil) (ST.node (SV.agg [SC.int false IntKind.i64 (enSF ws.length (wsF ws)),
    SC.int false IntKind.u64 (enNF ws.length (wsF ws)), SC.int false IntKind.u64 (enXF ws.length (wsF ws))]) (ST.node (SV.c (SC.sli (68 : Nat) (1 : Nat) true (0 : Nat) true (1 : Nat)
    cap_1)) ST.nil ST.nil) ST.nil)))) (ST.node (SV.c (SC.raw (ρ (2 : Nat)))) (ST.node (SV.c (SC.raw (ρ (4 : Nat)))) (ST.node (SV.c (SC.raw (ρ (8 : Nat)))) (ST.node (SV.c (SC.raw (ρ (16
    : Nat)))) (ST.node (SV.c (SC.boo false !enOkF ws.length (wsF ws))) ST.nil ST.nil) (ST.node (SV.c (SC.raw (ρ (48 : Nat)))) ST.nil ST.nil)) (ST.node (SV.tup [(true, [SC.int false
    IntKind.i64 (enSF ws.length (wsF ws)), SC.int false IntKind.u64 (enNF ws.length (wsF ws)), SC.int false IntKind.u64 (enXF ws.length (wsF ws))]), (false, [SC.boo false (enOkF
    ws.length (wsF ws))])]) (ST.node (SV.c (SC.sli (63 : Nat) (3 : Nat) true (0 : Nat) true (1 : Nat) (1 : Nat))) ST.nil ST.nil) ST.nil)) (ST.node (SV.c (SC.ptr (51 : Nat) (0 : Nat)))
    (ST.node (SV.c (SC.raw (ρ (20 : Nat)))) (ST.node (SV.c (SC.boo true false)) ST.nil ST.nil) ST.nil) (ST.node (SV.tup [(true, [SC.int false IntKind.i64 (enSF ws.length (wsF ws)),
    SC.int false IntKind.u64 (enNF ws.length (wsF ws)), SC.int false IntKind.u64 (enXF ws.length (wsF ws))]), (false, [SC.boo false (enOkF ws.length (wsF ws))])]) (ST.node (SV.c (SC.sli
    (67 : Nat) (1 : Nat) true (0 : Nat) true (1 : Nat) (1 : Nat))) ST.nil ST.nil) ST.nil))) (ST.node (SV.c (SC.raw (ρ (6 : Nat)))) (ST.node (SV.c (SC.sli (64 : Nat) (3 : Nat) true (0 :
    Nat) true (1 : Nat) cap)) (ST.node (SV.c (SC.raw (ρ (18 : Nat)))) (ST.node (SV.c SC.nls) ST.nil ST.nil) ST.nil) (ST.node (SV.c (SC.int false IntKind.u64 (↑z.val.c : Int))) (ST.node
    (SV.c SC.nls) ST.nil ST.nil) ST.nil)) (ST.node (SV.c (SC.raw (ρ (14 : Nat)))) (ST.node (SV.c (SC.int false IntKind.u64 (↑z.val.c : Int))) (ST.node (SV.c SC.nls) ST.nil ST.nil)
    ST.nil) (ST.node (SV.c (SC.boo false (enOkF ws.length (wsF ws)))) (ST.node (SV.c (SC.ptr (51 : Nat) (2 : Nat))) ST.nil ST.nil) ST.nil))))) [dd]) (Mem.mk [((0 : Nat), SO.cells
    [SC.map (1 : Nat)] (OfNat.ofNat (218 : Nat))), ((1 : Nat), SO.mp true (List.map went xs)), ((2 : Nat), SO.ext xs), ((51 : Nat), SO.cells [SC.int false IntKind.i64 (enSF ws.length
    (wsF ws)), SC.int false IntKind.u64 (enNF ws.length (wsF ws)), SC.int false IntKind.u64 (enXF ws.length (wsF ws))] (119 : Nat)), ((63 : Nat), SO.cells [SC.int false IntKind.i64
    (enSF ws.length (wsF ws)), SC.int false IntKind.u64 (enNF ws.length (wsF ws)), SC.int false IntKind.u64 (enXF ws.length (wsF ws))] (119 : Nat)), ((64 : Nat), SO.row (119 : Nat) (3 :
    Nat) (1 : Nat) cap [SC.int false IntKind.i64 (enSF ws.length (wsF ws)), SC.int false IntKind.u64 (enNF ws.length (wsF ws)), SC.int false IntKind.u64 (enXF ws.length (wsF ws))]),
    ((67 : Nat), SO.cells [SC.int false IntKind.u64 (↑z.val.c : Int)] (25 : Nat)), ((68 : Nat), SO.row (25 : Nat) (1 : Nat) (1 : Nat) cap_1 [SC.int false IntKind.u64 (↑z.val.c : Int)])]
    (61 : Nat)) Scr.nil)) ∧ True) ∧ (∀ (K : KO XR), (fun X0 : (Nat) → (Nat) → Prop => enSF ws.length (wsF ws) = enSF ws.length (wsF ws) ∧ enNF ws.length (wsF ws) = enNF ws.length (wsF
    ws) ∧ enXF ws.length (wsF ws) = enXF ws.length (wsF ws) ∧ (True ∧ True ∧ (1 : Nat) ≤ (1000000000 : Nat) ∧ ∀ (cap : Nat), (1 : Nat) ≤ cap → enSF ws.length (wsF ws) = enSF ws.length
    (wsF ws) ∧ enNF ws.length (wsF ws) = enNF ws.length (wsF ws) ∧ enXF ws.length (wsF ws) = enXF ws.length (wsF ws) ∧ (enSF ws.length (wsF ws) = enSF ws.length (wsF ws) ∧ enNF
    ws.length (wsF ws) = enNF ws.length (wsF ws) ∧ enXF ws.length (wsF ws) = enXF ws.length (wsF ws) ∧ (True ∧ True ∧ (1 : Nat) ≤ (1000000000 : Nat) ∧ ∀ (cap_1 : Nat), (1 : Nat) ≤ cap_1
    → enSF ws.length (wsF ws) = enSF ws.length (wsF ws) ∧ enNF ws.length (wsF ws) = enNF ws.length (wsF ws) ∧ enXF ws.length (wsF ws) = enXF ws.length (wsF ws) ∧ (X0 cap cap_1)) ∧ True)
    ∧ True) ∧ (∀ (K : KO XR), (fun X1 : (Nat) → (Nat) → Prop => (True ∧ True ∧ (1 : Nat) ≤ (1000000000 : Nat) ∧ ∀ (cap : Nat), (1 : Nat) ≤ cap → enSF ws.length (wsF ws) = enSF ws.length
    (wsF ws) ∧ enNF ws.length (wsF ws) = enNF ws.length (wsF ws) ∧ enXF ws.length (wsF ws) = enXF ws.length (wsF ws) ∧ (enSF ws.length (wsF ws) = enSF ws.length (wsF ws) ∧ enNF
    ws.length (wsF ws) = enNF ws.length (wsF ws) ∧ enXF ws.length (wsF ws) = enXF ws.length (wsF ws) ∧ (True ∧ True ∧ (1 : Nat) ≤ (1000000000 : Nat) ∧ ∀ (cap_1 : Nat), (1 : Nat) ≤ cap_1
    → enSF ws.length (wsF ws) = enSF ws.length (wsF ws) ∧ enNF ws.length (wsF ws) = enNF ws.length (wsF ws) ∧ enXF ws.length (wsF ws) = enXF ws.length (wsF ws) ∧ (X1 cap cap_1)) ∧ True)
    ∧ True) → enSF ws.length (wsF ws) = enSF ws.length (wsF ws) ∧ enNF ws.length (wsF ws) = enNF ws.length (wsF ws) ∧ enXF ws.length (wsF ws) = enXF ws.length (wsF ws) ∧ (True ∧ True ∧
    (1 : Nat) ≤ (1000000000 : Nat) ∧ ∀ (cap : Nat), (1 : Nat) ≤ cap → enSF ws.length (wsF ws) = enSF ws.length (wsF ws) ∧ enNF ws.length (wsF ws) = enNF ws.length (wsF ws) ∧ enXF
    ws.length (wsF ws) = enXF ws.length (wsF ws) ∧ (True ∧ True ∧ (1 : Nat) ≤ (1000000000 : Nat) ∧ ∀ (cap_1 : Nat), (1 : Nat) ≤ cap_1 → enSF ws.length (wsF ws) = enSF ws.length (wsF ws)
    ∧ enNF ws.length (wsF ws) = enNF ws.length (wsF ws) ∧ enXF ws.length (wsF ws) = enXF ws.length (wsF ws) ∧ (X1 cap cap_1)) ∧ True) ∧ True) (fun (cap : Nat) (cap_1 : Nat) => K (SF.mk
    (50 : Nat) (ST.node (SV.c (SC.raw (ρ (0 : Nat)))) (ST.node (SV.c (SC.int false IntKind.u64 (enXF ws.length (wsF ws)))) (ST.node (SV.c (SC.raw (ρ (3 : Nat)))) (ST.node (SV.c (SC.ptr
    (0 : Nat) (0 : Nat))) (ST.node (SV.c (SC.raw (ρ (15 : Nat)))) (ST.node (SV.c (SC.boo false (enOkF ws.length (wsF ws)))) ST.nil ST.nil) (ST.node (SV.c (SC.int false IntKind.u64 (enXF
    ws.length (wsF ws)))) ST.nil ST.nil)) (ST.node (SV.c (SC.boo true true)) (ST.node (SV.agg [SC.int false IntKind.i64 (enSF ws.length (wsF ws)), SC.int false IntKind.u64 (enNF
    ws.length (wsF ws)), SC.int false IntKind.u64 (enXF ws.length (wsF ws))]) ST.nil ST.nil) ST.nil)) (ST.node (SV.c (SC.sli (68 : Nat) (1 : Nat) true (0 : Nat) true (1 : Nat) cap_1))
    (ST.node (SV.c (SC.raw (ρ (19 : Nat)))) (ST.node (SV.c (SC.int true IntKind.i64 (0 : Int))) ST.nil ST.nil) ST.nil) (ST.node (SV.c (SC.raw ((look (List.map went xs) (↑z.val.c :
    Int)).getD (Value.slice none (0 : Nat) (0 : Nat))))) (ST.node (SV.c (SC.int false IntKind.u64 (↑z.val.c : Int))) ST.nil ST.nil) ST.nil))) (ST.node (SV.c (SC.raw (ρ (5 : Nat))))
    (ST.node (SV.c (SC.raw (ρ (9 : Nat)))) (ST.node (SV.c (SC.raw (ρ (17 : Nat)))) (ST.node (SV.c (SC.boo true false)) ST.nil ST.nil) (ST.node (SV.c (SC.raw (ρ (49 : Nat)))) ST.nil
    ST.nil)) (ST.node (SV.c (SC.map (1 : Nat))) (ST.node (SV.c (SC.sli (64 : Nat) (3 : Nat) true (0 : Nat) true (1 : Nat) cap)) ST.nil ST.nil) ST.nil)) (ST.node (SV.c (SC.boo false
    (enOkF ws.length (wsF ws)))) (ST.node (SV.c (SC.raw (ρ (21 : Nat)))) (ST.node (SV.c (SC.boo true false)) ST.nil ST.nil) ST.nil) (ST.node (SV.agg [SC.int false IntKind.i64 (enSF
    ws.length (wsF ws)), SC.int false IntKind.u64 (enNF ws.length (wsF ws)), SC.int false IntKind.u64 (enXF ws.length (wsF ws))]) (ST.node (SV.c (SC.sli (68 : Nat) (1 : Nat) true (0 :
    Nat) true (1 : Nat) cap_1)) ST.nil ST.nil) ST.nil)))) (ST.node (SV.c (SC.raw (ρ (2 : Nat)))) (ST.node (SV.c (SC.raw (ρ (4 : Nat)))) (ST.node (SV.c (SC.raw (ρ (8 : Nat)))) (ST.node
    (SV.c (SC.raw (ρ (16 : Nat)))) (ST.node (SV.c (SC.boo false !enOkF ws.length (wsF ws))) ST.nil ST.nil) (ST.node (SV.c (SC.raw (ρ (48 : Nat)))) ST.nil ST.nil)) (ST.node (SV.tup
    [(true, [SC.int false IntKind.i64 (enSF ws.length (wsF ws)), SC.int false IntKind.u64 (enNF ws.length (wsF ws)), SC.int false IntKind.u64 (enXF ws.length (wsF ws))]), (false,
    [SC.boo false (enOkF ws.length (wsF ws))])]) (ST.node (SV.c (SC.sli (63 : Nat) (3 : Nat) true (0 : Nat) true (1 : Nat) (1 : Nat))) ST.nil ST.nil) ST.nil)) (ST.node (SV.c (SC.ptr (51
    : Nat) (0 : Nat))) (ST.node (SV.c (SC.raw (ρ (20 : Nat)))) (ST.node (SV.c (SC.boo true false)) ST.nil ST.nil) ST.nil) (ST.node (SV.tup [(true, [SC.int false IntKind.i64 (enSF
    ws.length (wsF ws)), SC.int false IntKind.u64 (enNF ws.length (wsF ws)), SC.int false IntKind.u64 (enXF ws.length (wsF ws))]), (false, [SC.boo false (enOkF ws.length (wsF ws))])])
    (ST.node (SV.c (SC.sli (67 : Nat) (1 : Nat) true (0 : Nat) true (1 : Nat) (1 : Nat))) ST.nil ST.nil) ST.nil))) (ST.node (SV.c (SC.raw (ρ (6 : Nat)))) (ST.node (SV.c (SC.sli (64 :
    Nat) (3 : Nat) true (0 : Nat) true (1 : Nat) cap)) (ST.node (SV.c (SC.raw (ρ (18 : Nat)))) (ST.node (SV.c SC.nls) ST.nil ST.nil) ST.nil) (ST.node (SV.c (SC.int false IntKind.u64
    (↑z.val.c : Int))) (ST.node (SV.c SC.nls) ST.nil ST.nil) ST.nil)) (ST.node (SV.c (SC.raw (ρ (14 : Nat)))) (ST.node (SV.c (SC.int false IntKind.u64 (↑z.val.c : Int))) (ST.node (SV.c
    SC.nls) ST.nil ST.nil) ST.nil) (ST.node (SV.c (SC.boo false (enOkF ws.length (wsF ws)))) (ST.node (SV.c (SC.ptr (51 : Nat) (2 : Nat))) ST.nil ST.nil) ST.nil))))) [dd]) (Mem.mk [((0
    : Nat), SO.cells [SC.map (1 : Nat)] (OfNat.ofNat (218 : Nat))), ((1 : Nat), SO.mp true (List.map went xs)), ((2 : Nat), SO.ext xs), ((51 : Nat), SO.cells [SC.int false IntKind.i64
    (enSF ws.length (wsF ws)), SC.int false IntKind.u64 (enNF ws.length (wsF ws)), SC.int false IntKind.u64 (enXF ws.length (wsF ws))] (119 : Nat)), ((63 : Nat), SO.cells [SC.int false
    IntKind.i64 (enSF ws.length (wsF ws)), SC.int false IntKind.u64 (enNF ws.length (wsF ws)), SC.int false IntKind.u64 (enXF ws.length (wsF ws))] (119 : Nat)), ((64 : Nat), SO.row (119
    : Nat) (3 : Nat) (1 : Nat) cap [SC.int false IntKind.i64 (enSF ws.length (wsF ws)), SC.int false IntKind.u64 (enNF ws.length (wsF ws)), SC.int false IntKind.u64 (enXF ws.length (wsF
    ws))]), ((67 : Nat), SO.cells [SC.int false IntKind.u64 (↑z.val.c : Int)] (25 : Nat)), ((68 : Nat), SO.row (25 : Nat) (1 : Nat) (1 : Nat) cap_1 [SC.int false IntKind.u64 (↑z.val.c :
    Int)])] (61 : Nat)) Scr.nil)) ∧ True → enSF ws.length (wsF ws) = enSF ws.length (wsF ws) ∧ enNF ws.length (wsF ws) = enNF ws.length (wsF ws) ∧ enXF ws.length (wsF ws) = enXF
    ws.length (wsF ws) ∧ (enSF ws.length (wsF ws) = enSF ws.length (wsF ws) ∧ enNF ws.length (wsF ws) = enNF ws.length (wsF ws) ∧ enXF ws.length (wsF ws) = enXF ws.length (wsF ws) ∧
    (True ∧ True ∧ (1 : Nat) ≤ (1000000000 : Nat) ∧ ∀ (cap : Nat), (1 : Nat) ≤ cap → enSF ws.length (wsF ws) = enSF ws.length (wsF ws) ∧ enNF ws.length (wsF ws) = enNF ws.length (wsF
    ws) ∧ enXF ws.length (wsF ws) = enXF ws.length (wsF ws) ∧ (True ∧ True ∧ (1 : Nat) ≤ (1000000000 : Nat) ∧ ∀ (cap_1 : Nat), (1 : Nat) ≤ cap_1 → enSF ws.length (wsF ws) = enSF
    ws.length (wsF ws) ∧ enNF ws.length (wsF ws) = enNF ws.length (wsF ws) ∧ enXF ws.length (wsF ws) = enXF ws.length (wsF ws) ∧ (X0 cap cap_1)) ∧ True) ∧ True) ∧ True) (fun (cap : Nat)
    (cap_1 : Nat) => K (SF.mk (50 : Nat) (ST.node (SV.c (SC.raw (ρ (0 : Nat)))) (ST.node (SV.c (SC.int false IntKind.u64 (enXF ws.length (wsF ws)))) (ST.node (SV.c (SC.raw (ρ (3 :
    Nat)))) (ST.node (SV.c (SC.ptr (0 : Nat) (0 : Nat))) (ST.node (SV.c (SC.raw (ρ (15 : Nat)))) (ST.node (SV.c (SC.boo false (enOkF ws.length (wsF ws)))) ST.nil ST.nil) (ST.node (SV.c
    (SC.int false IntKind.u64 (enXF ws.length (wsF ws)))) ST.nil ST.nil)) (ST.node (SV.c (SC.boo true true)) (ST.node (SV.agg [SC.int false IntKind.i64 (enSF ws.length (wsF ws)), SC.int
    false IntKind.u64 (enNF ws.length (wsF ws)), SC.int false IntKind.u64 (enXF ws.length (wsF ws))]) ST.nil ST.nil) ST.nil)) (ST.node (SV.c (SC.sli (68 : Nat) (1 : Nat) true (0 : Nat)
    true (1 : Nat) cap_1)) (ST.node (SV.c (SC.raw (ρ (19 : Nat)))) (ST.node (SV.c (SC.int true IntKind.i64 (0 : Int))) ST.nil ST.nil) ST.nil) (ST.node (SV.c (SC.raw ((look (List.map
    went xs) (↑z.val.c : Int)).getD (Value.slice none (0 : Nat) (0 : Nat))))) (ST.node (SV.c (SC.int false IntKind.u64 (↑z.val.c : Int))) ST.nil ST.nil) ST.nil))) (ST.node (SV.c (SC.raw
    (ρ (5 : Nat)))) (ST.node (SV.c (SC.raw (ρ (9 : Nat)))) (ST.node (SV.c (SC.raw (ρ (17 : Nat)))) (ST.node (SV.c (SC.boo true false)) ST.nil ST.nil) (ST.node (SV.c (SC.raw (ρ (49 :
    Nat)))) ST.nil ST.nil)) (ST.node (SV.c (SC.map (1 : Nat))) (ST.node (SV.c (SC.sli (64 : Nat) (3 : Nat) true (0 : Nat) true (1 : Nat) cap)) ST.nil ST.nil) ST.nil)) (ST.node (SV.c
    (SC.boo false (enOkF ws.length (wsF ws)))) (ST.node (SV.c (SC.raw (ρ (21 : Nat)))) (ST.node (SV.c (SC.boo true false)) ST.nil ST.nil) ST.nil) (ST.node (SV.agg [SC.int false
    IntKind.i64 (enSF ws.length (wsF ws)), SC.int false IntKind.u64 (enNF ws.length (wsF ws)), SC.int false IntKind.u64 (enXF ws.length (wsF ws))]) (ST.node (SV.c (SC.sli (68 : Nat) (1
    : Nat) true (0 : Nat) true (1 : Nat) cap_1)) ST.nil ST.nil) ST.nil)))) (ST.node (SV.c (SC.raw (ρ (2 : Nat)))) (ST.node (SV.c (SC.raw (ρ (4 : Nat)))) (ST.node (SV.c (SC.raw (ρ (8 :
    Nat)))) (ST.node (SV.c (SC.raw (ρ (16 : Nat)))) (ST.node (SV.c (SC.boo false !enOkF ws.length (wsF ws))) ST.nil ST.nil) (ST.node (SV.c (SC.raw (ρ (48 : Nat)))) ST.nil ST.nil))
    (ST.node (SV.tup [(true, [SC.int false IntKind.i64 (enSF ws.length (wsF ws)), SC.int false IntKind.u64 (enNF ws.length (wsF ws)), SC.int false IntKind.u64 (enXF ws.length (wsF
    ws))]), (false, [SC.boo false (enOkF ws.length (wsF ws))])]) (ST.node (SV.c (SC.sli (63 : Nat) (3 : Nat) true (0 : Nat) true (1 : Nat) (1 : Nat))) ST.nil ST.nil) ST.nil)) (ST.node
    (SV.c (SC.ptr (51 : Nat) (0 : Nat))) (ST.node (SV.c (SC.raw (ρ (20 : Nat)))) (ST.node (SV.c (SC.boo true false)) ST.nil ST.nil) ST.nil) (ST.node (SV.tup [(true, [SC.int false
    IntKind.i64 (enSF ws.length (wsF ws)), SC.int false IntKind.u64 (enNF ws.length (wsF ws)), SC.int false IntKind.u64 (enXF ws.length (wsF ws))]), (false, [SC.boo false (enOkF
    ws.length (wsF ws))])]) (ST.node (SV.c (SC.sli (67 : Nat) (1 : Nat) true (0 : Nat) true (1 : Nat) (1 : Nat))) ST.nil ST.nil) ST.nil))) (ST.node (SV.c (SC.raw (ρ (6 : Nat))))
    (ST.node (SV.c (SC.sli (64 : Nat) (3 : Nat) true (0 : Nat) true (1 : Nat) cap)) (ST.node (SV.c (SC.raw (ρ (18 : Nat)))) (ST.node (SV.c SC.nls) ST.nil ST.nil) ST.nil) (ST.node (SV.c
    (SC.int false IntKind.u64 (↑z.val.c : Int))) (ST.node (SV.c SC.nls) ST.nil ST.nil) ST.nil)) (ST.node (SV.c (SC.raw (ρ (14 : Nat)))) (ST.node (SV.c (SC.int false IntKind.u64
    (↑z.val.c : Int))) (ST.node (SV.c SC.nls) ST.nil ST.nil) ST.nil) (ST.node (SV.c (SC.boo false (enOkF ws.length (wsF ws)))) (ST.node (SV.c (SC.ptr (51 : Nat) (2 : Nat))) ST.nil
    ST.nil) ST.nil))))) [dd]) (Mem.mk [((0 : Nat), SO.cells [SC.map (1 : Nat)] (OfNat.ofNat (218 : Nat))), ((1 : Nat), SO.mp true (List.map went xs)), ((2 : Nat), SO.ext xs), ((51 :
    Nat), SO.cells [SC.int false IntKind.i64 (enSF ws.length (wsF ws)), SC.int false IntKind.u64 (enNF ws.length (wsF ws)), SC.int false IntKind.u64 (enXF ws.length (wsF ws))] (119 :
    Nat)), ((63 : Nat), SO.cells [SC.int false IntKind.i64 (enSF ws.length (wsF ws)), SC.int false IntKind.u64 (enNF ws.length (wsF ws)), SC.int false IntKind.u64 (enXF ws.length (wsF
    ws))] (119 : Nat)), ((64 : Nat), SO.row (119 : Nat) (3 : Nat) (1 : Nat) cap [SC.int false IntKind.i64 (enSF ws.length (wsF ws)), SC.int false IntKind.u64 (enNF ws.length (wsF ws)),
    SC.int false IntKind.u64 (enXF ws.length (wsF ws))]), ((67 : Nat), SO.cells [SC.int false IntKind.u64 (↑z.val.c : Int)] (25 : Nat)), ((68 : Nat), SO.row (25 : Nat) (1 : Nat) (1 :
    Nat) cap_1 [SC.int false IntKind.u64 (↑z.val.c : Int)])] (61 : Nat)) Scr.nil)) ∧ True)) ∧ (((↑z.val.c : Int) != (0 : Int)) = false → chainF (List.map keyW xs) (1001 : Nat) cur [] =
    some [] ∧ [dd] = [dd] ∧ True)) ∧ (∀ (z : (Emb.mk { s : HSt // HOk (List.map keyW xs) cur s ∧ s.l ≠ [] } HY.s).Z) (ρ : Nat → Value), (((↑z.val.c : Int) != (0 : Int)) = true → ∃ (ws :
    List Nat), HasW xs ((look (List.map went xs) (↑z.val.c : Int)).getD (Value.slice none (0 : Nat) (0 : Nat))) ws ∧ ((!enOkF ws.length (wsF ws)) = true → chainF (List.map keyW xs)
    (1001 : Nat) cur [] = none ∧ [dd] = [dd] ∧ True) ∧ ((!enOkF ws.length (wsF ws)) = false → (decide ((↑z.val.l.length : Int) ≥ (1000 : Int)) = true → chainF (List.map keyW xs) (1001 :
    Nat) cur [] = none ∧ [dd] = [dd] ∧ True) ∧ (decide ((↑z.val.l.length : Int) ≥ (1000 : Int)) = false → (enSF ws.length (wsF ws) = enSF ws.length (wsF ws) ∧ enNF ws.length (wsF ws) =
    enNF ws.length (wsF ws) ∧ enXF ws.length (wsF ws) = enXF ws.length (wsF ws) ∧ ((z.val.cap1 = z.val.cap1 ∧ z.val.l.length ≤ z.val.l.length) ∧ True ∧ z.val.l.length + (1 : Nat) ≤
    (1000000000 : Nat) ∧ ∀ (cap : Nat), z.val.l.length + (1 : Nat) ≤ cap → enSF ws.length (wsF ws) = enSF ws.length (wsF ws) ∧ enNF ws.length (wsF ws) = enNF ws.length (wsF ws) ∧ enXF
    ws.length (wsF ws) = enXF ws.length (wsF ws) ∧ (enSF ws.length (wsF ws) = enSF ws.length (wsF ws) ∧ enNF ws.length (wsF ws) = enNF ws.length (wsF ws) ∧ enXF ws.length (wsF ws) =
    enXF ws.length (wsF ws) ∧ ((z.val.cap2 = z.val.cap2 ∧ z.val.l.length ≤ z.val.l.length) ∧ True ∧ z.val.l.length + (1 : Nat) ≤ (1000000000 : Nat) ∧ ∀ (cap_1 : Nat), z.val.l.length +
    (1 : Nat) ≤ cap_1 → enSF ws.length (wsF ws) = enSF ws.length (wsF ws) ∧ enNF ws.length (wsF ws) = enNF ws.length (wsF ws) ∧ enXF ws.length (wsF ws) = enXF ws.length (wsF ws) ∧ ∃
    (z_1 : (Emb.mk { s : HSt // HOk (List.map keyW xs) cur s ∧ s.l ≠ [] } HY.s).Z), (1001 : Nat) - ((Emb.mk { s : HSt // HOk (List.map keyW xs) cur s ∧ s.l ≠ [] } HY.s).e
    z_1).st.l.length < (1001 : Nat) - ((Emb.mk { s : HSt // HOk (List.map keyW xs) cur s ∧ s.l ≠ [] } HY.s).e z).st.l.length ∧ [dd] = [dd] ∧ List.map went xs = List.map went xs ∧ xs =
    xs ∧ (↑z_1.val.c : Int) = enXF ws.length (wsF ws) ∧ (0 : Nat) = (0 : Nat) ∧ z_1.val.l.length = z.val.l.length + (1 : Nat) ∧ z_1.val.cap1 = cap ∧ (0 : Nat) = (0 : Nat) ∧
    z_1.val.l.length = z.val.l.length + (1 : Nat) ∧ z_1.val.cap2 = cap_1 ∧ (z_1.val.l.length = z.val.l.length + (1 : Nat) ∧ z_1.val.cap1 = cap ∧ ∀ (i : Nat), i < z_1.val.l.length →
    [Value.int IntKind.i64 (z_1.val.l.getD i ((0 : Nat), (0 : Int), (0 : Int), (0 : Int))).snd.fst, Value.int IntKind.u64 (z_1.val.l.getD i ((0 : Nat), (0 : Int), (0 : Int), (0 :
    Int))).snd.snd.fst, Value.int IntKind.u64 (z_1.val.l.getD i ((0 : Nat), (0 : Int), (0 : Int), (0 : Int))).snd.snd.snd] = if i < z.val.l.length then entV z.val.l i else [Value.int
    IntKind.i64 (enSF ws.length (wsF ws)), Value.int IntKind.u64 (enNF ws.length (wsF ws)), Value.int IntKind.u64 (enXF ws.length (wsF ws))]) ∧ (z_1.val.l.length = z.val.l.length + (1 :
    Nat) ∧ z_1.val.cap2 = cap_1 ∧ ∀ (i : Nat), i < z_1.val.l.length → entC z_1.val.l i = if i < z.val.l.length then entC z.val.l i else (↑z.val.c : Int)) ∧ True) ∧ True) ∧ True) ∧ (∀ (K
    : KO XR), (fun X0 : (Nat) → (Nat) → Prop => ((z.val.cap1 = z.val.cap1 ∧ z.val.l.length ≤ z.val.l.length) ∧ True ∧ z.val.l.length + (1 : Nat) ≤ (1000000000 : Nat) ∧ ∀ (cap : Nat),
    z.val.l.length + (1 : Nat) ≤ cap → enSF ws.length (wsF ws) = enSF ws.length (wsF ws) ∧ enNF ws.length (wsF ws) = enNF ws.length (wsF ws) ∧ enXF ws.length (wsF ws) = enXF ws.length
    (wsF ws) ∧ (enSF ws.length (wsF ws) = enSF ws.length (wsF ws) ∧ enNF ws.length (wsF ws) = enNF ws.length (wsF ws) ∧ enXF ws.length (wsF ws) = enXF ws.length (wsF ws) ∧ ((z.val.cap2
    = z.val.cap2 ∧ z.val.l.length ≤ z.val.l.length) ∧ True ∧ z.val.l.length + (1 : Nat) ≤ (1000000000 : Nat) ∧ ∀ (cap_1 : Nat), z.val.l.length + (1 : Nat) ≤ cap_1 → enSF ws.length (wsF
    ws) = enSF ws.length (wsF ws) ∧ enNF ws.length (wsF ws) = enNF ws.length (wsF ws) ∧ enXF ws.length (wsF ws) = enXF ws.length (wsF ws) ∧ (X0 cap cap_1)) ∧ True) ∧ True) → enSF
    ws.length (wsF ws) = enSF ws.length (wsF ws) ∧ enNF ws.length (wsF ws) = enNF ws.length (wsF ws) ∧ enXF ws.length (wsF ws) = enXF ws.length (wsF ws) ∧ ((z.val.cap1 = z.val.cap1 ∧
    z.val.l.length ≤ z.val.l.length) ∧ True ∧ z.val.l.length + (1 : Nat) ≤ (1000000000 : Nat) ∧ ∀ (cap : Nat), z.val.l.length + (1 : Nat) ≤ cap → enSF ws.length (wsF ws) = enSF
    ws.length (wsF ws) ∧ enNF ws.length (wsF ws) = enNF ws.length (wsF ws) ∧ enXF ws.length (wsF ws) = enXF ws.length (wsF ws) ∧ ((z.val.cap2 = z.val.cap2 ∧ z.val.l.length ≤
    z.val.l.length) ∧ True ∧ z.val.l.length + (1 : Nat) ≤ (1000000000 : Nat) ∧ ∀ (cap_1 : Nat), z.val.l.length + (1 : Nat) ≤ cap_1 → enSF ws.length (wsF ws) = enSF ws.length (wsF ws) ∧
    enNF ws.length (wsF ws) = enNF ws.length (wsF ws) ∧ enXF ws.length (wsF ws) = enXF ws.length (wsF ws) ∧ (X0 cap cap_1)) ∧ True) ∧ True) (fun (cap : Nat) (cap_1 : Nat) => K (SF.mk
    (50 : Nat) (ST.node (SV.c (SC.raw (ρ (0 : Nat)))) (ST.node (SV.c (SC.int false IntKind.u64 (enXF ws.length (wsF ws)))) (ST.node (SV.c (SC.raw (ρ (3 : Nat)))) (ST.node (SV.c (SC.ptr
    (0 : Nat) (0 : Nat))) (ST.node (SV.c (SC.raw (ρ (15 : Nat)))) (ST.node (SV.c (SC.boo false (enOkF ws.length (wsF ws)))) ST.nil ST.nil) (ST.node (SV.c (SC.int false IntKind.u64 (enXF
    ws.length (wsF ws)))) ST.nil ST.nil)) (ST.node (SV.c (SC.boo true true)) (ST.node (SV.agg [SC.int false IntKind.i64 (enSF ws.length (wsF ws)), SC.int false IntKind.u64 (enNF
    ws.length (wsF ws)), SC.int false IntKind.u64 (enXF ws.length (wsF ws))]) ST.nil ST.nil) ST.nil)) (ST.node (SV.c (SC.sli (68 : Nat) (1 : Nat) true (0 : Nat) false (z.val.l.length +
    (1 : Nat)) cap_1)) (ST.node (SV.c (SC.raw (ρ (19 : Nat)))) (ST.node (SV.c (SC.int false IntKind.i64 (↑z.val.l.length : Int))) ST.nil ST.nil) ST.nil) (ST.node (SV.c (SC.raw ((look
    (List.map went xs) (↑z.val.c : Int)).getD (Value.slice none (0 : Nat) (0 : Nat))))) (ST.node (SV.c (SC.int false IntKind.u64 (↑z.val.c : Int))) ST.nil ST.nil) ST.nil))) (ST.node
    (SV.c (SC.raw (ρ (5 : Nat)))) (ST.node (SV.c (SC.raw (ρ (9 : Nat)))) (ST.node (SV.c (SC.raw (ρ (17 : Nat)))) (ST.node (SV.c (SC.boo true false)) ST.nil ST.nil) (ST.node (SV.c
    (SC.raw (ρ (49 : Nat)))) ST.nil ST.nil)) (ST.node (SV.c (SC.map (1 : Nat))) (ST.node (SV.c (SC.sli (64 : Nat) (3 : Nat) true (0 : Nat) false (z.val.l.length + (1 : Nat)) cap))
    ST.nil ST.nil) ST.nil)) (ST.node (SV.c (SC.boo false (enOkF ws.length (wsF ws)))) (ST.node (SV.c (SC.raw (ρ (21 : Nat)))) (ST.node (SV.c (SC.boo true false)) ST.nil ST.nil) ST.nil)
    (ST.node (SV.agg [SC.int false IntKind.i64 (enSF ws.length (wsF ws)), SC.int false IntKind.u64 (enNF ws.length (wsF ws)), SC.int false IntKind.u64 (enXF ws.length (wsF ws))])
    (ST.node (SV.c (SC.sli (68 : Nat) (1 : Nat) true (0 : Nat) false (z.val.l.length + (1 : Nat)) cap_1)) ST.nil ST.nil) ST.nil)))) (ST.node (SV.c (SC.raw (ρ (2 : Nat)))) (ST.node (SV.c
    (SC.raw (ρ (4 : Nat)))) (ST.node (SV.c (SC.raw (ρ (8 : Nat)))) (ST.node (SV.c (SC.raw (ρ (16 : Nat)))) (ST.node (SV.c (SC.boo false !enOkF ws.length (wsF ws))) ST.nil ST.nil)
    (ST.node (SV.c (SC.raw (ρ (48 : Nat)))) ST.nil ST.nil)) (ST.node (SV.tup [(true, [SC.int false IntKind.i64 (enSF ws.length (wsF ws)), SC.int false IntKind.u64 (enNF ws.length (wsF
    ws)), SC.int false IntKind.u64 (enXF ws.length (wsF ws))]), (false, [SC.boo false (enOkF ws.length (wsF ws))])]) (ST.node (SV.c (SC.sli (63 : Nat) (3 : Nat) true (0 : Nat) true (1 :
    Nat) (1 : Nat))) ST.nil ST.nil) ST.nil)) (ST.node (SV.c (SC.ptr (51 : Nat) (0 : Nat))) (ST.node (SV.c (SC.raw (ρ (20 : Nat)))) (ST.node (SV.c (SC.boo false (decide ((↑z.val.l.length
    : Int) ≥ (1000 : Int))))) ST.nil ST.nil) ST.nil) (ST.node (SV.tup [(true, [SC.int false IntKind.i64 (enSF ws.length (wsF ws)), SC.int false IntKind.u64 (enNF ws.length (wsF ws)),
    SC.int false IntKind.u64 (enXF ws.length (wsF ws))]), (false, [SC.boo false (enOkF ws.length (wsF ws))])]) (ST.node (SV.c (SC.sli (67 : Nat) (1 : Nat) true (0 : Nat) true (1 : Nat)
    (1 : Nat))) ST.nil ST.nil) ST.nil))) (ST.node (SV.c (SC.raw (ρ (6 : Nat)))) (ST.node (SV.c (SC.sli (64 : Nat) (3 : Nat) true (0 : Nat) false (z.val.l.length + (1 : Nat)) cap))
    (ST.node (SV.c (SC.raw (ρ (18 : Nat)))) (ST.node (SV.c (SC.sli (10 : Nat) (3 : Nat) true (0 : Nat) false z.val.l.length z.val.cap1)) ST.nil ST.nil) ST.nil) (ST.node (SV.c (SC.int
    false IntKind.u64 (↑z.val.c : Int))) (ST.node (SV.c (SC.sli (11 : Nat) (1 : Nat) true (0 : Nat) false z.val.l.length z.val.cap2)) ST.nil ST.nil) ST.nil)) (ST.node (SV.c (SC.raw (ρ
    (14 : Nat)))) (ST.node (SV.c (SC.int false IntKind.u64 (↑z.val.c : Int))) (ST.node (SV.c (SC.sli (10 : Nat) (3 : Nat) true (0 : Nat) false z.val.l.length z.val.cap1)) ST.nil ST.nil)
    ST.nil) (ST.node (SV.c (SC.boo false (enOkF ws.length (wsF ws)))) (ST.node (SV.c (SC.ptr (51 : Nat) (2 : Nat))) ST.nil ST.nil) ST.nil))))) [dd]) (Mem.mk [((0 : Nat), SO.cells
    [SC.map (1 : Nat)] (OfNat.ofNat (218 : Nat))), ((1 : Nat), SO.mp true (List.map went xs)), ((2 : Nat), SO.ext xs), ((51 : Nat), SO.cells [SC.int false IntKind.i64 (enSF ws.length
    (wsF ws)), SC.int false IntKind.u64 (enNF ws.length (wsF ws)), SC.int false IntKind.u64 (enXF ws.length (wsF ws))] (119 : Nat)), ((63 : Nat), SO.cells [SC.int false IntKind.i64
    (enSF ws.length (wsF ws)), SC.int false IntKind.u64 (enNF ws.length (wsF ws)), SC.int false IntKind.u64 (enXF ws.length (wsF ws))] (119 : Nat)), ((64 : Nat), SO.vals (119 : Nat) (3
    : Nat) (z.val.l.length + (1 : Nat)) cap fun (i : Nat) => if i < z.val.l.length then entV z.val.l i else [Value.int IntKind.i64 (enSF ws.length (wsF ws)), Value.int IntKind.u64 (enNF
    ws.length (wsF ws)), Value.int IntKind.u64 (enXF ws.length (wsF ws))]), ((67 : Nat), SO.cells [SC.int false IntKind.u64 (↑z.val.c : Int)] (25 : Nat)), ((68 : Nat), SO.ints (25 :
    Nat) IntKind.u64 (z.val.l.length + (1 : Nat)) cap_1 fun (i : Nat) => if i < z.val.l.length then entC z.val.l i else (↑z.val.c : Int))] (61 : Nat)) Scr.nil)) ∧ True) ∧ (∀ (K : KO
    XR), (fun X0 : (Nat) → (Nat) → Prop => enSF ws.length (wsF ws) = enSF ws.length (wsF ws) ∧ enNF ws.length (wsF ws) = enNF ws.length (wsF ws) ∧ enXF ws.length (wsF ws) = enXF
    ws.length (wsF ws) ∧ ((z.val.cap1 = z.val.cap1 ∧ z.val.l.length ≤ z.val.l.length) ∧ True ∧ z.val.l.length + (1 : Nat) ≤ (1000000000 : Nat) ∧ ∀ (cap : Nat), z.val.l.length + (1 :
    Nat) ≤ cap → enSF ws.length (wsF ws) = enSF ws.length (wsF ws) ∧ enNF ws.length (wsF ws) = enNF ws.length (wsF ws) ∧ enXF ws.length (wsF ws) = enXF ws.length (wsF ws) ∧ (enSF
    ws.length (wsF ws) = enSF ws.length (wsF ws) ∧ enNF ws.length (wsF ws) = enNF ws.length (wsF ws) ∧ enXF ws.length (wsF ws) = enXF ws.length (wsF ws) ∧ ((z.val.cap2 = z.val.cap2 ∧
    z.val.l.length ≤ z.val.l.length) ∧ True ∧ z.val.l.length + (1 : Nat) ≤ (1000000000 : Nat) ∧ ∀ (cap_1 : Nat), z.val.l.length + (1 : Nat) ≤ cap_1 → enSF ws.length (wsF ws) = enSF
    ws.length (wsF ws) ∧ enNF ws.length (wsF ws) = enNF ws.length (wsF ws) ∧ enXF ws.length (wsF ws) = enXF ws.length (wsF ws) ∧ (X0 cap cap_1)) ∧ True) ∧ True) ∧ (∀ (K : KO XR), (fun
    X1 : (Nat) → (Nat) → Prop => ((z.val.cap1 = z.val.cap1 ∧ z.val.l.length ≤ z.val.l.length) ∧ True ∧ z.val.l.length + (1 : Nat) ≤ (1000000000 : Nat) ∧ ∀ (cap : Nat), z.val.l.length +
    (1 : Nat) ≤ cap → enSF ws.length (wsF ws) = enSF ws.length (wsF ws) ∧ enNF ws.length (wsF ws) = enNF ws.length (wsF ws) ∧ enXF ws.length (wsF ws) = enXF ws.length (wsF ws) ∧ (enSF
    ws.length (wsF ws) = enSF ws.length (wsF ws) ∧ enNF ws.length (wsF ws) = enNF ws.length (wsF ws) ∧ enXF ws.length (wsF ws) = enXF ws.length (wsF ws) ∧ ((z.val.cap2 = z.val.cap2 ∧
    z.val.l.length ≤ z.val.l.length) ∧ True ∧ z.val.l.length + (1 : Nat) ≤ (1000000000 : Nat) ∧ ∀ (cap_1 : Nat), z.val.l.length + (1 : Nat) ≤ cap_1 → enSF ws.length (wsF ws) = enSF
    ws.length (wsF ws) ∧ enNF ws.length (wsF ws) = enNF ws.length (wsF ws) ∧ enXF ws.length (wsF ws) = enXF ws.length (wsF ws) ∧ (X1 cap cap_1)) ∧ True) ∧ True) → enSF ws.length (wsF
    ws) = enSF ws.length (wsF ws) ∧ enNF ws.length (wsF ws) = enNF ws.length (wsF ws) ∧ enXF ws.length (wsF ws) = enXF ws.length (wsF ws) ∧ ((z.val.cap1 = z.val.cap1 ∧ z.val.l.length ≤
    z.val.l.length) ∧ True ∧ z.val.l.length + (1 : Nat) ≤ (1000000000 : Nat) ∧ ∀ (cap : Nat), z.val.l.length + (1 : Nat) ≤ cap → enSF ws.length (wsF ws) = enSF ws.length (wsF ws) ∧ enNF
    ws.length (wsF ws) = enNF ws.length (wsF ws) ∧ enXF ws.length (wsF ws) = enXF ws.length (wsF ws) ∧ ((z.val.cap2 = z.val.cap2 ∧ z.val.l.length ≤ z.val.l.length) ∧ True ∧
    z.val.l.length + (1 : Nat) ≤ (1000000000 : Nat) ∧ ∀ (cap_1 : Nat), z.val.l.length + (1 : Nat) ≤ cap_1 → enSF ws.length (wsF ws) = enSF ws.length (wsF ws) ∧ enNF ws.length (wsF ws) =
    enNF ws.length (wsF ws) ∧ enXF ws.length (wsF ws) = enXF ws.length (wsF ws) ∧ (X1 cap cap_1)) ∧ True) ∧ True) (fun (cap : Nat) (cap_1 : Nat) => K (SF.mk (50 : Nat) (ST.node (SV.c
    (SC.raw (ρ (0 : Nat)))) (ST.node (SV.c (SC.int false IntKind.u64 (enXF ws.length (wsF ws)))) (ST.node (SV.c (SC.raw (ρ (3 : Nat)))) (ST.node (SV.c (SC.ptr (0 : Nat) (0 : Nat)))
    (ST.node (SV.c (SC.raw (ρ (15 : Nat)))) (ST.node (SV.c (SC.boo false (enOkF ws.length (wsF ws)))) ST.nil ST.nil) (ST.node (SV.c (SC.int false IntKind.u64 (enXF ws.length (wsF ws))))
    ST.nil ST.nil)) (ST.node (SV.c (SC.boo true true)) (ST.node (SV.agg [SC.int false IntKind.i64 (enSF ws.length (wsF ws)), SC.int false IntKind.u64 (enNF ws.length (wsF ws)), SC.int
    false IntKind.u64 (enXF ws.length (wsF ws))]) ST.nil ST.nil) ST.nil)) (ST.node (SV.c (SC.sli (68 : Nat) (1 : Nat) true (0 : Nat) false (z.val.l.length + (1 : Nat)) cap_1)) (ST.node
    (SV.c (SC.raw (ρ (19 : Nat)))) (ST.node (SV.c (SC.int false IntKind.i64 (↑z.val.l.length : Int))) ST.nil ST.nil) ST.nil) (ST.node (SV.c (SC.raw ((look (List.map went xs) (↑z.val.c :
    Int)).getD (Value.slice none (0 : Nat) (0 : Nat))))) (ST.node (SV.c (SC.int false IntKind.u64 (↑z.val.c : Int))) ST.nil ST.nil) ST.nil))) (ST.node (SV.c (SC.raw (ρ (5 : Nat))))
    (ST.node (SV.c (SC.raw (ρ (9 : Nat)))) (ST.node (SV.c (SC.raw (ρ (17 : Nat)))) (ST.node (SV.c (SC.boo true false)) ST.nil ST.nil) (ST.node (SV.c (SC.raw (ρ (49 : Nat)))) ST.nil
    ST.nil)) (ST.node (SV.c (SC.map (1 : Nat))) (ST.node (SV.c (SC.sli (64 : Nat) (3 : Nat) true (0 : Nat) false (z.val.l.length + (1 : Nat)) cap)) ST.nil ST.nil) ST.nil)) (ST.node
    (SV.c (SC.boo false (enOkF ws.length (wsF ws)))) (ST.node (SV.c (SC.raw (ρ (21 : Nat)))) (ST.node (SV.c (SC.boo true false)) ST.nil ST.nil) ST.nil) (ST.node (SV.agg [SC.int false
    IntKind.i64 (enSF ws.length (wsF ws)), SC.int false IntKind.u64 (enNF ws.length (wsF ws)), SC.int false IntKind.u64 (enXF ws.length (wsF ws))]) (ST.node (SV.c (SC.sli (68 : Nat) (1
    : Nat) true (0 : Nat) false (z.val.l.length + (1 : Nat)) cap_1)) ST.nil ST.nil) ST.nil)))) (ST.node (SV.c (SC.raw (ρ (2 : Nat)))) (ST.node (SV.c (SC.raw (ρ (4 : Nat)))) (ST.node
    (SV.c (SC.raw (ρ (8 : Nat)))) (ST.node (SV.c (SC.raw (ρ (16 : Nat)))) (ST.node (SV.c (SC.boo false !enOkF ws.length (wsF ws))) ST.nil ST.nil) (ST.node (SV.c (SC.raw (ρ (48 : Nat))))
    ST.nil ST.nil)) (ST.node (SV.tup [(true, [SC.int false IntKind.i64 (enSF ws.length (wsF ws)), SC.int false IntKind.u64 (enNF ws.length (wsF ws)), SC.int false IntKind.u64 (enXF
    ws.length (wsF ws))]), (false, [SC.boo false (enOkF ws.length (wsF ws))])]) (ST.node (SV.c (SC.sli (63 : Nat) (3 : Nat) true (0 : Nat) true (1 : Nat) (1 : Nat))) ST.nil ST.nil)
    ST.nil)) (ST.node (SV.c (SC.ptr (51 : Nat) (0 : Nat))) (ST.node (SV.c (SC.raw (ρ (20 : Nat)))) (ST.node (SV.c (SC.boo false (decide ((↑z.val.l.length : Int) ≥ (1000 : Int)))))
    ST.nil ST.nil) ST.nil) (ST.node (SV.tup [(true, [SC.int false IntKind.i64 (enSF ws.length (wsF ws)), SC.int false IntKind.u64 (enNF ws.length (wsF ws)), SC.int false IntKind.u64
    (enXF ws.length (wsF ws))]), (false, [SC.boo false (enOkF ws.length (wsF ws))])]) (ST.node (SV.c (SC.sli (67 : Nat) (1 : Nat) true (0 : Nat) true (1 : Nat) (1 : Nat))) ST.nil
    ST.nil) ST.nil))) (ST.node (SV.c (SC.raw (ρ (6 : Nat)))) (ST.node (SV.c (SC.sli (64 : Nat) (3 : Nat) true (0 : Nat) false (z.val.l.length + (1 : Nat)) cap)) (ST.node (SV.c (SC.raw
    (ρ (18 : Nat)))) (ST.node (SV.c (SC.sli (10 : Nat) (3 : Nat) true (0 : Nat) false z.val.l.length z.val.cap1)) ST.nil ST.nil) ST.nil) (ST.node (SV.c (SC.int false IntKind.u64
    (↑z.val.c : Int))) (ST.node (SV.c (SC.sli (11 : Nat) (1 : Nat) true (0 : Nat) false z.val.l.length z.val.cap2)) ST.nil ST.nil) ST.nil)) (ST.node (SV.c (SC.raw (ρ (14 : Nat))))
    (ST.node (SV.c (SC.int false IntKind.u64 (↑z.val.c : Int))) (ST.node (SV.c (SC.sli (10 : Nat) (3 : Nat) true (0 : Nat) false z.val.l.length z.val.cap1)) ST.nil ST.nil) ST.nil)
    (ST.node (SV.c (SC.boo false (enOkF ws.length (wsF ws)))) (ST.node (SV.c (SC.ptr (51 : Nat) (2 : Nat))) ST.nil ST.nil) ST.nil))))) [dd]) (Mem.mk [((0 : Nat), SO.cells [SC.map (1 :
    Nat)] (OfNat.ofNat (218 : Nat))), ((1 : Nat), SO.mp true (List.map went xs)), ((2 : Nat), SO.ext xs), ((51 : Nat), SO.cells [SC.int false IntKind.i64 (enSF ws.length (wsF ws)),
    SC.int false IntKind.u64 (enNF ws.length (wsF ws)), SC.int false IntKind.u64 (enXF ws.length (wsF ws))] (119 : Nat)), ((63 : Nat), SO.cells [SC.int false IntKind.i64 (enSF ws.length
    (wsF ws)), SC.int false IntKind.u64 (enNF ws.length (wsF ws)), SC.int false IntKind.u64 (enXF ws.length (wsF ws))] (119 : Nat)), ((64 : Nat), SO.vals (119 : Nat) (3 : Nat)
    (z.val.l.length + (1 : Nat)) cap fun (i : Nat) => if i < z.val.l.length then entV z.val.l i else [Value.int IntKind.i64 (enSF ws.length (wsF ws)), Value.int IntKind.u64 (enNF
    ws.length (wsF ws)), Value.int IntKind.u64 (enXF ws.length (wsF ws))]), ((67 : Nat), SO.cells [SC.int false IntKind.u64 (↑z.val.c : Int)] (25 : Nat)), ((68 : Nat), SO.ints (25 :
    Nat) IntKind.u64 (z.val.l.length + (1 : Nat)) cap_1 fun (i : Nat) => if i < z.val.l.length then entC z.val.l i else (↑z.val.c : Int))] (61 : Nat)) Scr.nil)) ∧ True → enSF ws.length
    (wsF ws) = enSF ws.length (wsF ws) ∧ enNF ws.length (wsF ws) = enNF ws.length (wsF ws) ∧ enXF ws.length (wsF ws) = enXF ws.length (wsF ws) ∧ (enSF ws.length (wsF ws) = enSF
    ws.length (wsF ws) ∧ enNF ws.length (wsF ws) = enNF ws.length (wsF ws) ∧ enXF ws.length (wsF ws) = enXF ws.length (wsF ws) ∧ ((z.val.cap1 = z.val.cap1 ∧ z.val.l.length ≤
    z.val.l.length) ∧ True ∧ z.val.l.length + (1 : Nat) ≤ (1000000000 : Nat) ∧ ∀ (cap : Nat), z.val.l.length + (1 : Nat) ≤ cap → enSF ws.length (wsF ws) = enSF ws.length (wsF ws) ∧ enNF
    ws.length (wsF ws) = enNF ws.length (wsF ws) ∧ enXF ws.length (wsF ws) = enXF ws.length (wsF ws) ∧ ((z.val.cap2 = z.val.cap2 ∧ z.val.l.length ≤ z.val.l.length) ∧ True ∧
    z.val.l.length + (1 : Nat) ≤ (1000000000 : Nat) ∧ ∀ (cap_1 : Nat), z.val.l.length + (1 : Nat) ≤ cap_1 → enSF ws.length (wsF ws) = enSF ws.length (wsF ws) ∧ enNF ws.length (wsF ws) =
    enNF ws.length (wsF ws) ∧ enXF ws.length (wsF ws) = enXF ws.length (wsF ws) ∧ (X0 cap cap_1)) ∧ True) ∧ True) ∧ True) (fun (cap : Nat) (cap_1 : Nat) => K (SF.mk (50 : Nat) (ST.node
    (SV.c (SC.raw (ρ (0 : Nat)))) (ST.node (SV.c (SC.int false IntKind.u64 (enXF ws.length (wsF ws)))) (ST.node (SV.c (SC.raw (ρ (3 : Nat)))) (ST.node (SV.c (SC.ptr (0 : Nat) (0 :
    Nat))) (ST.node (SV.c (SC.raw (ρ (15 : Nat)))) (ST.node (SV.c (SC.boo false (enOkF ws.length (wsF ws)))) ST.nil ST.nil) (ST.node (SV.c (SC.int false IntKind.u64 (enXF ws.length (wsF
    ws)))) ST.nil ST.nil)) (ST.node (SV.c (SC.boo true true)) (ST.node (SV.agg [SC.int false IntKind.i64 (enSF ws.length (wsF ws)), SC.int false IntKind.u64 (enNF ws.length (wsF ws)),
    SC.int false IntKind.u64 (enXF ws.length (wsF ws))]) ST.nil ST.nil) ST.nil)) (ST.node (SV.c (SC.sli (68 : Nat) (1 : Nat) true (0 : Nat) false (z.val.l.length + (1 : Nat)) cap_1))
    (ST.node (SV.c (SC.raw (ρ (19 : Nat)))) (ST.node (SV.c (SC.int false IntKind.i64 (↑z.val.l.length : Int))) ST.nil ST.nil) ST.nil) (ST.node (SV.c (SC.raw ((look (List.map went xs)
    (↑z.val.c : Int)).getD (Value.slice none (0 : Nat) (0 : Nat))))) (ST.node (SV.c (SC.int false IntKind.u64 (↑z.val.c : Int))) ST.nil ST.nil) ST.nil))) (ST.node (SV.c (SC.raw (ρ (5 :
    Nat)))) (ST.node (SV.c (SC.raw (ρ (9 : Nat)))) (ST.node (SV.c (SC.raw (ρ (17 : Nat)))) (ST.node (SV.c (SC.boo true false)) ST.nil ST.nil) (ST.node (SV.c (SC.raw (ρ (49 : Nat))))
    ST.nil ST.nil)) (ST.node (SV.c (SC.map (1 : Nat))) (ST.node (SV.c (SC.sli (64 : Nat) (3 : Nat) true (0 : Nat) false (z.val.l.length + (1 : Nat)) cap)) ST.nil ST.nil) ST.nil))
    (ST.node (SV.c (SC.boo false (enOkF ws.length (wsF ws)))) (ST.node (SV.c (SC.raw (ρ (21 : Nat)))) (ST.node (SV.c (SC.boo true false)) ST.nil ST.nil) ST.nil) (ST.node (SV.agg [SC.int
    false IntKind.i64 (enSF ws.length (wsF ws)), SC.int false IntKind.u64 (enNF ws.length (wsF ws)), SC.int false IntKind.u64 (enXF ws.length (wsF ws))]) (ST.node (SV.c (SC.sli (68 :
    Nat) (1 : Nat) true (0 : Nat) false (z.val.l.length + (1 : Nat)) cap_1)) ST.nil ST.nil) ST.nil)))) (ST.node (SV.c (SC.raw (ρ (2 : Nat)))) (ST.node (SV.c (SC.raw (ρ (4 : Nat))))
    (ST.node (SV.c (SC.raw (ρ (8 : Nat)))) (ST.node (SV.c (SC.raw (ρ (16 : Nat)))) (ST.node (SV.c (SC.boo false !enOkF ws.length (wsF ws))) ST.nil ST.nil) (ST.node (SV.c (SC.raw (ρ (48
    : Nat)))) ST.nil ST.nil)) (ST.node (SV.tup [(true, [SC.int false IntKind.i64 (enSF ws.length (wsF ws)), SC.int false IntKind.u64 (enNF ws.length (wsF ws)), SC.int false IntKind.u64
    (enXF ws.length (wsF ws))]), (false, [SC.boo false (enOkF ws.length (wsF ws))])]) (ST.node (SV.c (SC.sli (63 : Nat) (3 : Nat) true (0 : Nat) true (1 : Nat) (1 : Nat))) ST.nil
    ST.nil) ST.nil)) (ST.node (SV.c (SC.ptr (51 : Nat) (0 : Nat))) (ST.node (SV.c (SC.raw (ρ (20 : Nat)))) (ST.node (SV.c (SC.boo false (decide ((↑z.val.l.length : Int) ≥ (1000 :
    Int))))) ST.nil ST.nil) ST.nil) (ST.node (SV.tup [(true, [SC.int false IntKind.i64 (enSF ws.length (wsF ws)), SC.int false IntKind.u64 (enNF ws.length (wsF ws)), SC.int false
    IntKind.u64 (enXF ws.length (wsF ws))]), (false, [SC.boo false (enOkF ws.length (wsF ws))])]) (ST.node (SV.c (SC.sli (67 : Nat) (1 : Nat) true (0 : Nat) true (1 : Nat) (1 : Nat)))
    ST.nil ST.nil) ST.nil))) (ST.node (SV.c (SC.raw (ρ (6 : Nat)))) (ST.node (SV.c (SC.sli (64 : Nat) (3 : Nat) true (0 : Nat) false (z.val.l.length + (1 : Nat)) cap)) (ST.node (SV.c
    (SC.raw (ρ (18 : Nat)))) (ST.node (SV.c (SC.sli (10 : Nat) (3 : Nat) true (0 : Nat) false z.val.l.length z.val.cap1)) ST.nil ST.nil) ST.nil) (ST.node (SV.c (SC.int false IntKind.u64
    (↑z.val.c : Int))) (ST.node (SV.c (SC.sli (11 : Nat) (1 : Nat) true (0 : Nat) false z.val.l.length z.val.cap2)) ST.nil ST.nil) ST.nil)) (ST.node (SV.c (SC.raw (ρ (14 : Nat))))
    (ST.node (SV.c (SC.int false IntKind.u64 (↑z.val.c : Int))) (ST.node (SV.c (SC.sli (10 : Nat) (3 : Nat) true (0 : Nat) false z.val.l.length z.val.cap1)) ST.nil ST.nil) ST.nil)
    (ST.node (SV.c (SC.boo false (enOkF ws.length (wsF ws)))) (ST.node (SV.c (SC.ptr (51 : Nat) (2 : Nat))) ST.nil ST.nil) ST.nil))))) [dd]) (Mem.mk [((0 : Nat), SO.cells [SC.map (1 :
    Nat)] (OfNat.ofNat (218 : Nat))), ((1 : Nat), SO.mp true (List.map went xs)), ((2 : Nat), SO.ext xs), ((51 : Nat), SO.cells [SC.int false IntKind.i64 (enSF ws.length (wsF ws)),
    SC.int false IntKind.u64 (enNF ws.length (wsF ws)), SC.int false IntKind.u64 (enXF ws.length (wsF ws))] (119 : Nat)), ((63 : Nat), SO.cells [SC.int false IntKind.i64 (enSF ws.length
    (wsF ws)), SC.int false IntKind.u64 (enNF ws.length (wsF ws)), SC.int false IntKind.u64 (enXF ws.length (wsF ws))] (119 : Nat)), ((64 : Nat), SO.vals (119 : Nat) (3 : Nat)
    (z.val.l.length + (1 : Nat)) cap fun (i : Nat) => if i < z.val.l.length then entV z.val.l i else [Value.int IntKind.i64 (enSF ws.length (wsF ws)), Value.int IntKind.u64 (enNF
    ws.length (wsF ws)), Value.int IntKind.u64 (enXF ws.length (wsF ws))]), ((67 : Nat), SO.cells [SC.int false IntKind.u64 (↑z.val.c : Int)] (25 : Nat)), ((68 : Nat), SO.ints (25 :
    Nat) IntKind.u64 (z.val.l.length + (1 : Nat)) cap_1 fun (i : Nat) => if i < z.val.l.length then entC z.val.l i else (↑z.val.c : Int))] (61 : Nat)) Scr.nil)) ∧ True))) ∧ (((↑z.val.c
    : Int) != (0 : Int)) = false → ∃ (s : HSt), chainF (List.map keyW xs) (1001 : Nat) cur [] = some s.l ∧ [dd] = [dd] ∧ (0 : Nat) = (0 : Nat) ∧ s.l.length = z.val.l.length ∧ s.cap1 =
    z.val.cap1 ∧ (0 : Nat) = (0 : Nat) ∧ s.l.length = z.val.l.length ∧ s.cap2 = z.val.cap2 ∧ (s.l.length = z.val.l.length ∧ s.cap1 = z.val.cap1 ∧ ∀ (i : Nat), i < s.l.length →
    [Value.int IntKind.i64 (s.l.getD i ((0 : Nat), (0 : Int), (0 : Int), (0 : Int))).snd.fst, Value.int IntKind.u64 (s.l.getD i ((0 : Nat), (0 : Int), (0 : Int), (0 :
    Int))).snd.snd.fst, Value.int IntKind.u64 (s.l.getD i ((0 : Nat), (0 : Int), (0 : Int), (0 : Int))).snd.snd.snd] = [Value.int IntKind.i64 (z.val.l.getD i ((0 : Nat), (0 : Int), (0 :
    Int), (0 : Int))).snd.fst, Value.int IntKind.u64 (z.val.l.getD i ((0 : Nat), (0 : Int), (0 : Int), (0 : Int))).snd.snd.fst, Value.int IntKind.u64 (z.val.l.getD i ((0 : Nat), (0 :
    Int), (0 : Int), (0 : Int))).snd.snd.snd]) ∧ (s.l.length = z.val.l.length ∧ s.cap2 = z.val.cap2 ∧ ∀ (i : Nat), i < s.l.length → entC s.l i = entC z.val.l i) ∧ True)) ∧ True) := by
  kernel_rfl
theorem loopHd_run (pv : Value) (cur : Nat) (fv : Value) (dd : Deferred) (xs : Wds) (hc : cur < TW ∧ ∀ b ∈ xs, ∀ z ∈ b.2.1, z < TW) : Run (codeE Try.prog (callN Try.prog [readEntR] (fun _ _ => false) 100 20) (fun _ => false) 100 (loopOf Try.prog 131 8) (f0H pv cur fv dd) (m0H xs) (loopH (xs.map keyW) cur) (endH (xs.map keyW) cur (f0H pv cur fv dd))) := by
  constructor
  rw [loopHd_vc]
  simp only [eq_self, true_and, and_true, Nat.le_refl]
  have hw : ∀ c z, z ∈ hwds (xs.map keyW) c → z < TW := fun c => (hasW_hwds hc.2 c).2
  refine ⟨fun y => embsH_cover y, ⟨⟨⟨cur, [], 0, 0⟩, ⟨hc.1, Nat.zero_le _, rfl⟩, rfl⟩, rfl⟩, fun z ρ => ⟨fun h1 => ⟨hwds (xs.map keyW) z.1.c, hasW_hwds hc.2 _, ?_⟩, fun h1 => ?_⟩, fun z ρ => ⟨fun h1 => ⟨hwds (xs.map keyW) z.1.c, hasW_hwds hc.2 _, ?_⟩, fun h1 => ?_⟩⟩
  · obtain ⟨s, hs, hl⟩ := z
    dsimp only at *
    have hc0 : s.c ≠ 0 := fun e => (bne_iff_ne.1 h1) (by rw [e]; rfl)
    have hll : s.l.length < 1000 := by rw [hl]; decide
    refine ⟨fun h2 => chain_no hs hc0 (by simpa using h2), fun h2 => ?_⟩
    have ho : enOkF (hwds (xs.map keyW) s.c).length (wsF (hwds (xs.map keyW) s.c)) = true := by simpa using h2
    obtain ⟨n, en, _⟩ := enX_nat (hw s.c)
    repeat' first
      | with_reducible exact trivial
      | (intro (Z : KO XR) hz; first | exact hz | exact hz.1 | exact ⟨hz.1, hz.2⟩ | exact hz.2)
      | with_reducible apply And.intro
      | decide
      | intro _
      | (refine ⟨⟨⟨(enXF (hwds (xs.map keyW) s.c).length (wsF (hwds (xs.map keyW) s.c))).toNat, s.l ++ [entE (xs.map keyW) s.c], _, _⟩, hs.next (hw _) hc0 ho hll _ _, by simp⟩, ?_, ?_, ?_, rfl, ?_, rfl, ⟨?_, rfl, ?_⟩, ⟨?_, rfl, ?_⟩⟩)
      | (show 1001 - (s.l ++ [_]).length < 1001 - s.l.length; rw [hl]; simp; done)
      | (show (((enXF _ _).toNat : Nat) : Int) = enXF _ _; rw [en]; rfl)
      | (show (s.l ++ [_]).length = 1; rw [hl]; rfl)
      | (show [Value.int IntKind.i64 ((s.l ++ [_]).getD 0 _).2.1, Value.int IntKind.u64 ((s.l ++ [_]).getD 0 _).2.2.1, Value.int IntKind.u64 ((s.l ++ [_]).getD 0 _).2.2.2] = _; rw [hl]; rfl)
      | (show entC (s.l ++ [_]) 0 = _; rw [hl]; rfl)
  · obtain ⟨s, hs, hl⟩ := z
    dsimp only at *
    have := chain_end hs (by have := bne_eq_false_iff_eq.1 h1; omega)
    rw [this, hl]
  · obtain ⟨s, hs, hl⟩ := z
    dsimp only at *
    have hc0 : s.c ≠ 0 := fun e => (bne_iff_ne.1 h1) (by rw [e]; rfl)
    refine ⟨fun h2 => chain_no hs hc0 (by simpa using h2), fun h2 => ⟨fun h3 => chain_full hs hc0 (by have := of_decide_eq_true h3; omega), fun h3 => ?_⟩⟩
    have ho : enOkF (hwds (xs.map keyW) s.c).length (wsF (hwds (xs.map keyW) s.c)) = true := by simpa using h2
    have hll : s.l.length < 1000 := by have := of_decide_eq_false h3; omega
    obtain ⟨n, en, _⟩ := enX_nat (hw s.c)
    repeat' first
      | with_reducible exact trivial
      | (intro (Z : KO XR) hz; first | exact hz | exact hz.1 | exact ⟨hz.1, hz.2⟩ | exact hz.2)
      | with_reducible apply And.intro
      | omega
      | (refine ⟨⟨⟨(enXF (hwds (xs.map keyW) s.c).length (wsF (hwds (xs.map keyW) s.c))).toNat, s.l ++ [entE (xs.map keyW) s.c], _, _⟩, hs.next (hw _) hc0 ho hll _ _, by simp⟩, ?_, ?_, ?_, rfl, ?_, rfl, ⟨?_, rfl, ?_⟩, ⟨?_, rfl, ?_⟩⟩)
      | (show 1001 - (s.l ++ [_]).length < 1001 - s.l.length; rw [List.length_append]; simp only [List.length_cons, List.length_nil]; omega)
      | (show (((enXF _ _).toNat : Nat) : Int) = enXF _ _; rw [en]; rfl)
      | (show (s.l ++ [_]).length = s.l.length + 1; rw [List.length_append]; rfl)
      | (intro i hi; show entV (s.l ++ [_]) i = _; unfold entV; rw [getD_app hi]; split <;> rfl)
      | (intro i hi; show entC (s.l ++ [_]) i = _; unfold entC; rw [getD_app hi]; split <;> rfl)
      | intro _
  · obtain ⟨s, hs, hl⟩ := z
    dsimp only at *
    exact ⟨s, chain_end hs (by have := bne_eq_false_iff_eq.1 h1; omega), by simp⟩
end Go.Proofs.Ytnfpkadepomjjaa
