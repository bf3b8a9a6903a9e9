/- HeadBack: for all cursors, versions, entries the law returns true and turns nothing; condition: the numbers lie within their kinds. -/
import Derived.Test.YtcmoffcaiepgbaaBaseF
import Derived.Test.YtcmoffcaiepgbaaBaseG
set_option linter.all false
namespace Go.Proofs.Ytcmoffcaiepgbaa
open Go Go.RowKit
set_option maxRecDepth 1000000
set_option maxHeartbeats 0
def tblB9 : List (Smry Try.prog XE) := [firstS 34 (fun W => by have h := law_trueR first09 W; exact h), hwordsS, hentwS, hsmallS]
theorem smF_in {x : Int} (h : 0 ≤ x ∧ x ≤ 256) : smF x = x := if_neg (by omega)
theorem entB_bd {slot note next : Int} (h : entB slot note next = true) : 0 ≤ slot ∧ slot ≤ 254 := by
  unfold entB at h
  simp only [Bool.and_eq_true, decide_eq_true_eq] at h
  exact h.2.1
/-- What the executor leaves to be shown of roundelay/roundelaylaw09.HeadBack, written out. -/
theorem headBack_vc (cursor mp ml qu fr ln se sl slot note next : Int) : (callN Try.prog (tblB9 : List (Smry Try.prog XE)) (fun _ _ => false) 100 20 9 [.c (.int false .u64 cursor), .agg [.int false .u64 mp, .int false .i64 ml, .int false .u64 qu, .int false .i64 fr, .int false .i64 ln, .int false .u64 se, .int false .i64 sl], .agg [.int false .i64 slot, .int false .u64 note, .int false .u64 next]] ⟨[], 0⟩ (.nil) (fun v _ _ => retTrue v)) = (
    (((0 : Int) ≤ cursor ∧ cursor ≤ (18446744073709551615 : Int)) ∧ ((0 : Int) ≤ mp ∧ mp ≤ (18446744073709551615 : Int)) ∧ ((0 : Int) ≤ qu ∧ qu ≤ (18446744073709551615 : Int)) ∧ (0 :
    Int) ≤ se ∧ se ≤ (18446744073709551615 : Int)) ∧ (∀ (z : Un), headB cursor mp ml qu fr ln se sl = false → (((0 : Int) ≤ note ∧ note ≤ (18446744073709551615 : Int)) ∧ (0 : Int) ≤
    next ∧ next ≤ (18446744073709551615 : Int)) ∧ (∀ (z : Un), entB slot note next = false → true = true) ∧ (∀ (z : Un), entB slot note next = true → (((0 : Int) ≤ slot ∧ slot ≤
    (18446744073709551615 : Int)) ∧ (∀ (z : Un), True → slot = slot ∧ note = note ∧ next = next ∧ (slot = slot ∧ note = note ∧ next = next ∧ ((((0 : Int) ≤ note ∧ note ≤
    (18446744073709551615 : Int)) ∧ (0 : Int) ≤ next ∧ next ≤ (18446744073709551615 : Int)) ∧ (∀ (z : Un), entB (smF slot) note next = false → false = true) ∧ (∀ (z : Un), entB (smF
    slot) note next = true → (true == (smF slot == slot && (note == note && (next == next && true)))) = true) ∧ True) ∧ True) ∧ True) ∧ True) ∧ (∀ (K : KO XE), ((0 : Int) ≤ slot ∧ slot
    ≤ (18446744073709551615 : Int)) ∧ (∀ (z : Un), True → slot = slot ∧ note = note ∧ next = next ∧ (slot = slot ∧ note = note ∧ next = next ∧ K (SF.mk (31 : Nat) (ST.node (SV.c (SC.sli
    (21 : Nat) (1 : Nat) true (0 : Nat) true (3 : Nat) (3 : Nat))) (ST.node (SV.tup []) (ST.node (SV.c (SC.boo true false)) (ST.node (SV.c (SC.sli (21 : Nat) (1 : Nat) true (0 : Nat)
    true (3 : Nat) (3 : Nat))) (ST.node (SV.c (SC.sli (21 : Nat) (1 : Nat) true (0 : Nat) true (3 : Nat) (3 : Nat))) ST.nil ST.nil) (ST.node (SV.tup []) ST.nil ST.nil)) (ST.node (SV.c
    (SC.sli (21 : Nat) (1 : Nat) true (0 : Nat) true (3 : Nat) (3 : Nat))) (ST.node (SV.c (SC.ptr (21 : Nat) (2 : Nat))) ST.nil ST.nil) (ST.node (SV.tup []) ST.nil ST.nil))) (ST.node
    (SV.tup []) (ST.node (SV.c (SC.boo true false)) (ST.node (SV.c (SC.int false IntKind.u64 note)) ST.nil ST.nil) (ST.node (SV.tup []) ST.nil ST.nil)) (ST.node (SV.c (SC.int false
    IntKind.u64 slot)) (ST.node (SV.agg [SC.int false IntKind.i64 (smF slot), SC.int false IntKind.u64 note, SC.int false IntKind.u64 next]) ST.nil ST.nil) (ST.node (SV.tup []) ST.nil
    ST.nil)))) (ST.node (SV.c (SC.ptr (31 : Nat) (0 : Nat))) (ST.node (SV.c (SC.ptr (47 : Nat) (0 : Nat))) (ST.node (SV.c (SC.int true IntKind.i64 (3 : Int) Bd.any)) (ST.node (SV.c
    (SC.ptr (21 : Nat) (1 : Nat))) ST.nil ST.nil) (ST.node (SV.tup []) ST.nil ST.nil)) (ST.node (SV.c (SC.ptr (21 : Nat) (0 : Nat))) (ST.node (SV.c (SC.int false IntKind.u64 next))
    ST.nil ST.nil) (ST.node (SV.tup []) ST.nil ST.nil))) (ST.node (SV.tup []) (ST.node (SV.tup []) (ST.node (SV.c (SC.sli (21 : Nat) (1 : Nat) true (0 : Nat) true (3 : Nat) (3 : Nat)))
    ST.nil ST.nil) (ST.node (SV.tup []) ST.nil ST.nil)) (ST.node (SV.c (SC.int false IntKind.i64 (smF slot))) (ST.node (SV.tup []) ST.nil ST.nil) (ST.node (SV.tup []) ST.nil ST.nil)))))
    []) (Mem.mk [((0 : Nat), SO.cells [SC.int false IntKind.u64 mp, SC.int false IntKind.i64 ml, SC.int false IntKind.u64 qu, SC.int false IntKind.i64 fr, SC.int false IntKind.i64 ln,
    SC.int false IntKind.u64 se, SC.int false IntKind.i64 sl] (75 : Nat)), ((1 : Nat), SO.cells [SC.int false IntKind.i64 slot, SC.int false IntKind.u64 note, SC.int false IntKind.u64
    next] (77 : Nat)), ((21 : Nat), SO.cells [SC.int false IntKind.u64 slot, SC.int false IntKind.u64 note, SC.int false IntKind.u64 next] (OfNat.ofNat (25 : Nat))), ((31 : Nat),
    SO.cells [SC.int true IntKind.i64 (0 : Int), SC.int true IntKind.u64 (0 : Int), SC.int true IntKind.u64 (0 : Int)] (77 : Nat)), ((47 : Nat), SO.cells [SC.int false IntKind.i64 (smF
    slot), SC.int false IntKind.u64 note, SC.int false IntKind.u64 next] (77 : Nat))] (49 : Nat)) Scr.nil ∧ True) ∧ True) ∧ True → slot = slot ∧ note = note ∧ next = next ∧ (((0 : Int)
    ≤ slot ∧ slot ≤ (18446744073709551615 : Int)) ∧ (∀ (z : Un), True → slot = slot ∧ note = note ∧ next = next ∧ K (SF.mk (31 : Nat) (ST.node (SV.c (SC.sli (21 : Nat) (1 : Nat) true (0
    : Nat) true (3 : Nat) (3 : Nat))) (ST.node (SV.tup []) (ST.node (SV.c (SC.boo true false)) (ST.node (SV.c (SC.sli (21 : Nat) (1 : Nat) true (0 : Nat) true (3 : Nat) (3 : Nat)))
    (ST.node (SV.c (SC.sli (21 : Nat) (1 : Nat) true (0 : Nat) true (3 : Nat) (3 : Nat))) ST.nil ST.nil) (ST.node (SV.tup []) ST.nil ST.nil)) (ST.node (SV.c (SC.sli (21 : Nat) (1 : Nat)
    true (0 : Nat) true (3 : Nat) (3 : Nat))) (ST.node (SV.c (SC.ptr (21 : Nat) (2 : Nat))) ST.nil ST.nil) (ST.node (SV.tup []) ST.nil ST.nil))) (ST.node (SV.tup []) (ST.node (SV.c
    (SC.boo true false)) (ST.node (SV.c (SC.int false IntKind.u64 note)) ST.nil ST.nil) (ST.node (SV.tup []) ST.nil ST.nil)) (ST.node (SV.c (SC.int false IntKind.u64 slot)) (ST.node
    (SV.agg [SC.int false IntKind.i64 (smF slot), SC.int false IntKind.u64 note, SC.int false IntKind.u64 next]) ST.nil ST.nil) (ST.node (SV.tup []) ST.nil ST.nil)))) (ST.node (SV.c
    (SC.ptr (31 : Nat) (0 : Nat))) (ST.node (SV.c (SC.ptr (47 : Nat) (0 : Nat))) (ST.node (SV.c (SC.int true IntKind.i64 (3 : Int) Bd.any)) (ST.node (SV.c (SC.ptr (21 : Nat) (1 : Nat)))
    ST.nil ST.nil) (ST.node (SV.tup []) ST.nil ST.nil)) (ST.node (SV.c (SC.ptr (21 : Nat) (0 : Nat))) (ST.node (SV.c (SC.int false IntKind.u64 next)) ST.nil ST.nil) (ST.node (SV.tup [])
    ST.nil ST.nil))) (ST.node (SV.tup []) (ST.node (SV.tup []) (ST.node (SV.c (SC.sli (21 : Nat) (1 : Nat) true (0 : Nat) true (3 : Nat) (3 : Nat))) ST.nil ST.nil) (ST.node (SV.tup [])
    ST.nil ST.nil)) (ST.node (SV.c (SC.int false IntKind.i64 (smF slot))) (ST.node (SV.tup []) ST.nil ST.nil) (ST.node (SV.tup []) ST.nil ST.nil))))) []) (Mem.mk [((0 : Nat), SO.cells
    [SC.int false IntKind.u64 mp, SC.int false IntKind.i64 ml, SC.int false IntKind.u64 qu, SC.int false IntKind.i64 fr, SC.int false IntKind.i64 ln, SC.int false IntKind.u64 se, SC.int
    false IntKind.i64 sl] (75 : Nat)), ((1 : Nat), SO.cells [SC.int false IntKind.i64 slot, SC.int false IntKind.u64 note, SC.int false IntKind.u64 next] (77 : Nat)), ((21 : Nat),
    SO.cells [SC.int false IntKind.u64 slot, SC.int false IntKind.u64 note, SC.int false IntKind.u64 next] (OfNat.ofNat (25 : Nat))), ((31 : Nat), SO.cells [SC.int true IntKind.i64 (0 :
    Int), SC.int true IntKind.u64 (0 : Int), SC.int true IntKind.u64 (0 : Int)] (77 : Nat)), ((47 : Nat), SO.cells [SC.int false IntKind.i64 (smF slot), SC.int false IntKind.u64 note,
    SC.int false IntKind.u64 next] (77 : Nat))] (49 : Nat)) Scr.nil ∧ True) ∧ True) ∧ True) ∧ True) ∧ True) ∧ (∀ (z : Un), headB cursor mp ml qu fr ln se sl = true → (((0 : Int) ≤ ml ∧
    ml ≤ (18446744073709551615 : Int)) ∧ (∀ (z : Un), True → cursor = cursor ∧ mp = mp ∧ ml = ml ∧ qu = qu ∧ fr = fr ∧ ln = ln ∧ se = se ∧ sl = sl ∧ (((0 : Int) ≤ fr ∧ fr ≤
    (18446744073709551615 : Int)) ∧ (∀ (z : Un), True → cursor = cursor ∧ mp = mp ∧ ml = ml ∧ qu = qu ∧ fr = fr ∧ ln = ln ∧ se = se ∧ sl = sl ∧ (((0 : Int) ≤ ln ∧ ln ≤
    (18446744073709551615 : Int)) ∧ (∀ (z : Un), True → cursor = cursor ∧ mp = mp ∧ ml = ml ∧ qu = qu ∧ fr = fr ∧ ln = ln ∧ se = se ∧ sl = sl ∧ (((0 : Int) ≤ sl ∧ sl ≤
    (18446744073709551615 : Int)) ∧ (∀ (z : Un), True → cursor = cursor ∧ mp = mp ∧ ml = ml ∧ qu = qu ∧ fr = fr ∧ ln = ln ∧ se = se ∧ sl = sl ∧ (cursor = cursor ∧ mp = mp ∧ ml = ml ∧ qu
    = qu ∧ fr = fr ∧ ln = ln ∧ se = se ∧ sl = sl ∧ (((((0 : Int) ≤ cursor ∧ cursor ≤ (18446744073709551615 : Int)) ∧ ((0 : Int) ≤ mp ∧ mp ≤ (18446744073709551615 : Int)) ∧ ((0 : Int) ≤
    qu ∧ qu ≤ (18446744073709551615 : Int)) ∧ (0 : Int) ≤ se ∧ se ≤ (18446744073709551615 : Int)) ∧ (∀ (z : Un), headB cursor mp (smF ml) qu (smF fr) (smF ln) se (smF sl) = false →
    false = true) ∧ (∀ (z : Un), headB cursor mp (smF ml) qu (smF fr) (smF ln) se (smF sl) = true → (((cursor != cursor) = true → false = true) ∧ ((cursor != cursor) = false → ((false
    == (mp == mp && (smF ml == ml && (qu == qu && (smF fr == fr && (smF ln == ln && (se == se && (smF sl == sl && true)))))))) = true → false = true) ∧ ((false == (mp == mp && (smF ml
    == ml && (qu == qu && (smF fr == fr && (smF ln == ln && (se == se && (smF sl == sl && true)))))))) = false → (((0 : Int) ≤ note ∧ note ≤ (18446744073709551615 : Int)) ∧ (0 : Int) ≤
    next ∧ next ≤ (18446744073709551615 : Int)) ∧ (∀ (z : Un), entB slot note next = false → true = true) ∧ (∀ (z : Un), entB slot note next = true → (((0 : Int) ≤ slot ∧ slot ≤
    (18446744073709551615 : Int)) ∧ (∀ (z : Un), True → slot = slot ∧ note = note ∧ next = next ∧ (slot = slot ∧ note = note ∧ next = next ∧ ((((0 : Int) ≤ note ∧ note ≤
    (18446744073709551615 : Int)) ∧ (0 : Int) ≤ next ∧ next ≤ (18446744073709551615 : Int)) ∧ (∀ (z : Un), entB (smF slot) note next = false → false = true) ∧ (∀ (z : Un), entB (smF
    slot) note next = true → (true == (smF slot == slot && (note == note && (next == next && true)))) = true) ∧ True) ∧ True) ∧ True) ∧ True) ∧ (∀ (K : KO XE), ((0 : Int) ≤ slot ∧ slot
    ≤ (18446744073709551615 : Int)) ∧ (∀ (z : Un), True → slot = slot ∧ note = note ∧ next = next ∧ (slot = slot ∧ note = note ∧ next = next ∧ K (SF.mk (31 : Nat) (ST.node (SV.c (SC.sli
    (98 : Nat) (1 : Nat) true (0 : Nat) true (3 : Nat) (3 : Nat))) (ST.node (SV.tup []) (ST.node (SV.c (SC.boo true false)) (ST.node (SV.c (SC.sli (98 : Nat) (1 : Nat) true (0 : Nat)
    true (3 : Nat) (3 : Nat))) (ST.node (SV.c (SC.sli (98 : Nat) (1 : Nat) true (0 : Nat) true (3 : Nat) (3 : Nat))) ST.nil ST.nil) (ST.node (SV.tup []) ST.nil ST.nil)) (ST.node (SV.c
    (SC.sli (98 : Nat) (1 : Nat) true (0 : Nat) true (3 : Nat) (3 : Nat))) (ST.node (SV.c (SC.ptr (98 : Nat) (2 : Nat))) ST.nil ST.nil) (ST.node (SV.tup []) ST.nil ST.nil))) (ST.node
    (SV.tup []) (ST.node (SV.c (SC.boo true false)) (ST.node (SV.c (SC.int false IntKind.u64 note)) ST.nil ST.nil) (ST.node (SV.tup []) ST.nil ST.nil)) (ST.node (SV.c (SC.int false
    IntKind.u64 slot)) (ST.node (SV.agg [SC.int false IntKind.i64 (smF slot), SC.int false IntKind.u64 note, SC.int false IntKind.u64 next]) ST.nil ST.nil) (ST.node (SV.tup []) ST.nil
    ST.nil)))) (ST.node (SV.c (SC.ptr (108 : Nat) (0 : Nat))) (ST.node (SV.c (SC.ptr (124 : Nat) (0 : Nat))) (ST.node (SV.c (SC.int true IntKind.i64 (3 : Int) Bd.any)) (ST.node (SV.c
    (SC.ptr (98 : Nat) (1 : Nat))) ST.nil ST.nil) (ST.node (SV.tup []) ST.nil ST.nil)) (ST.node (SV.c (SC.ptr (98 : Nat) (0 : Nat))) (ST.node (SV.c (SC.int false IntKind.u64 next))
    ST.nil ST.nil) (ST.node (SV.tup []) ST.nil ST.nil))) (ST.node (SV.tup []) (ST.node (SV.tup []) (ST.node (SV.c (SC.sli (98 : Nat) (1 : Nat) true (0 : Nat) true (3 : Nat) (3 : Nat)))
    ST.nil ST.nil) (ST.node (SV.tup []) ST.nil ST.nil)) (ST.node (SV.c (SC.int false IntKind.i64 (smF slot))) (ST.node (SV.tup []) ST.nil ST.nil) (ST.node (SV.tup []) ST.nil ST.nil)))))
    []) (Mem.mk [((0 : Nat), SO.cells [SC.int false IntKind.u64 mp, SC.int false IntKind.i64 ml, SC.int false IntKind.u64 qu, SC.int false IntKind.i64 fr, SC.int false IntKind.i64 ln,
    SC.int false IntKind.u64 se, SC.int false IntKind.i64 sl] (75 : Nat)), ((1 : Nat), SO.cells [SC.int false IntKind.i64 slot, SC.int false IntKind.u64 note, SC.int false IntKind.u64
    next] (77 : Nat)), ((13 : Nat), SO.cells [SC.int false IntKind.u64 cursor, SC.int false IntKind.u64 mp, SC.int false IntKind.u64 ml, SC.int false IntKind.u64 qu, SC.int false
    IntKind.u64 fr, SC.int false IntKind.u64 ln, SC.int false IntKind.u64 se, SC.int false IntKind.u64 sl] (OfNat.ofNat (25 : Nat))), ((21 : Nat), SO.cells [SC.int false IntKind.u64 mp,
    SC.int false IntKind.i64 (smF ml), SC.int false IntKind.u64 qu, SC.int false IntKind.i64 (smF fr), SC.int false IntKind.i64 (smF ln), SC.int false IntKind.u64 se, SC.int false
    IntKind.i64 (smF sl)] (75 : Nat)), ((26 : Nat), SO.cells [SC.int false IntKind.u64 mp, SC.int false IntKind.i64 (smF ml), SC.int false IntKind.u64 qu, SC.int false IntKind.i64 (smF
    fr), SC.int false IntKind.i64 (smF ln), SC.int false IntKind.u64 se, SC.int false IntKind.i64 (smF sl)] (75 : Nat)), ((57 : Nat), SO.cells [SC.int false IntKind.u64 mp, SC.int false
    IntKind.i64 (smF ml), SC.int false IntKind.u64 qu, SC.int false IntKind.i64 (smF fr), SC.int false IntKind.i64 (smF ln), SC.int false IntKind.u64 se, SC.int false IntKind.i64 (smF
    sl)] (75 : Nat)), ((69 : Nat), SO.cells [SC.int false IntKind.u64 cursor, SC.int false IntKind.u64 mp, SC.int false IntKind.u64 (smF ml), SC.int false IntKind.u64 qu, SC.int false
    IntKind.u64 (smF fr), SC.int false IntKind.u64 (smF ln), SC.int false IntKind.u64 se, SC.int false IntKind.u64 (smF sl)] (OfNat.ofNat (25 : Nat))), ((98 : Nat), SO.cells [SC.int
    false IntKind.u64 slot, SC.int false IntKind.u64 note, SC.int false IntKind.u64 next] (OfNat.ofNat (25 : Nat))), ((108 : Nat), SO.cells [SC.int true IntKind.i64 (0 : Int), SC.int
    true IntKind.u64 (0 : Int), SC.int true IntKind.u64 (0 : Int)] (77 : Nat)), ((124 : Nat), SO.cells [SC.int false IntKind.i64 (smF slot), SC.int false IntKind.u64 note, SC.int false
    IntKind.u64 next] (77 : Nat))] (126 : Nat)) Scr.nil ∧ True) ∧ True) ∧ True → slot = slot ∧ note = note ∧ next = next ∧ (((0 : Int) ≤ slot ∧ slot ≤ (18446744073709551615 : Int)) ∧ (∀
    (z : Un), True → slot = slot ∧ note = note ∧ next = next ∧ K (SF.mk (31 : Nat) (ST.node (SV.c (SC.sli (98 : Nat) (1 : Nat) true (0 : Nat) true (3 : Nat) (3 : Nat))) (ST.node (SV.tup
    []) (ST.node (SV.c (SC.boo true false)) (ST.node (SV.c (SC.sli (98 : Nat) (1 : Nat) true (0 : Nat) true (3 : Nat) (3 : Nat))) (ST.node (SV.c (SC.sli (98 : Nat) (1 : Nat) true (0 :
    Nat) true (3 : Nat) (3 : Nat))) ST.nil ST.nil) (ST.node (SV.tup []) ST.nil ST.nil)) (ST.node (SV.c (SC.sli (98 : Nat) (1 : Nat) true (0 : Nat) true (3 : Nat) (3 : Nat))) (ST.node
    (SV.c (SC.ptr (98 : Nat) (2 : Nat))) ST.nil ST.nil) (ST.node (SV.tup []) ST.nil ST.nil))) (ST.node (SV.tup []) (ST.node (SV.c (SC.boo true false)) (ST.node (SV.c (SC.int false
    IntKind.u64 note)) ST.nil ST.nil) (ST.node (SV.tup []) ST.nil ST.nil)) (ST.node (SV.c (SC.int false IntKind.u64 slot)) (ST.node (SV.agg [SC.int false IntKind.i64 (smF slot), SC.int
    false IntKind.u64 note, SC.int false IntKind.u64 next]) ST.nil ST.nil) (ST.node (SV.tup []) ST.nil ST.nil)))) (ST.node (SV.c (SC.ptr (108 : Nat) (0 : Nat))) (ST.node (SV.c (SC.ptr
    (124 : Nat) (0 : Nat))) (ST.node (SV.c (SC.int true IntKind.i64 (3 : Int) Bd.any)) (ST.node (SV.c (SC.ptr (98 : Nat) (1 : Nat))) ST.nil ST.nil) (ST.node (SV.tup []) ST.nil ST.nil))
    (ST.node (SV.c (SC.ptr (98 : Nat) (0 : Nat))) (ST.node (SV.c (SC.int false IntKind.u64 next)) ST.nil ST.nil) (ST.node (SV.tup []) ST.nil ST.nil))) (ST.node (SV.tup []) (ST.node
    (SV.tup []) (ST.node (SV.c (SC.sli (98 : Nat) (1 : Nat) true (0 : Nat) true (3 : Nat) (3 : Nat))) ST.nil ST.nil) (ST.node (SV.tup []) ST.nil ST.nil)) (ST.node (SV.c (SC.int false
    IntKind.i64 (smF slot))) (ST.node (SV.tup []) ST.nil ST.nil) (ST.node (SV.tup []) ST.nil ST.nil))))) []) (Mem.mk [((0 : Nat), SO.cells [SC.int false IntKind.u64 mp, SC.int false
    IntKind.i64 ml, SC.int false IntKind.u64 qu, SC.int false IntKind.i64 fr, SC.int false IntKind.i64 ln, SC.int false IntKind.u64 se, SC.int false IntKind.i64 sl] (75 : Nat)), ((1 :
    Nat), SO.cells [SC.int false IntKind.i64 slot, SC.int false IntKind.u64 note, SC.int false IntKind.u64 next] (77 : Nat)), ((13 : Nat), SO.cells [SC.int false IntKind.u64 cursor,
    SC.int false IntKind.u64 mp, SC.int false IntKind.u64 ml, SC.int false IntKind.u64 qu, SC.int false IntKind.u64 fr, SC.int false IntKind.u64 ln, SC.int false IntKind.u64 se, SC.int
    false IntKind.u64 sl] (OfNat.ofNat (25 : Nat))), ((21 : Nat), SO.cells [SC.int false IntKind.u64 mp, SC.int false IntKind.i64 (smF ml), SC.int false IntKind.u64 qu, SC.int false
    IntKind.i64 (smF fr), SC.int false IntKind.i64 (smF ln), SC.int false IntKind.u64 se, SC.int false IntKind.i64 (smF sl)] (75 : Nat)), ((26 : Nat), SO.cells [SC.int false IntKind.u64
    mp, SC.int false IntKind.i64 (smF ml), SC.int false IntKind.u64 qu, SC.int false IntKind.i64 (smF fr), SC.int false IntKind.i64 (smF ln), SC.int false IntKind.u64 se, SC.int false
    IntKind.i64 (smF sl)] (75 : Nat)), ((57 : Nat), SO.cells [SC.int false IntKind.u64 mp, SC.int false IntKind.i64 (smF ml), SC.int false IntKind.u64 qu, SC.int false IntKind.i64 (smF
    fr), SC.int false IntKind.i64 (smF ln), SC.int false IntKind.u64 se, SC.int false IntKind.i64 (smF sl)] (75 : Nat)), ((69 : Nat), SO.cells [SC.int false IntKind.u64 cursor, SC.int
    false IntKind.u64 mp, SC.int false IntKind.u64 (smF ml), SC.int false IntKind.u64 qu, SC.int false IntKind.u64 (smF fr), SC.int false IntKind.u64 (smF ln), SC.int false IntKind.u64
    se, SC.int false IntKind.u64 (smF sl)] (OfNat.ofNat (25 : Nat))), ((98 : Nat), SO.cells [SC.int false IntKind.u64 slot, SC.int false IntKind.u64 note, SC.int false IntKind.u64 next]
    (OfNat.ofNat (25 : Nat))), ((108 : Nat), SO.cells [SC.int true IntKind.i64 (0 : Int), SC.int true IntKind.u64 (0 : Int), SC.int true IntKind.u64 (0 : Int)] (77 : Nat)), ((124 :
    Nat), SO.cells [SC.int false IntKind.i64 (smF slot), SC.int false IntKind.u64 note, SC.int false IntKind.u64 next] (77 : Nat))] (126 : Nat)) Scr.nil ∧ True) ∧ True) ∧ True) ∧ True)
    ∧ True))) ∧ True) ∧ True) ∧ True) ∧ True) ∧ True) ∧ True) ∧ (∀ (K : KO XE), ((0 : Int) ≤ sl ∧ sl ≤ (18446744073709551615 : Int)) ∧ (∀ (z : Un), True → cursor = cursor ∧ mp = mp ∧ ml
    = ml ∧ qu = qu ∧ fr = fr ∧ ln = ln ∧ se = se ∧ sl = sl ∧ (cursor = cursor ∧ mp = mp ∧ ml = ml ∧ qu = qu ∧ fr = fr ∧ ln = ln ∧ se = se ∧ sl = sl ∧ K (SF.mk (53 : Nat) (ST.node (SV.c
    (SC.sli (13 : Nat) (1 : Nat) true (0 : Nat) true (8 : Nat) (8 : Nat))) (ST.node (SV.tup []) (ST.node (SV.c (SC.ptr (26 : Nat) (0 : Nat))) (ST.node (SV.tup []) (ST.node (SV.c (SC.sli
    (13 : Nat) (1 : Nat) true (0 : Nat) true (8 : Nat) (8 : Nat))) (ST.node (SV.c (SC.ptr (13 : Nat) (6 : Nat))) ST.nil ST.nil) (ST.node (SV.tup []) ST.nil ST.nil)) (ST.node (SV.c
    (SC.ptr (13 : Nat) (4 : Nat))) (ST.node (SV.tup []) ST.nil ST.nil) ST.nil)) (ST.node (SV.tup []) (ST.node (SV.c (SC.sli (13 : Nat) (1 : Nat) true (0 : Nat) true (8 : Nat) (8 :
    Nat))) (ST.node (SV.c (SC.int false IntKind.u64 sl)) ST.nil ST.nil) (ST.node (SV.tup []) ST.nil ST.nil)) (ST.node (SV.c (SC.ptr (13 : Nat) (5 : Nat))) (ST.node (SV.tup []) ST.nil
    ST.nil) ST.nil))) (ST.node (SV.c (SC.ptr (57 : Nat) (0 : Nat))) (ST.node (SV.c (SC.int true IntKind.i64 (8 : Int) Bd.any)) (ST.node (SV.c (SC.int false IntKind.u64 ml)) (ST.node
    (SV.c (SC.sli (13 : Nat) (1 : Nat) true (0 : Nat) true (8 : Nat) (8 : Nat))) ST.nil ST.nil) (ST.node (SV.tup []) ST.nil ST.nil)) (ST.node (SV.c (SC.int false IntKind.i64 (smF fr)))
    (ST.node (SV.tup []) ST.nil ST.nil) ST.nil)) (ST.node (SV.c (SC.ptr (13 : Nat) (1 : Nat))) (ST.node (SV.c (SC.int false IntKind.u64 qu)) (ST.node (SV.agg [SC.int false IntKind.u64
    mp, SC.int false IntKind.i64 (smF ml), SC.int false IntKind.u64 qu, SC.int false IntKind.i64 (smF fr), SC.int false IntKind.i64 (smF ln), SC.int false IntKind.u64 se, SC.int false
    IntKind.i64 (smF sl)]) ST.nil ST.nil) ST.nil) (ST.node (SV.c (SC.int false IntKind.i64 (smF ln))) (ST.node (SV.tup []) ST.nil ST.nil) ST.nil)))) (ST.node (SV.c (SC.int true
    IntKind.u64 (0 : Int))) (ST.node (SV.c (SC.boo true false)) (ST.node (SV.c (SC.sli (13 : Nat) (1 : Nat) true (0 : Nat) true (8 : Nat) (8 : Nat))) (ST.node (SV.c (SC.ptr (13 : Nat)
    (2 : Nat))) (ST.node (SV.c (SC.int false IntKind.u64 se)) ST.nil ST.nil) (ST.node (SV.tup []) ST.nil ST.nil)) (ST.node (SV.c (SC.int false IntKind.u64 fr)) (ST.node (SV.tup [])
    ST.nil ST.nil) ST.nil)) (ST.node (SV.c (SC.sli (13 : Nat) (1 : Nat) true (0 : Nat) true (8 : Nat) (8 : Nat))) (ST.node (SV.c (SC.ptr (13 : Nat) (3 : Nat))) (ST.node (SV.c (SC.int
    false IntKind.i64 (smF sl))) ST.nil ST.nil) (ST.node (SV.tup []) ST.nil ST.nil)) (ST.node (SV.c (SC.int false IntKind.u64 ln)) (ST.node (SV.tup []) ST.nil ST.nil) ST.nil))) (ST.node
    (SV.tup []) (ST.node (SV.c (SC.boo true false)) (ST.node (SV.c (SC.int false IntKind.i64 (smF ml))) (ST.node (SV.c (SC.ptr (13 : Nat) (7 : Nat))) ST.nil ST.nil) (ST.node (SV.tup [])
    ST.nil ST.nil)) (ST.node (SV.c (SC.sli (13 : Nat) (1 : Nat) true (0 : Nat) true (8 : Nat) (8 : Nat))) (ST.node (SV.tup []) ST.nil ST.nil) ST.nil)) (ST.node (SV.c (SC.int false
    IntKind.u64 mp)) (ST.node (SV.c (SC.sli (13 : Nat) (1 : Nat) true (0 : Nat) true (8 : Nat) (8 : Nat))) (ST.node (SV.tup []) ST.nil ST.nil) ST.nil) (ST.node (SV.c (SC.sli (13 : Nat)
    (1 : Nat) true (0 : Nat) true (8 : Nat) (8 : Nat))) (ST.node (SV.tup []) ST.nil ST.nil) ST.nil))))) []) (Mem.mk [((0 : Nat), SO.cells [SC.int false IntKind.u64 mp, SC.int false
    IntKind.i64 ml, SC.int false IntKind.u64 qu, SC.int false IntKind.i64 fr, SC.int false IntKind.i64 ln, SC.int false IntKind.u64 se, SC.int false IntKind.i64 sl] (75 : Nat)), ((1 :
    Nat), SO.cells [SC.int false IntKind.i64 slot, SC.int false IntKind.u64 note, SC.int false IntKind.u64 next] (77 : Nat)), ((13 : Nat), SO.cells [SC.int false IntKind.u64 cursor,
    SC.int false IntKind.u64 mp, SC.int false IntKind.u64 ml, SC.int false IntKind.u64 qu, SC.int false IntKind.u64 fr, SC.int false IntKind.u64 ln, SC.int false IntKind.u64 se, SC.int
    false IntKind.u64 sl] (OfNat.ofNat (25 : Nat))), ((26 : Nat), SO.cells [SC.int true IntKind.u64 (0 : Int), SC.int true IntKind.i64 (0 : Int), SC.int true IntKind.u64 (0 : Int),
    SC.int true IntKind.i64 (0 : Int), SC.int true IntKind.i64 (0 : Int), SC.int true IntKind.u64 (0 : Int), SC.int true IntKind.i64 (0 : Int)] (75 : Nat)), ((57 : Nat), SO.cells
    [SC.int false IntKind.u64 mp, SC.int false IntKind.i64 (smF ml), SC.int false IntKind.u64 qu, SC.int false IntKind.i64 (smF fr), SC.int false IntKind.i64 (smF ln), SC.int false
    IntKind.u64 se, SC.int false IntKind.i64 (smF sl)] (75 : Nat))] (59 : Nat)) Scr.nil ∧ True) ∧ True) ∧ True → cursor = cursor ∧ mp = mp ∧ ml = ml ∧ qu = qu ∧ fr = fr ∧ ln = ln ∧ se =
    se ∧ sl = sl ∧ (((0 : Int) ≤ sl ∧ sl ≤ (18446744073709551615 : Int)) ∧ (∀ (z : Un), True → cursor = cursor ∧ mp = mp ∧ ml = ml ∧ qu = qu ∧ fr = fr ∧ ln = ln ∧ se = se ∧ sl = sl ∧ K
    (SF.mk (53 : Nat) (ST.node (SV.c (SC.sli (13 : Nat) (1 : Nat) true (0 : Nat) true (8 : Nat) (8 : Nat))) (ST.node (SV.tup []) (ST.node (SV.c (SC.ptr (26 : Nat) (0 : Nat))) (ST.node
    (SV.tup []) (ST.node (SV.c (SC.sli (13 : Nat) (1 : Nat) true (0 : Nat) true (8 : Nat) (8 : Nat))) (ST.node (SV.c (SC.ptr (13 : Nat) (6 : Nat))) ST.nil ST.nil) (ST.node (SV.tup [])
    ST.nil ST.nil)) (ST.node (SV.c (SC.ptr (13 : Nat) (4 : Nat))) (ST.node (SV.tup []) ST.nil ST.nil) ST.nil)) (ST.node (SV.tup []) (ST.node (SV.c (SC.sli (13 : Nat) (1 : Nat) true (0 :
    Nat) true (8 : Nat) (8 : Nat))) (ST.node (SV.c (SC.int false IntKind.u64 sl)) ST.nil ST.nil) (ST.node (SV.tup []) ST.nil ST.nil)) (ST.node (SV.c (SC.ptr (13 : Nat) (5 : Nat)))
    (ST.node (SV.tup []) ST.nil ST.nil) ST.nil))) (ST.node (SV.c (SC.ptr (57 : Nat) (0 : Nat))) (ST.node (SV.c (SC.int true IntKind.i64 (8 : Int) Bd.any)) (ST.node (SV.c (SC.int false
    IntKind.u64 ml)) (ST.node (SV.c (SC.sli (13 : Nat) (1 : Nat) true (0 : Nat) true (8 : Nat) (8 : Nat))) ST.nil ST.nil) (ST.node (SV.tup []) ST.nil ST.nil)) (ST.node (SV.c (SC.int
    false IntKind.i64 (smF fr))) (ST.node (SV.tup []) ST.nil ST.nil) ST.nil)) (ST.node (SV.c (SC.ptr (13 : Nat) (1 : Nat))) (ST.node (SV.c (SC.int false IntKind.u64 qu)) (ST.node
    (SV.agg [SC.int false IntKind.u64 mp, SC.int false IntKind.i64 (smF ml), SC.int false IntKind.u64 qu, SC.int false IntKind.i64 (smF fr), SC.int false IntKind.i64 (smF ln), SC.int
    false IntKind.u64 se, SC.int false IntKind.i64 (smF sl)]) ST.nil ST.nil) ST.nil) (ST.node (SV.c (SC.int false IntKind.i64 (smF ln))) (ST.node (SV.tup []) ST.nil ST.nil) ST.nil))))
    (ST.node (SV.c (SC.int true IntKind.u64 (0 : Int))) (ST.node (SV.c (SC.boo true false)) (ST.node (SV.c (SC.sli (13 : Nat) (1 : Nat) true (0 : Nat) true (8 : Nat) (8 : Nat)))
    (ST.node (SV.c (SC.ptr (13 : Nat) (2 : Nat))) (ST.node (SV.c (SC.int false IntKind.u64 se)) ST.nil ST.nil) (ST.node (SV.tup []) ST.nil ST.nil)) (ST.node (SV.c (SC.int false
    IntKind.u64 fr)) (ST.node (SV.tup []) ST.nil ST.nil) ST.nil)) (ST.node (SV.c (SC.sli (13 : Nat) (1 : Nat) true (0 : Nat) true (8 : Nat) (8 : Nat))) (ST.node (SV.c (SC.ptr (13 : Nat)
    (3 : Nat))) (ST.node (SV.c (SC.int false IntKind.i64 (smF sl))) ST.nil ST.nil) (ST.node (SV.tup []) ST.nil ST.nil)) (ST.node (SV.c (SC.int false IntKind.u64 ln)) (ST.node (SV.tup
    []) ST.nil ST.nil) ST.nil))) (ST.node (SV.tup []) (ST.node (SV.c (SC.boo true false)) (ST.node (SV.c (SC.int false IntKind.i64 (smF ml))) (ST.node (SV.c (SC.ptr (13 : Nat) (7 :
    Nat))) ST.nil ST.nil) (ST.node (SV.tup []) ST.nil ST.nil)) (ST.node (SV.c (SC.sli (13 : Nat) (1 : Nat) true (0 : Nat) true (8 : Nat) (8 : Nat))) (ST.node (SV.tup []) ST.nil ST.nil)
    ST.nil)) (ST.node (SV.c (SC.int false IntKind.u64 mp)) (ST.node (SV.c (SC.sli (13 : Nat) (1 : Nat) true (0 : Nat) true (8 : Nat) (8 : Nat))) (ST.node (SV.tup []) ST.nil ST.nil)
    ST.nil) (ST.node (SV.c (SC.sli (13 : Nat) (1 : Nat) true (0 : Nat) true (8 : Nat) (8 : Nat))) (ST.node (SV.tup []) ST.nil ST.nil) ST.nil))))) []) (Mem.mk [((0 : Nat), SO.cells
    [SC.int false IntKind.u64 mp, SC.int false IntKind.i64 ml, SC.int false IntKind.u64 qu, SC.int false IntKind.i64 fr, SC.int false IntKind.i64 ln, SC.int false IntKind.u64 se, SC.int
    false IntKind.i64 sl] (75 : Nat)), ((1 : Nat), SO.cells [SC.int false IntKind.i64 slot, SC.int false IntKind.u64 note, SC.int false IntKind.u64 next] (77 : Nat)), ((13 : Nat),
    SO.cells [SC.int false IntKind.u64 cursor, SC.int false IntKind.u64 mp, SC.int false IntKind.u64 ml, SC.int false IntKind.u64 qu, SC.int false IntKind.u64 fr, SC.int false
    IntKind.u64 ln, SC.int false IntKind.u64 se, SC.int false IntKind.u64 sl] (OfNat.ofNat (25 : Nat))), ((26 : Nat), SO.cells [SC.int true IntKind.u64 (0 : Int), SC.int true
    IntKind.i64 (0 : Int), SC.int true IntKind.u64 (0 : Int), SC.int true IntKind.i64 (0 : Int), SC.int true IntKind.i64 (0 : Int), SC.int true IntKind.u64 (0 : Int), SC.int true
    IntKind.i64 (0 : Int)] (75 : Nat)), ((57 : Nat), SO.cells [SC.int false IntKind.u64 mp, SC.int false IntKind.i64 (smF ml), SC.int false IntKind.u64 qu, SC.int false IntKind.i64 (smF
    fr), SC.int false IntKind.i64 (smF ln), SC.int false IntKind.u64 se, SC.int false IntKind.i64 (smF sl)] (75 : Nat))] (59 : Nat)) Scr.nil ∧ True) ∧ True) ∧ True) ∧ True) ∧ True) ∧ (∀
    (K : KO XE), ((0 : Int) ≤ ln ∧ ln ≤ (18446744073709551615 : Int)) ∧ (∀ (z : Un), True → cursor = cursor ∧ mp = mp ∧ ml = ml ∧ qu = qu ∧ fr = fr ∧ ln = ln ∧ se = se ∧ sl = sl ∧ (((0
    : Int) ≤ sl ∧ sl ≤ (18446744073709551615 : Int)) ∧ (∀ (z : Un), True → cursor = cursor ∧ mp = mp ∧ ml = ml ∧ qu = qu ∧ fr = fr ∧ ln = ln ∧ se = se ∧ sl = sl ∧ (cursor = cursor ∧ mp
    = mp ∧ ml = ml ∧ qu = qu ∧ fr = fr ∧ ln = ln ∧ se = se ∧ sl = sl ∧ K (SF.mk (53 : Nat) (ST.node (SV.c (SC.sli (13 : Nat) (1 : Nat) true (0 : Nat) true (8 : Nat) (8 : Nat))) (ST.node
    (SV.tup []) (ST.node (SV.c (SC.ptr (26 : Nat) (0 : Nat))) (ST.node (SV.tup []) (ST.node (SV.c (SC.sli (13 : Nat) (1 : Nat) true (0 : Nat) true (8 : Nat) (8 : Nat))) (ST.node (SV.c
    (SC.ptr (13 : Nat) (6 : Nat))) ST.nil ST.nil) (ST.node (SV.tup []) ST.nil ST.nil)) (ST.node (SV.c (SC.ptr (13 : Nat) (4 : Nat))) (ST.node (SV.tup []) ST.nil ST.nil) ST.nil))
    (ST.node (SV.tup []) (ST.node (SV.c (SC.sli (13 : Nat) (1 : Nat) true (0 : Nat) true (8 : Nat) (8 : Nat))) (ST.node (SV.c (SC.int false IntKind.u64 sl)) ST.nil ST.nil) (ST.node
    (SV.tup []) ST.nil ST.nil)) (ST.node (SV.c (SC.ptr (13 : Nat) (5 : Nat))) (ST.node (SV.tup []) ST.nil ST.nil) ST.nil))) (ST.node (SV.c (SC.ptr (57 : Nat) (0 : Nat))) (ST.node (SV.c
    (SC.int true IntKind.i64 (8 : Int) Bd.any)) (ST.node (SV.c (SC.int false IntKind.u64 ml)) (ST.node (SV.c (SC.sli (13 : Nat) (1 : Nat) true (0 : Nat) true (8 : Nat) (8 : Nat)))
    ST.nil ST.nil) (ST.node (SV.tup []) ST.nil ST.nil)) (ST.node (SV.c (SC.int false IntKind.i64 (smF fr))) (ST.node (SV.tup []) ST.nil ST.nil) ST.nil)) (ST.node (SV.c (SC.ptr (13 :
    Nat) (1 : Nat))) (ST.node (SV.c (SC.int false IntKind.u64 qu)) (ST.node (SV.agg [SC.int false IntKind.u64 mp, SC.int false IntKind.i64 (smF ml), SC.int false IntKind.u64 qu, SC.int
    false IntKind.i64 (smF fr), SC.int false IntKind.i64 (smF ln), SC.int false IntKind.u64 se, SC.int false IntKind.i64 (smF sl)]) ST.nil ST.nil) ST.nil) (ST.node (SV.c (SC.int false
    IntKind.i64 (smF ln))) (ST.node (SV.tup []) ST.nil ST.nil) ST.nil)))) (ST.node (SV.c (SC.int true IntKind.u64 (0 : Int))) (ST.node (SV.c (SC.boo true false)) (ST.node (SV.c (SC.sli
    (13 : Nat) (1 : Nat) true (0 : Nat) true (8 : Nat) (8 : Nat))) (ST.node (SV.c (SC.ptr (13 : Nat) (2 : Nat))) (ST.node (SV.c (SC.int false IntKind.u64 se)) ST.nil ST.nil) (ST.node
    (SV.tup []) ST.nil ST.nil)) (ST.node (SV.c (SC.int false IntKind.u64 fr)) (ST.node (SV.tup []) ST.nil ST.nil) ST.nil)) (ST.node (SV.c (SC.sli (13 : Nat) (1 : Nat) true (0 : Nat)
    true (8 : Nat) (8 : Nat))) (ST.node (SV.c (SC.ptr (13 : Nat) (3 : Nat))) (ST.node (SV.c (SC.int false IntKind.i64 (smF sl))) ST.nil ST.nil) (ST.node (SV.tup []) ST.nil ST.nil))
    (ST.node (SV.c (SC.int false IntKind.u64 ln)) (ST.node (SV.tup []) ST.nil ST.nil) ST.nil))) (ST.node (SV.tup []) (ST.node (SV.c (SC.boo true false)) (ST.node (SV.c (SC.int false
    IntKind.i64 (smF ml))) (ST.node (SV.c (SC.ptr (13 : Nat) (7 : Nat))) ST.nil ST.nil) (ST.node (SV.tup []) ST.nil ST.nil)) (ST.node (SV.c (SC.sli (13 : Nat) (1 : Nat) true (0 : Nat)
    true (8 : Nat) (8 : Nat))) (ST.node (SV.tup []) ST.nil ST.nil) ST.nil)) (ST.node (SV.c (SC.int false IntKind.u64 mp)) (ST.node (SV.c (SC.sli (13 : Nat) (1 : Nat) true (0 : Nat) true
    (8 : Nat) (8 : Nat))) (ST.node (SV.tup []) ST.nil ST.nil) ST.nil) (ST.node (SV.c (SC.sli (13 : Nat) (1 : Nat) true (0 : Nat) true (8 : Nat) (8 : Nat))) (ST.node (SV.tup []) ST.nil
    ST.nil) ST.nil))))) []) (Mem.mk [((0 : Nat), SO.cells [SC.int false IntKind.u64 mp, SC.int false IntKind.i64 ml, SC.int false IntKind.u64 qu, SC.int false IntKind.i64 fr, SC.int
    false IntKind.i64 ln, SC.int false IntKind.u64 se, SC.int false IntKind.i64 sl] (75 : Nat)), ((1 : Nat), SO.cells [SC.int false IntKind.i64 slot, SC.int false IntKind.u64 note,
    SC.int false IntKind.u64 next] (77 : Nat)), ((13 : Nat), SO.cells [SC.int false IntKind.u64 cursor, SC.int false IntKind.u64 mp, SC.int false IntKind.u64 ml, SC.int false
    IntKind.u64 qu, SC.int false IntKind.u64 fr, SC.int false IntKind.u64 ln, SC.int false IntKind.u64 se, SC.int false IntKind.u64 sl] (OfNat.ofNat (25 : Nat))), ((26 : Nat), SO.cells
    [SC.int true IntKind.u64 (0 : Int), SC.int true IntKind.i64 (0 : Int), SC.int true IntKind.u64 (0 : Int), SC.int true IntKind.i64 (0 : Int), SC.int true IntKind.i64 (0 : Int),
    SC.int true IntKind.u64 (0 : Int), SC.int true IntKind.i64 (0 : Int)] (75 : Nat)), ((57 : Nat), SO.cells [SC.int false IntKind.u64 mp, SC.int false IntKind.i64 (smF ml), SC.int
    false IntKind.u64 qu, SC.int false IntKind.i64 (smF fr), SC.int false IntKind.i64 (smF ln), SC.int false IntKind.u64 se, SC.int false IntKind.i64 (smF sl)] (75 : Nat))] (59 : Nat))
    Scr.nil ∧ True) ∧ True) ∧ True) ∧ (∀ (K : KO XE), ((0 : Int) ≤ sl ∧ sl ≤ (18446744073709551615 : Int)) ∧ (∀ (z : Un), True → cursor = cursor ∧ mp = mp ∧ ml = ml ∧ qu = qu ∧ fr = fr
    ∧ ln = ln ∧ se = se ∧ sl = sl ∧ (cursor = cursor ∧ mp = mp ∧ ml = ml ∧ qu = qu ∧ fr = fr ∧ ln = ln ∧ se = se ∧ sl = sl ∧ K (SF.mk (53 : Nat) (ST.node (SV.c (SC.sli (13 : Nat) (1 :
    Nat) true (0 : Nat) true (8 : Nat) (8 : Nat))) (ST.node (SV.tup []) (ST.node (SV.c (SC.ptr (26 : Nat) (0 : Nat))) (ST.node (SV.tup []) (ST.node (SV.c (SC.sli (13 : Nat) (1 : Nat)
    true (0 : Nat) true (8 : Nat) (8 : Nat))) (ST.node (SV.c (SC.ptr (13 : Nat) (6 : Nat))) ST.nil ST.nil) (ST.node (SV.tup []) ST.nil ST.nil)) (ST.node (SV.c (SC.ptr (13 : Nat) (4 :
    Nat))) (ST.node (SV.tup []) ST.nil ST.nil) ST.nil)) (ST.node (SV.tup []) (ST.node (SV.c (SC.sli (13 : Nat) (1 : Nat) true (0 : Nat) true (8 : Nat) (8 : Nat))) (ST.node (SV.c (SC.int
    false IntKind.u64 sl)) ST.nil ST.nil) (ST.node (SV.tup []) ST.nil ST.nil)) (ST.node (SV.c (SC.ptr (13 : Nat) (5 : Nat))) (ST.node (SV.tup []) ST.nil ST.nil) ST.nil))) (ST.node (SV.c
    (SC.ptr (57 : Nat) (0 : Nat))) (ST.node (SV.c (SC.int true IntKind.i64 (8 : Int) Bd.any)) (ST.node (SV.c (SC.int false IntKind.u64 ml)) (ST.node (SV.c (SC.sli (13 : Nat) (1 : Nat)
    true (0 : Nat) true (8 : Nat) (8 : Nat))) ST.nil ST.nil) (ST.node (SV.tup []) ST.nil ST.nil)) (ST.node (SV.c (SC.int false IntKind.i64 (smF fr))) (ST.node (SV.tup []) ST.nil ST.nil)
    ST.nil)) (ST.node (SV.c (SC.ptr (13 : Nat) (1 : Nat))) (ST.node (SV.c (SC.int false IntKind.u64 qu)) (ST.node (SV.agg [SC.int false IntKind.u64 mp, SC.int false IntKind.i64 (smF
    ml), SC.int false IntKind.u64 qu, SC.int false IntKind.i64 (smF fr), SC.int false IntKind.i64 (smF ln), SC.int false IntKind.u64 se, SC.int false IntKind.i64 (smF sl)]) ST.nil
    ST.nil) ST.nil) (ST.node (SV.c (SC.int false IntKind.i64 (smF ln))) (ST.node (SV.tup []) ST.nil ST.nil) ST.nil)))) (ST.node (SV.c (SC.int true IntKind.u64 (0 : Int))) (ST.node (SV.c
    (SC.boo true false)) (ST.node (SV.c (SC.sli (13 : Nat) (1 : Nat) true (0 : Nat) true (8 : Nat) (8 : Nat))) (ST.node (SV.c (SC.ptr (13 : Nat) (2 : Nat))) (ST.node (SV.c (SC.int false
    IntKind.u64 se)) ST.nil ST.nil) (ST.node (SV.tup []) ST.nil ST.nil)) (ST.node (SV.c (SC.int false IntKind.u64 fr)) (ST.node (SV.tup []) ST.nil ST.nil) ST.nil)) (ST.node (SV.c
    (SC.sli (13 : Nat) (1 : Nat) true (0 : Nat) true (8 : Nat) (8 : Nat))) (ST.node (SV.c (SC.ptr (13 : Nat) (3 : Nat))) (ST.node (SV.c (SC.int false IntKind.i64 (smF sl))) ST.nil
    ST.nil) (ST.node (SV.tup []) ST.nil ST.nil)) (ST.node (SV.c (SC.int false IntKind.u64 ln)) (ST.node (SV.tup []) ST.nil ST.nil) ST.nil))) (ST.node (SV.tup []) (ST.node (SV.c (SC.boo
    true false)) (ST.node (SV.c (SC.int false IntKind.i64 (smF ml))) (ST.node (SV.c (SC.ptr (13 : Nat) (7 : Nat))) ST.nil ST.nil) (ST.node (SV.tup []) ST.nil ST.nil)) (ST.node (SV.c
    (SC.sli (13 : Nat) (1 : Nat) true (0 : Nat) true (8 : Nat) (8 : Nat))) (ST.node (SV.tup []) ST.nil ST.nil) ST.nil)) (ST.node (SV.c (SC.int false IntKind.u64 mp)) (ST.node (SV.c
    (SC.sli (13 : Nat) (1 : Nat) true (0 : Nat) true (8 : Nat) (8 : Nat))) (ST.node (SV.tup []) ST.nil ST.nil) ST.nil) (ST.node (SV.c (SC.sli (13 : Nat) (1 : Nat) true (0 : Nat) true (8
    : Nat) (8 : Nat))) (ST.node (SV.tup []) ST.nil ST.nil) ST.nil))))) []) (Mem.mk [((0 : Nat), SO.cells [SC.int false IntKind.u64 mp, SC.int false IntKind.i64 ml, SC.int false
    IntKind.u64 qu, SC.int false IntKind.i64 fr, SC.int false IntKind.i64 ln, SC.int false IntKind.u64 se, SC.int false IntKind.i64 sl] (75 : Nat)), ((1 : Nat), SO.cells [SC.int false
    IntKind.i64 slot, SC.int false IntKind.u64 note, SC.int false IntKind.u64 next] (77 : Nat)), ((13 : Nat), SO.cells [SC.int false IntKind.u64 cursor, SC.int false IntKind.u64 mp,
    SC.int false IntKind.u64 ml, SC.int false IntKind.u64 qu, SC.int false IntKind.u64 fr, SC.int false IntKind.u64 ln, SC.int false IntKind.u64 se, SC.int false IntKind.u64 sl]
    (OfNat.ofNat (25 : Nat))), ((26 : Nat), SO.cells [SC.int true IntKind.u64 (0 : Int), SC.int true IntKind.i64 (0 : Int), SC.int true IntKind.u64 (0 : Int), SC.int true IntKind.i64 (0
    : Int), SC.int true IntKind.i64 (0 : Int), SC.int true IntKind.u64 (0 : Int), SC.int true IntKind.i64 (0 : Int)] (75 : Nat)), ((57 : Nat), SO.cells [SC.int false IntKind.u64 mp,
    SC.int false IntKind.i64 (smF ml), SC.int false IntKind.u64 qu, SC.int false IntKind.i64 (smF fr), SC.int false IntKind.i64 (smF ln), SC.int false IntKind.u64 se, SC.int false
    IntKind.i64 (smF sl)] (75 : Nat))] (59 : Nat)) Scr.nil ∧ True) ∧ True) ∧ True → cursor = cursor ∧ mp = mp ∧ ml = ml ∧ qu = qu ∧ fr = fr ∧ ln = ln ∧ se = se ∧ sl = sl ∧ (((0 : Int) ≤
    sl ∧ sl ≤ (18446744073709551615 : Int)) ∧ (∀ (z : Un), True → cursor = cursor ∧ mp = mp ∧ ml = ml ∧ qu = qu ∧ fr = fr ∧ ln = ln ∧ se = se ∧ sl = sl ∧ K (SF.mk (53 : Nat) (ST.node
    (SV.c (SC.sli (13 : Nat) (1 : Nat) true (0 : Nat) true (8 : Nat) (8 : Nat))) (ST.node (SV.tup []) (ST.node (SV.c (SC.ptr (26 : Nat) (0 : Nat))) (ST.node (SV.tup []) (ST.node (SV.c
    (SC.sli (13 : Nat) (1 : Nat) true (0 : Nat) true (8 : Nat) (8 : Nat))) (ST.node (SV.c (SC.ptr (13 : Nat) (6 : Nat))) ST.nil ST.nil) (ST.node (SV.tup []) ST.nil ST.nil)) (ST.node
    (SV.c (SC.ptr (13 : Nat) (4 : Nat))) (ST.node (SV.tup []) ST.nil ST.nil) ST.nil)) (ST.node (SV.tup []) (ST.node (SV.c (SC.sli (13 : Nat) (1 : Nat) true (0 : Nat) true (8 : Nat) (8 :
    Nat))) (ST.node (SV.c (SC.int false IntKind.u64 sl)) ST.nil ST.nil) (ST.node (SV.tup []) ST.nil ST.nil)) (ST.node (SV.c (SC.ptr (13 : Nat) (5 : Nat))) (ST.node (SV.tup []) ST.nil
    ST.nil) ST.nil))) (ST.node (SV.c (SC.ptr (57 : Nat) (0 : Nat))) (ST.node (SV.c (SC.int true IntKind.i64 (8 : Int) Bd.any)) (ST.node (SV.c (SC.int false IntKind.u64 ml)) (ST.node
    (SV.c (SC.sli (13 : Nat) (1 : Nat) true (0 : Nat) true (8 : Nat) (8 : Nat))) ST.nil ST.nil) (ST.node (SV.tup []) ST.nil ST.nil)) (ST.node (SV.c (SC.int false IntKind.i64 (smF fr)))
    (ST.node (SV.tup []) ST.nil ST.nil) ST.nil)) (ST.node (SV.c (SC.ptr (13 : Nat) (1 : Nat))) (ST.node (SV.c (SC.int false IntKind.u64 qu)) (ST.node (SV.agg [SC.int false IntKind.u64
    mp, SC.int false IntKind.i64 (smF ml), SC.int false IntKind.u64 qu, SC.int false IntKind.i64 (smF fr), SC.int false IntKind.i64 (smF ln), SC.int false IntKind.u64 se, SC.int false
    IntKind.i64 (smF sl)]) ST.nil ST.nil) ST.nil) (ST.node (SV.c (SC.int false IntKind.i64 (smF ln))) (ST.node (SV.tup []) ST.nil ST.nil) ST.nil)))) (ST.node (SV.c (SC.int true
    IntKind.u64 (0 : Int))) (ST.node (SV.c (SC.boo true false)) (ST.node (SV.c (SC.sli (13 : Nat) (1 : Nat) true (0 : Nat) true (8 : Nat) (8 : Nat))) (ST.node (SV.c (SC.ptr (13 : Nat)
    (2 : Nat))) (ST.node (SV.c (SC.int false IntKind.u64 se)) ST.nil ST.nil) (ST.node (SV.tup []) ST.nil ST.nil)) (ST.node (SV.c (SC.int false IntKind.u64 fr)) (ST.node (SV.tup [])
    ST.nil ST.nil) ST.nil)) (ST.node (SV.c (SC.sli (13 : Nat) (1 : Nat) true (0 : Nat) true (8 : Nat) (8 : Nat))) (ST.node (SV.c (SC.ptr (13 : Nat) (3 : Nat))) (ST.node (SV.c (SC.int
    false IntKind.i64 (smF sl))) ST.nil ST.nil) (ST.node (SV.tup []) ST.nil ST.nil)) (ST.node (SV.c (SC.int false IntKind.u64 ln)) (ST.node (SV.tup []) ST.nil ST.nil) ST.nil))) (ST.node
    (SV.tup []) (ST.node (SV.c (SC.boo true false)) (ST.node (SV.c (SC.int false IntKind.i64 (smF ml))) (ST.node (SV.c (SC.ptr (13 : Nat) (7 : Nat))) ST.nil ST.nil) (ST.node (SV.tup [])
    ST.nil ST.nil)) (ST.node (SV.c (SC.sli (13 : Nat) (1 : Nat) true (0 : Nat) true (8 : Nat) (8 : Nat))) (ST.node (SV.tup []) ST.nil ST.nil) ST.nil)) (ST.node (SV.c (SC.int false
    IntKind.u64 mp)) (ST.node (SV.c (SC.sli (13 : Nat) (1 : Nat) true (0 : Nat) true (8 : Nat) (8 : Nat))) (ST.node (SV.tup []) ST.nil ST.nil) ST.nil) (ST.node (SV.c (SC.sli (13 : Nat)
    (1 : Nat) true (0 : Nat) true (8 : Nat) (8 : Nat))) (ST.node (SV.tup []) ST.nil ST.nil) ST.nil))))) []) (Mem.mk [((0 : Nat), SO.cells [SC.int false IntKind.u64 mp, SC.int false
    IntKind.i64 ml, SC.int false IntKind.u64 qu, SC.int false IntKind.i64 fr, SC.int false IntKind.i64 ln, SC.int false IntKind.u64 se, SC.int false IntKind.i64 sl] (75 : Nat)), ((1 :
    Nat), SO.cells [SC.int false IntKind.i64 slot, SC.int false IntKind.u64 note, SC.int false IntKind.u64 next] (77 : Nat)), ((13 : Nat), SO.cells [SC.int false IntKind.u64 cursor,
    SC.int false IntKind.u64 mp, SC.int false IntKind.u64 ml, SC.int false IntKind.u64 qu, SC.int false IntKind.u64 fr, SC.int false IntKind.u64 ln, SC.int false IntKind.u64 se, SC.int
    false IntKind.u64 sl] (OfNat.ofNat (25 : Nat))), ((26 : Nat), SO.cells [SC.int true IntKind.u64 (0 : Int), SC.int true IntKind.i64 (0 : Int), SC.int true IntKind.u64 (0 : Int),
    SC.int true IntKind.i64 (0 : Int), SC.int true IntKind.i64 (0 : Int), SC.int true IntKind.u64 (0 : Int), SC.int true IntKind.i64 (0 : Int)] (75 : Nat)), ((57 : Nat), SO.cells
    [SC.int false IntKind.u64 mp, SC.int false IntKind.i64 (smF ml), SC.int false IntKind.u64 qu, SC.int false IntKind.i64 (smF fr), SC.int false IntKind.i64 (smF ln), SC.int false
    IntKind.u64 se, SC.int false IntKind.i64 (smF sl)] (75 : Nat))] (59 : Nat)) Scr.nil ∧ True) ∧ True) ∧ True) ∧ True) ∧ True → cursor = cursor ∧ mp = mp ∧ ml = ml ∧ qu = qu ∧ fr = fr
    ∧ ln = ln ∧ se = se ∧ sl = sl ∧ (((0 : Int) ≤ ln ∧ ln ≤ (18446744073709551615 : Int)) ∧ (∀ (z : Un), True → cursor = cursor ∧ mp = mp ∧ ml = ml ∧ qu = qu ∧ fr = fr ∧ ln = ln ∧ se =
    se ∧ sl = sl ∧ (((0 : Int) ≤ sl ∧ sl ≤ (18446744073709551615 : Int)) ∧ (∀ (z : Un), True → cursor = cursor ∧ mp = mp ∧ ml = ml ∧ qu = qu ∧ fr = fr ∧ ln = ln ∧ se = se ∧ sl = sl ∧ K
    (SF.mk (53 : Nat) (ST.node (SV.c (SC.sli (13 : Nat) (1 : Nat) true (0 : Nat) true (8 : Nat) (8 : Nat))) (ST.node (SV.tup []) (ST.node (SV.c (SC.ptr (26 : Nat) (0 : Nat))) (ST.node
    (SV.tup []) (ST.node (SV.c (SC.sli (13 : Nat) (1 : Nat) true (0 : Nat) true (8 : Nat) (8 : Nat))) (ST.node (SV.c (SC.ptr (13 : Nat) (6 : Nat))) ST.nil ST.nil) (ST.node (SV.tup [])
    ST.nil ST.nil)) (ST.node (SV.c (SC.ptr (13 : Nat) (4 : Nat))) (ST.node (SV.tup []) ST.nil ST.nil) ST.nil)) (ST.node (SV.tup []) (ST.node (SV.c (SC.sli (13 : Nat) (1 : Nat) true (0 :
    Nat) true (8 : Nat) (8 : Nat))) (ST.node (SV.c (SC.int false IntKind.u64 sl)) ST.nil ST.nil) (ST.node (SV.tup []) ST.nil ST.nil)) (ST.node (SV.c (SC.ptr (13 : Nat) (5 : Nat)))
    (ST.node (SV.tup []) ST.nil ST.nil) ST.nil))) (ST.node (SV.c (SC.ptr (57 : Nat) (0 : Nat))) (ST.node (SV.c (SC.int true IntKind.i64 (8 : Int) Bd.any)) (ST.node (SV.c (SC.int false
    IntKind.u64 ml)) (ST.node (SV.c (SC.sli (13 : Nat) (1 : Nat) true (0 : Nat) true (8 : Nat) (8 : Nat))) ST.nil ST.nil) (ST.node (SV.tup []) ST.nil ST.nil)) (ST.node (SV.c (SC.int
    false IntKind.i64 (smF fr))) (ST.node (SV.tup []) ST.nil ST.nil) ST.nil)) (ST.node (SV.c (SC.ptr (13 : Nat) (1 : Nat))) (ST.node (SV.c (SC.int false IntKind.u64 qu)) (ST.node
    (SV.agg [SC.int false IntKind.u64 mp, SC.int false IntKind.i64 (smF ml), SC.int false IntKind.u64 qu, SC.int false IntKind.i64 (smF fr), SC.int false IntKind.i64 (smF ln), SC.int
    false IntKind.u64 se, SC.int false IntKind.i64 (smF sl)]) ST.nil ST.nil) ST.nil) (ST.node (SV.c (SC.int false IntKind.i64 (smF ln))) (ST.node (SV.tup []) ST.nil ST.nil) ST.nil))))
    (ST.node (SV.c (SC.int true IntKind.u64 (0 : Int))) (ST.node (SV.c (SC.boo true false)) (ST.node (SV.c (SC.sli (13 : Nat) (1 : Nat) true (0 : Nat) true (8 : Nat) (8 : Nat)))
    (ST.node (SV.c (SC.ptr (13 : Nat) (2 : Nat))) (ST.node (SV.c (SC.int false IntKind.u64 se)) ST.nil ST.nil) (ST.node (SV.tup []) ST.nil ST.nil)) (ST.node (SV.c (SC.int false
    IntKind.u64 fr)) (ST.node (SV.tup []) ST.nil ST.nil) ST.nil)) (ST.node (SV.c (SC.sli (13 : Nat) (1 : Nat) true (0 : Nat) true (8 : Nat) (8 : Nat))) (ST.node (SV.c (SC.ptr (13 : Nat)
    (3 : Nat))) (ST.node (SV.c (SC.int false IntKind.i64 (smF sl))) ST.nil ST.nil) (ST.node (SV.tup []) ST.nil ST.nil)) (ST.node (SV.c (SC.int false IntKind.u64 ln)) (ST.node (SV.tup
    []) ST.nil ST.nil) ST.nil))) (ST.node (SV.tup []) (ST.node (SV.c (SC.boo true false)) (ST.node (SV.c (SC.int false IntKind.i64 (smF ml))) (ST.node (SV.c (SC.ptr (13 : Nat) (7 :
    Nat))) ST.nil ST.nil) (ST.node (SV.tup []) ST.nil ST.nil)) (ST.node (SV.c (SC.sli (13 : Nat) (1 : Nat) true (0 : Nat) true (8 : Nat) (8 : Nat))) (ST.node (SV.tup []) ST.nil ST.nil)
    ST.nil)) (ST.node (SV.c (SC.int false IntKind.u64 mp)) (ST.node (SV.c (SC.sli (13 : Nat) (1 : Nat) true (0 : Nat) true (8 : Nat) (8 : Nat))) (ST.node (SV.tup []) ST.nil ST.nil)
    ST.nil) (ST.node (SV.c (SC.sli (13 : Nat) (1 : Nat) true (0 : Nat) true (8 : Nat) (8 : Nat))) (ST.node (SV.tup []) ST.nil ST.nil) ST.nil))))) []) (Mem.mk [((0 : Nat), SO.cells
    [SC.int false IntKind.u64 mp, SC.int false IntKind.i64 ml, SC.int false IntKind.u64 qu, SC.int false IntKind.i64 fr, SC.int false IntKind.i64 ln, SC.int false IntKind.u64 se, SC.int
    false IntKind.i64 sl] (75 : Nat)), ((1 : Nat), SO.cells [SC.int false IntKind.i64 slot, SC.int false IntKind.u64 note, SC.int false IntKind.u64 next] (77 : Nat)), ((13 : Nat),
    SO.cells [SC.int false IntKind.u64 cursor, SC.int false IntKind.u64 mp, SC.int false IntKind.u64 ml, SC.int false IntKind.u64 qu, SC.int false IntKind.u64 fr, SC.int false
    IntKind.u64 ln, SC.int false IntKind.u64 se, SC.int false IntKind.u64 sl] (OfNat.ofNat (25 : Nat))), ((26 : Nat), SO.cells [SC.int true IntKind.u64 (0 : Int), SC.int true
    IntKind.i64 (0 : Int), SC.int true IntKind.u64 (0 : Int), SC.int true IntKind.i64 (0 : Int), SC.int true IntKind.i64 (0 : Int), SC.int true IntKind.u64 (0 : Int), SC.int true
    IntKind.i64 (0 : Int)] (75 : Nat)), ((57 : Nat), SO.cells [SC.int false IntKind.u64 mp, SC.int false IntKind.i64 (smF ml), SC.int false IntKind.u64 qu, SC.int false IntKind.i64 (smF
    fr), SC.int false IntKind.i64 (smF ln), SC.int false IntKind.u64 se, SC.int false IntKind.i64 (smF sl)] (75 : Nat))] (59 : Nat)) Scr.nil ∧ True) ∧ True) ∧ True) ∧ True) ∧ True) ∧
    True) ∧ True) ∧ (∀ (K : KO XE), ((0 : Int) ≤ fr ∧ fr ≤ (18446744073709551615 : Int)) ∧ (∀ (z : Un), True → cursor = cursor ∧ mp = mp ∧ ml = ml ∧ qu = qu ∧ fr = fr ∧ ln = ln ∧ se =
    se ∧ sl = sl ∧ (((0 : Int) ≤ ln ∧ ln ≤ (18446744073709551615 : Int)) ∧ (∀ (z : Un), True → cursor = cursor ∧ mp = mp ∧ ml = ml ∧ qu = qu ∧ fr = fr ∧ ln = ln ∧ se = se ∧ sl = sl ∧
    (((0 : Int) ≤ sl ∧ sl ≤ (18446744073709551615 : Int)) ∧ (∀ (z : Un), True → cursor = cursor ∧ mp = mp ∧ ml = ml ∧ qu = qu ∧ fr = fr ∧ ln = ln ∧ se = se ∧ sl = sl ∧ (cursor = cursor
    ∧ mp = mp ∧ ml = ml ∧ qu = qu ∧ fr = fr ∧ ln = ln ∧ se = se ∧ sl = sl ∧ K (SF.mk (53 : Nat) (ST.node (SV.c (SC.sli (13 : Nat) (1 : Nat) true (0 : Nat) true (8 : Nat) (8 : Nat)))
    (ST.node (SV.tup []) (ST.node (SV.c (SC.ptr (26 : Nat) (0 : Nat))) (ST.node (SV.tup []) (ST.node (SV.c (SC.sli (13 : Nat) (1 : Nat) true (0 : Nat) true (8 : Nat) (8 : Nat)))
    (ST.node (SV.c (SC.ptr (13 : Nat) (6 : Nat))) ST.nil ST.nil) (ST.node (SV.tup []) ST.nil ST.nil)) (ST.node (SV.c (SC.ptr (13 : Nat) (4 : Nat))) (ST.node (SV.tup []) ST.nil ST.nil)
    ST.nil)) (ST.node (SV.tup []) (ST.node (SV.c (SC.sli (13 : Nat) (1 : Nat) true (0 : Nat) true (8 : Nat) (8 : Nat))) (ST.node (SV.c (SC.int false IntKind.u64 sl)) ST.nil ST.nil)
    (ST.node (SV.tup []) ST.nil ST.nil)) (ST.node (SV.c (SC.ptr (13 : Nat) (5 : Nat))) (ST.node (SV.tup []) ST.nil ST.nil) ST.nil))) (ST.node (SV.c (SC.ptr (57 : Nat) (0 : Nat)))
    (ST.node (SV.c (SC.int true IntKind.i64 (8 : Int) Bd.any)) (ST.node (SV.c (SC.int false IntKind.u64 ml)) (ST.node (SV.c (SC.sli (13 : Nat) (1 : Nat) true (0 : Nat) true (8 : Nat) (8
    : Nat))) ST.nil ST.nil) (ST.node (SV.tup []) ST.nil ST.nil)) (ST.node (SV.c (SC.int false IntKind.i64 (smF fr))) (ST.node (SV.tup []) ST.nil ST.nil) ST.nil)) (ST.node (SV.c (SC.ptr
    (13 : Nat) (1 : Nat))) (ST.node (SV.c (SC.int false IntKind.u64 qu)) (ST.node (SV.agg [SC.int false IntKind.u64 mp, SC.int false IntKind.i64 (smF ml), SC.int false IntKind.u64 qu,
    SC.int false IntKind.i64 (smF fr), SC.int false IntKind.i64 (smF ln), SC.int false IntKind.u64 se, SC.int false IntKind.i64 (smF sl)]) ST.nil ST.nil) ST.nil) (ST.node (SV.c (SC.int
    false IntKind.i64 (smF ln))) (ST.node (SV.tup []) ST.nil ST.nil) ST.nil)))) (ST.node (SV.c (SC.int true IntKind.u64 (0 : Int))) (ST.node (SV.c (SC.boo true false)) (ST.node (SV.c
    (SC.sli (13 : Nat) (1 : Nat) true (0 : Nat) true (8 : Nat) (8 : Nat))) (ST.node (SV.c (SC.ptr (13 : Nat) (2 : Nat))) (ST.node (SV.c (SC.int false IntKind.u64 se)) ST.nil ST.nil)
    (ST.node (SV.tup []) ST.nil ST.nil)) (ST.node (SV.c (SC.int false IntKind.u64 fr)) (ST.node (SV.tup []) ST.nil ST.nil) ST.nil)) (ST.node (SV.c (SC.sli (13 : Nat) (1 : Nat) true (0 :
    Nat) true (8 : Nat) (8 : Nat))) (ST.node (SV.c (SC.ptr (13 : Nat) (3 : Nat))) (ST.node (SV.c (SC.int false IntKind.i64 (smF sl))) ST.nil ST.nil) (ST.node (SV.tup []) ST.nil ST.nil))
    (ST.node (SV.c (SC.int false IntKind.u64 ln)) (ST.node (SV.tup []) ST.nil ST.nil) ST.nil))) (ST.node (SV.tup []) (ST.node (SV.c (SC.boo true false)) (ST.node (SV.c (SC.int false
    IntKind.i64 (smF ml))) (ST.node (SV.c (SC.ptr (13 : Nat) (7 : Nat))) ST.nil ST.nil) (ST.node (SV.tup []) ST.nil ST.nil)) (ST.node (SV.c (SC.sli (13 : Nat) (1 : Nat) true (0 : Nat)
    true (8 : Nat) (8 : Nat))) (ST.node (SV.tup []) ST.nil ST.nil) ST.nil)) (ST.node (SV.c (SC.int false IntKind.u64 mp)) (ST.node (SV.c (SC.sli (13 : Nat) (1 : Nat) true (0 : Nat) true
    (8 : Nat) (8 : Nat))) (ST.node (SV.tup []) ST.nil ST.nil) ST.nil) (ST.node (SV.c (SC.sli (13 : Nat) (1 : Nat) true (0 : Nat) true (8 : Nat) (8 : Nat))) (ST.node (SV.tup []) ST.nil
    ST.nil) ST.nil))))) []) (Mem.mk [((0 : Nat), SO.cells [SC.int false IntKind.u64 mp, SC.int false IntKind.i64 ml, SC.int false IntKind.u64 qu, SC.int false IntKind.i64 fr, SC.int
    false IntKind.i64 ln, SC.int false IntKind.u64 se, SC.int false IntKind.i64 sl] (75 : Nat)), ((1 : Nat), SO.cells [SC.int false IntKind.i64 slot, SC.int false IntKind.u64 note,
    SC.int false IntKind.u64 next] (77 : Nat)), ((13 : Nat), SO.cells [SC.int false IntKind.u64 cursor, SC.int false IntKind.u64 mp, SC.int false IntKind.u64 ml, SC.int false
    IntKind.u64 qu, SC.int false IntKind.u64 fr, SC.int false IntKind.u64 ln, SC.int false IntKind.u64 se, SC.int false IntKind.u64 sl] (OfNat.ofNat (25 : Nat))), ((26 : Nat), SO.cells
    [SC.int true IntKind.u64 (0 : Int), SC.int true IntKind.i64 (0 : Int), SC.int true IntKind.u64 (0 : Int), SC.int true IntKind.i64 (0 : Int), SC.int true IntKind.i64 (0 : Int),
    SC.int true IntKind.u64 (0 : Int), SC.int true IntKind.i64 (0 : Int)] (75 : Nat)), ((57 : Nat), SO.cells [SC.int false IntKind.u64 mp, SC.int false IntKind.i64 (smF ml), SC.int
    false IntKind.u64 qu, SC.int false IntKind.i64 (smF fr), SC.int false IntKind.i64 (smF ln), SC.int false IntKind.u64 se, SC.int false IntKind.i64 (smF sl)] (75 : Nat))] (59 : Nat))
    Scr.nil ∧ True) ∧ True) ∧ True) ∧ (∀ (K : KO XE), ((0 : Int) ≤ sl ∧ sl ≤ (18446744073709551615 : Int)) ∧ (∀ (z : Un), True → cursor = cursor ∧ mp = mp ∧ ml = ml ∧ qu = qu ∧ fr = fr
    ∧ ln = ln ∧ se = se ∧ sl = sl ∧ (cursor = cursor ∧ mp = mp ∧ ml = ml ∧ qu = qu ∧ fr = fr ∧ ln = ln ∧ se = se ∧ sl = sl ∧ K (SF.mk (53 : Nat) (ST.node (SV.c (SC.sli (13 : Nat) (1 :
    Nat) true (0 : Nat) true (8 : Nat) (8 : Nat))) (ST.node (SV.tup []) (ST.node (SV.c (SC.ptr (26 : Nat) (0 : Nat))) (ST.node (SV.tup []) (ST.node (SV.c (SC.sli (13 : Nat) (1 : Nat)
    true (0 : Nat) true (8 : Nat) (8 : Nat))) (ST.node (SV.c (SC.ptr (13 : Nat) (6 : Nat))) ST.nil ST.nil) (ST.node (SV.tup []) ST.nil ST.nil)) (ST.node (SV.c (SC.ptr (13 : Nat) (4 :
    Nat))) (ST.node (SV.tup []) ST.nil ST.nil) ST.nil)) (ST.node (SV.tup []) (ST.node (SV.c (SC.sli (13 : Nat) (1 : Nat) true (0 : Nat) true (8 : Nat) (8 : Nat))) (ST.node (SV.c (SC.int
    false IntKind.u64 sl)) ST.nil ST.nil) (ST.node (SV.tup []) ST.nil ST.nil)) (ST.node (SV.c (SC.ptr (13 : Nat) (5 : Nat))) (ST.node (SV.tup []) ST.nil ST.nil) ST.nil))) (ST.node (SV.c
    (SC.ptr (57 : Nat) (0 : Nat))) (ST.node (SV.c (SC.int true IntKind.i64 (8 : Int) Bd.any)) (ST.node (SV.c (SC.int false IntKind.u64 ml)) (ST.node (SV.c (SC.sli (13 : Nat) (1 : Nat)
    true (0 : Nat) true (8 : Nat) (8 : Nat))) ST.nil ST.nil) (ST.node (SV.tup []) ST.nil ST.nil)) (ST.node (SV.c (SC.int false IntKind.i64 (smF fr))) (ST.node (SV.tup []) ST.nil ST.nil)
    ST.nil)) (ST.node (SV.c (SC.ptr (13 : Nat) (1 : Nat))) (ST.node (SV.c (SC.int false IntKind.u64 qu)) (ST.node (SV.agg [SC.int false IntKind.u64 mp, SC.int false IntKind.i64 (smF
    ml), SC.int false IntKind.u64 qu, SC.int false IntKind.i64 (smF fr), SC.int false IntKind.i64 (smF ln), SC.int false IntKind.u64 se, SC.int false IntKind.i64 (smF sl)]) ST.nil
    ST.nil) ST.nil) (ST.node (SV.c (SC.int false IntKind.i64 (smF ln))) (ST.node (SV.tup []) ST.nil ST.nil) ST.nil)))) (ST.node (SV.c (SC.int true IntKind.u64 (0 : Int))) (ST.node (SV.c
    (SC.boo true false)) (ST.node (SV.c (SC.sli (13 : Nat) (1 : Nat) true (0 : Nat) true (8 : Nat) (8 : Nat))) (ST.node (SV.c (SC.ptr (13 : Nat) (2 : Nat))) (ST.node (SV.c (SC.int false
    IntKind.u64 se)) ST.nil ST.nil) (ST.node (SV.tup []) ST.nil ST.nil)) (ST.node (SV.c (SC.int false IntKind.u64 fr)) (ST.node (SV.tup []) ST.nil ST.nil) ST.nil)) (ST.node (SV.c
    (SC.sli (13 : Nat) (1 : Nat) true (0 : Nat) true (8 : Nat) (8 : Nat))) (ST.node (SV.c (SC.ptr (13 : Nat) (3 : Nat))) (ST.node (SV.c (SC.int false IntKind.i64 (smF sl))) ST.nil
    ST.nil) (ST.node (SV.tup []) ST.nil ST.nil)) (ST.node (SV.c (SC.int false IntKind.u64 ln)) (ST.node (SV.tup []) ST.nil ST.nil) ST.nil))) (ST.node (SV.tup []) (ST.node (SV.c (SC.boo
    true false)) (ST.node (SV.c (SC.int false IntKind.i64 (smF ml))) (ST.node (SV.c (SC.ptr (13 : Nat) (7 : Nat))) ST.nil ST.nil) (ST.node (SV.tup []) ST.nil ST.nil)) (ST.node (SV.c
    (SC.sli (13 : Nat) (1 : Nat) true (0 : Nat) true (8 : Nat) (8 : Nat))) (ST.node (SV.tup []) ST.nil ST.nil) ST.nil)) (ST.node (SV.c (SC.int false IntKind.u64 mp)) (ST.node (SV.c
    (SC.sli (13 : Nat) (1 : Nat) true (0 : Nat) true (8 : Nat) (8 : Nat))) (ST.node (SV.tup []) ST.nil ST.nil) ST.nil) (ST.node (SV.c (SC.sli (13 : Nat) (1 : Nat) true (0 : Nat) true (8
    : Nat) (8 : Nat))) (ST.node (SV.tup []) ST.nil ST.nil) ST.nil))))) []) (Mem.mk [((0 : Nat), SO.cells [SC.int false IntKind.u64 mp, SC.int false IntKind.i64 ml, SC.int false
    IntKind.u64 qu, SC.int false IntKind.i64 fr, SC.int false IntKind.i64 ln, SC.int false IntKind.u64 se, SC.int false IntKind.i64 sl] (75 : Nat)), ((1 : Nat), SO.cells [SC.int false
    IntKind.i64 slot, SC.int false IntKind.u64 note, SC.int false IntKind.u64 next] (77 : Nat)), ((13 : Nat), SO.cells [SC.int false IntKind.u64 cursor, SC.int false IntKind.u64 mp,
    SC.int false IntKind.u64 ml, SC.int false IntKind.u64 qu, SC.int false IntKind.u64 fr, SC.int false IntKind.u64 ln, SC.int false IntKind.u64 se, SC.int false IntKind.u64 sl]
    (OfNat.ofNat (25 : Nat))), ((26 : Nat), SO.cells [SC.int true IntKind.u64 (0 : Int), SC.int true IntKind.i64 (0 : Int), SC.int true IntKind.u64 (0 : Int), SC.int true IntKind.i64 (0
    : Int), SC.int true IntKind.i64 (0 : Int), SC.int true IntKind.u64 (0 : Int), SC.int true IntKind.i64 (0 : Int)] (75 : Nat)), ((57 : Nat), SO.cells [SC.int false IntKind.u64 mp,
    SC.int false IntKind.i64 (smF ml), SC.int false IntKind.u64 qu, SC.int false IntKind.i64 (smF fr), SC.int false IntKind.i64 (smF ln), SC.int false IntKind.u64 se, SC.int false
    IntKind.i64 (smF sl)] (75 : Nat))] (59 : Nat)) Scr.nil ∧ True) ∧ True) ∧ True → cursor = cursor ∧ mp = mp ∧ ml = ml ∧ qu = qu ∧ fr = fr ∧ ln = ln ∧ se = se ∧ sl = sl ∧ (((0 : Int) ≤
    sl ∧ sl ≤ (18446744073709551615 : Int)) ∧ (∀ (z : Un), True → cursor = cursor ∧ mp = mp ∧ ml = ml ∧ qu = qu ∧ fr = fr ∧ ln = ln ∧ se = se ∧ sl = sl ∧ K (SF.mk (53 : Nat) (ST.node
    (SV.c (SC.sli (13 : Nat) (1 : Nat) true (0 : Nat) true (8 : Nat) (8 : Nat))) (ST.node (SV.tup []) (ST.node (SV.c (SC.ptr (26 : Nat) (0 : Nat))) (ST.node (SV.tup []) (ST.node (SV.c
    (SC.sli (13 : Nat) (1 : Nat) true (0 : Nat) true (8 : Nat) (8 : Nat))) (ST.node (SV.c (SC.ptr (13 : Nat) (6 : Nat))) ST.nil ST.nil) (ST.node (SV.tup []) ST.nil ST.nil)) (ST.node
    (SV.c (SC.ptr (13 : Nat) (4 : Nat))) (ST.node (SV.tup []) ST.nil ST.nil) ST.nil)) (ST.node (SV.tup []) (ST.node (SV.c (SC.sli (13 : Nat) (1 : Nat) true (0 : Nat) true (8 : Nat) (8 :
    Nat))) (ST.node (SV.c (SC.int false IntKind.u64 sl)) ST.nil ST.nil) (ST.node (SV.tup []) ST.nil ST.nil)) (ST.node (SV.c (SC.ptr (13 : Nat) (5 : Nat))) (ST.node (SV.tup []) ST.nil
    ST.nil) ST.nil))) (ST.node (SV.c (SC.ptr (57 : Nat) (0 : Nat))) (ST.node (SV.c (SC.int true IntKind.i64 (8 : Int) Bd.any)) (ST.node (SV.c (SC.int false IntKind.u64 ml)) (ST.node
    (SV.c (SC.sli (13 : Nat) (1 : Nat) true (0 : Nat) true (8 : Nat) (8 : Nat))) ST.nil ST.nil) (ST.node (SV.tup []) ST.nil ST.nil)) (ST.node (SV.c (SC.int false IntKind.i64 (smF fr)))
    (ST.node (SV.tup []) ST.nil ST.nil) ST.nil)) (ST.node (SV.c (SC.ptr (13 : Nat) (1 : Nat))) (ST.node (SV.c (SC.int false IntKind.u64 qu)) (ST.node (SV.agg [SC.int false IntKind.u64
    mp, SC.int false IntKind.i64 (smF ml), SC.int false IntKind.u64 qu, SC.int false IntKind.i64 (smF fr), SC.int false IntKind.i64 (smF ln), SC.int false IntKind.u64 se, SC.int false
    IntKind.i64 (smF sl)]) ST.nil ST.nil) ST.nil) (ST.node (SV.c (SC.int false IntKind.i64 (smF ln))) (ST.node (SV.tup []) ST.nil ST.nil) ST.nil)))) (ST.node (SV.c (SC.int true
    IntKind.u64 (0 : Int))) (ST.node (SV.c (SC.boo true false)) (ST.node (SV.c (SC.sli (13 : Nat) (1 : Nat) true (0 : Nat) true (8 : Nat) (8 : Nat))) (ST.node (SV.c (SC.ptr (13 : Nat)
    (2 : Nat))) (ST.node (SV.c (SC.int false IntKind.u64 se)) ST.nil ST.nil) (ST.node (SV.tup []) ST.nil ST.nil)) (ST.node (SV.c (SC.int false IntKind.u64 fr)) (ST.node (SV.tup [])
    ST.nil ST.nil) ST.nil)) (ST.node (SV.c (SC.sli (13 : Nat) (1 : Nat) true (0 : Nat) true (8 : Nat) (8 : Nat))) (ST.node (SV.c (SC.ptr (13 : Nat) (3 : Nat))) (ST.node (SV.c (SC.int
    false IntKind.i64 (smF sl))) ST.nil ST.nil) (ST.node (SV.tup []) ST.nil ST.nil)) (ST.node (SV.c (SC.int false IntKind.u64 ln)) (ST.node (SV.tup []) ST.nil ST.nil) ST.nil))) (ST.node
    (SV.tup []) (ST.node (SV.c (SC.boo true false)) (ST.node (SV.c (SC.int false IntKind.i64 (smF ml))) (ST.node (SV.c (SC.ptr (13 : Nat) (7 : Nat))) ST.nil ST.nil) (ST.node (SV.tup [])
    ST.nil ST.nil)) (ST.node (SV.c (SC.sli (13 : Nat) (1 : Nat) true (0 : Nat) true (8 : Nat) (8 : Nat))) (ST.node (SV.tup []) ST.nil ST.nil) ST.nil)) (ST.node (SV.c (SC.int false
    IntKind.u64 mp)) (ST.node (SV.c (SC.sli (13 : Nat) (1 : Nat) true (0 : Nat) true (8 : Nat) (8 : Nat))) (ST.node (SV.tup []) ST.nil ST.nil) ST.nil) (ST.node (SV.c (SC.sli (13 : Nat)
    (1 : Nat) true (0 : Nat) true (8 : Nat) (8 : Nat))) (ST.node (SV.tup []) ST.nil ST.nil) ST.nil))))) []) (Mem.mk [((0 : Nat), SO.cells [SC.int false IntKind.u64 mp, SC.int false
    IntKind.i64 ml, SC.int false IntKind.u64 qu, SC.int false IntKind.i64 fr, SC.int false IntKind.i64 ln, SC.int false IntKind.u64 se, SC.int false IntKind.i64 sl] (75 : Nat)), ((1 :
    Nat), SO.cells [SC.int false IntKind.i64 slot, SC.int false IntKind.u64 note, SC.int false IntKind.u64 next] (77 : Nat)), ((13 : Nat), SO.cells [SC.int false IntKind.u64 cursor,
    SC.int false IntKind.u64 mp, SC.int false IntKind.u64 ml, SC.int false IntKind.u64 qu, SC.int false IntKind.u64 fr, SC.int false IntKind.u64 ln, SC.int false IntKind.u64 se, SC.int
    false IntKind.u64 sl] (OfNat.ofNat (25 : Nat))), ((26 : Nat), SO.cells [SC.int true IntKind.u64 (0 : Int), SC.int true IntKind.i64 (0 : Int), SC.int true IntKind.u64 (0 : Int),
    SC.int true IntKind.i64 (0 : Int), SC.int true IntKind.i64 (0 : Int), SC.int true IntKind.u64 (0 : Int), SC.int true IntKind.i64 (0 : Int)] (75 : Nat)), ((57 : Nat), SO.cells
    [SC.int false IntKind.u64 mp, SC.int false IntKind.i64 (smF ml), SC.int false IntKind.u64 qu, SC.int false IntKind.i64 (smF fr), SC.int false IntKind.i64 (smF ln), SC.int false
    IntKind.u64 se, SC.int false IntKind.i64 (smF sl)] (75 : Nat))] (59 : Nat)) Scr.nil ∧ True) ∧ True) ∧ True) ∧ True) ∧ True) ∧ (∀ (K : KO XE), ((0 : Int) ≤ ln ∧ ln ≤
    (18446744073709551615 : Int)) ∧ (∀ (z : Un), True → cursor = cursor ∧ mp = mp ∧ ml = ml ∧ qu = qu ∧ fr = fr ∧ ln = ln ∧ se = se ∧ sl = sl ∧ (((0 : Int) ≤ sl ∧ sl ≤
    (18446744073709551615 : Int)) ∧ (∀ (z : Un), True → cursor = cursor ∧ mp = mp ∧ ml = ml ∧ qu = qu ∧ fr = fr ∧ ln = ln ∧ se = se ∧ sl = sl ∧ (cursor = cursor ∧ mp = mp ∧ ml = ml ∧ qu
    = qu ∧ fr = fr ∧ ln = ln ∧ se = se ∧ sl = sl ∧ K (SF.mk (53 : Nat) (ST.node (SV.c (SC.sli (13 : Nat) (1 : Nat) true (0 : Nat) true (8 : Nat) (8 : Nat))) (ST.node (SV.tup [])
    (ST.node (SV.c (SC.ptr (26 : Nat) (0 : Nat))) (ST.node (SV.tup []) (ST.node (SV.c (SC.sli (13 : Nat) (1 : Nat) true (0 : Nat) true (8 : Nat) (8 : Nat))) (ST.node (SV.c (SC.ptr (13 :
    Nat) (6 : Nat))) ST.nil ST.nil) (ST.node (SV.tup []) ST.nil ST.nil)) (ST.node (SV.c (SC.ptr (13 : Nat) (4 : Nat))) (ST.node (SV.tup []) ST.nil ST.nil) ST.nil)) (ST.node (SV.tup [])
    (ST.node (SV.c (SC.sli (13 : Nat) (1 : Nat) true (0 : Nat) true (8 : Nat) (8 : Nat))) (ST.node (SV.c (SC.int false IntKind.u64 sl)) ST.nil ST.nil) (ST.node (SV.tup []) ST.nil
    ST.nil)) (ST.node (SV.c (SC.ptr (13 : Nat) (5 : Nat))) (ST.node (SV.tup []) ST.nil ST.nil) ST.nil))) (ST.node (SV.c (SC.ptr (57 : Nat) (0 : Nat))) (ST.node (SV.c (SC.int true
    IntKind.i64 (8 : Int) Bd.any)) (ST.node (SV.c (SC.int false IntKind.u64 ml)) (ST.node (SV.c (SC.sli (13 : Nat) (1 : Nat) true (0 : Nat) true (8 : Nat) (8 : Nat))) ST.nil ST.nil)
    (ST.node (SV.tup []) ST.nil ST.nil)) (ST.node (SV.c (SC.int false IntKind.i64 (smF fr))) (ST.node (SV.tup []) ST.nil ST.nil) ST.nil)) (ST.node (SV.c (SC.ptr (13 : Nat) (1 : Nat)))
    (ST.node (SV.c (SC.int false IntKind.u64 qu)) (ST.node (SV.agg [SC.int false IntKind.u64 mp, SC.int false IntKind.i64 (smF ml), SC.int false IntKind.u64 qu, SC.int false IntKind.i64
    (smF fr), SC.int false IntKind.i64 (smF ln), SC.int false IntKind.u64 se, SC.int false IntKind.i64 (smF sl)]) ST.nil ST.nil) ST.nil) (ST.node (SV.c (SC.int false IntKind.i64 (smF
    ln))) (ST.node (SV.tup []) ST.nil ST.nil) ST.nil)))) (ST.node (SV.c (SC.int true IntKind.u64 (0 : Int))) (ST.node (SV.c (SC.boo true false)) (ST.node (SV.c (SC.sli (13 : Nat) (1 :
    Nat) true (0 : Nat) true (8 : Nat) (8 : Nat))) (ST.node (SV.c (SC.ptr (13 : Nat) (2 : Nat))) (ST.node (SV.c (SC.int false IntKind.u64 se)) ST.nil ST.nil) (ST.node (SV.tup []) ST.nil
    ST.nil)) (ST.node (SV.c (SC.int false IntKind.u64 fr)) (ST.node (SV.tup []) ST.nil ST.nil) ST.nil)) (ST.node (SV.c (SC.sli (13 : Nat) (1 : Nat) true (0 : Nat) true (8 : Nat) (8 :
    Nat))) (ST.node (SV.c (SC.ptr (13 : Nat) (3 : Nat))) (ST.node (SV.c (SC.int false IntKind.i64 (smF sl))) ST.nil ST.nil) (ST.node (SV.tup []) ST.nil ST.nil)) (ST.node (SV.c (SC.int
    false IntKind.u64 ln)) (ST.node (SV.tup []) ST.nil ST.nil) ST.nil))) (ST.node (SV.tup []) (ST.node (SV.c (SC.boo true false)) (ST.node (SV.c (SC.int false IntKind.i64 (smF ml)))
    (ST.node (SV.c (SC.ptr (13 : Nat) (7 : Nat))) ST.nil ST.nil) (ST.node (SV.tup []) ST.nil ST.nil)) (ST.node (SV.c (SC.sli (13 : Nat) (1 : Nat) true (0 : Nat) true (8 : Nat) (8 :
    Nat))) (ST.node (SV.tup []) ST.nil ST.nil) ST.nil)) (ST.node (SV.c (SC.int false IntKind.u64 mp)) (ST.node (SV.c (SC.sli (13 : Nat) (1 : Nat) true (0 : Nat) true (8 : Nat) (8 :
    Nat))) (ST.node (SV.tup []) ST.nil ST.nil) ST.nil) (ST.node (SV.c (SC.sli (13 : Nat) (1 : Nat) true (0 : Nat) true (8 : Nat) (8 : Nat))) (ST.node (SV.tup []) ST.nil ST.nil)
    ST.nil))))) []) (Mem.mk [((0 : Nat), SO.cells [SC.int false IntKind.u64 mp, SC.int false IntKind.i64 ml, SC.int false IntKind.u64 qu, SC.int false IntKind.i64 fr, SC.int false
    IntKind.i64 ln, SC.int false IntKind.u64 se, SC.int false IntKind.i64 sl] (75 : Nat)), ((1 : Nat), SO.cells [SC.int false IntKind.i64 slot, SC.int false IntKind.u64 note, SC.int
    false IntKind.u64 next] (77 : Nat)), ((13 : Nat), SO.cells [SC.int false IntKind.u64 cursor, SC.int false IntKind.u64 mp, SC.int false IntKind.u64 ml, SC.int false IntKind.u64 qu,
    SC.int false IntKind.u64 fr, SC.int false IntKind.u64 ln, SC.int false IntKind.u64 se, SC.int false IntKind.u64 sl] (OfNat.ofNat (25 : Nat))), ((26 : Nat), SO.cells [SC.int true
    IntKind.u64 (0 : Int), SC.int true IntKind.i64 (0 : Int), SC.int true IntKind.u64 (0 : Int), SC.int true IntKind.i64 (0 : Int), SC.int true IntKind.i64 (0 : Int), SC.int true
    IntKind.u64 (0 : Int), SC.int true IntKind.i64 (0 : Int)] (75 : Nat)), ((57 : Nat), SO.cells [SC.int false IntKind.u64 mp, SC.int false IntKind.i64 (smF ml), SC.int false
    IntKind.u64 qu, SC.int false IntKind.i64 (smF fr), SC.int false IntKind.i64 (smF ln), SC.int false IntKind.u64 se, SC.int false IntKind.i64 (smF sl)] (75 : Nat))] (59 : Nat))
    Scr.nil ∧ True) ∧ True) ∧ True) ∧ (∀ (K : KO XE), ((0 : Int) ≤ sl ∧ sl ≤ (18446744073709551615 : Int)) ∧ (∀ (z : Un), True → cursor = cursor ∧ mp = mp ∧ ml = ml ∧ qu = qu ∧ fr = fr
    ∧ ln = ln ∧ se = se ∧ sl = sl ∧ (cursor = cursor ∧ mp = mp ∧ ml = ml ∧ qu = qu ∧ fr = fr ∧ ln = ln ∧ se = se ∧ sl = sl ∧ K (SF.mk (53 : Nat) (ST.node (SV.c (SC.sli (13 : Nat) (1 :
    Nat) true (0 : Nat) true (8 : Nat) (8 : Nat))) (ST.node (SV.tup []) (ST.node (SV.c (SC.ptr (26 : Nat) (0 : Nat))) (ST.node (SV.tup []) (ST.node (SV.c (SC.sli (13 : Nat) (1 : Nat)
    true (0 : Nat) true (8 : Nat) (8 : Nat))) (ST.node (SV.c (SC.ptr (13 : Nat) (6 : Nat))) ST.nil ST.nil) (ST.node (SV.tup []) ST.nil ST.nil)) (ST.node (SV.c (SC.ptr (13 : Nat) (4 :
    Nat))) (ST.node (SV.tup []) ST.nil ST.nil) ST.nil)) (ST.node (SV.tup []) (ST.node (SV.c (SC.sli (13 : Nat) (1 : Nat) true (0 : Nat) true (8 : Nat) (8 : Nat))) (ST.node (SV.c (SC.int
    false IntKind.u64 sl)) ST.nil ST.nil) (ST.node (SV.tup []) ST.nil ST.nil)) (ST.node (SV.c (SC.ptr (13 : Nat) (5 : Nat))) (ST.node (SV.tup []) ST.nil ST.nil) ST.nil))) (ST.node (SV.c
    (SC.ptr (57 : Nat) (0 : Nat))) (ST.node (SV.c (SC.int true IntKind.i64 (8 : Int) Bd.any)) (ST.node (SV.c (SC.int false IntKind.u64 ml)) (ST.node (SV.c (SC.sli (13 : Nat) (1 : Nat)
    true (0 : Nat) true (8 : Nat) (8 : Nat))) ST.nil ST.nil) (ST.node (SV.tup []) ST.nil ST.nil)) (ST.node (SV.c (SC.int false IntKind.i64 (smF fr))) (ST.node (SV.tup []) ST.nil ST.nil)
    ST.nil)) (ST.node (SV.c (SC.ptr (13 : Nat) (1 : Nat))) (ST.node (SV.c (SC.int false IntKind.u64 qu)) (ST.node (SV.agg [SC.int false IntKind.u64 mp, SC.int false IntKind.i64 (smF
    ml), SC.int false IntKind.u64 qu, SC.int false IntKind.i64 (smF fr), SC.int false IntKind.i64 (smF ln), SC.int false IntKind.u64 se, SC.int false IntKind.i64 (smF sl)]) ST.nil
    ST.nil) ST.nil) (ST.node (SV.c (SC.int false IntKind.i64 (smF ln))) (ST.node (SV.tup []) ST.nil ST.nil) ST.nil)))) (ST.node (SV.c (SC.int true IntKind.u64 (0 : Int))) (ST.node (SV.c
    (SC.boo true false)) (ST.node (SV.c (SC.sli (13 : Nat) (1 : Nat) true (0 : Nat) true (8 : Nat) (8 : Nat))) (ST.node (SV.c (SC.ptr (13 : Nat) (2 : Nat))) (ST.node (SV.c (SC.int false
    IntKind.u64 se)) ST.nil ST.nil) (ST.node (SV.tup []) ST.nil ST.nil)) (ST.node (SV.c (SC.int false IntKind.u64 fr)) (ST.node (SV.tup []) ST.nil ST.nil) ST.nil)) (ST.node (SV.c
    (SC.sli (13 : Nat) (1 : Nat) true (0 : Nat) true (8 : Nat) (8 : Nat))) (ST.node (SV.c (SC.ptr (13 : Nat) (3 : Nat))) (ST.node (SV.c (SC.int false IntKind.i64 (smF sl))) ST.nil
    ST.nil) (ST.node (SV.tup []) ST.nil ST.nil)) (ST.node (SV.c (SC.int false IntKind.u64 ln)) (ST.node (SV.tup []) ST.nil ST.nil) ST.nil))) (ST.node (SV.tup []) (ST.node (SV.c (SC.boo
    true false)) (ST.node (SV.c (SC.int false IntKind.i64 (smF ml))) (ST.node (SV.c (SC.ptr (13 : Nat) (7 : Nat))) ST.nil ST.nil) (ST.node (SV.tup []) ST.nil ST.nil)) (ST.node (SV.c
    (SC.sli (13 : Nat) (1 : Nat) true (0 : Nat) true (8 : Nat) (8 : Nat))) (ST.node (SV.tup []) ST.nil ST.nil) ST.nil)) (ST.node (SV.c (SC.int false IntKind.u64 mp)) (ST.node (SV.c
    (SC.sli (13 : Nat) (1 : Nat) true (0 : Nat) true (8 : Nat) (8 : Nat))) (ST.node (SV.tup []) ST.nil ST.nil) ST.nil) (ST.node (SV.c (SC.sli (13 : Nat) (1 : Nat) true (0 : Nat) true (8
    : Nat) (8 : Nat))) (ST.node (SV.tup []) ST.nil ST.nil) ST.nil))))) []) (Mem.mk [((0 : Nat), SO.cells [SC.int false IntKind.u64 mp, SC.int false IntKind.i64 ml, SC.int false
    IntKind.u64 qu, SC.int false IntKind.i64 fr, SC.int false IntKind.i64 ln, SC.int false IntKind.u64 se, SC.int false IntKind.i64 sl] (75 : Nat)), ((1 : Nat), SO.cells [SC.int false
    IntKind.i64 slot, SC.int false IntKind.u64 note, SC.int false IntKind.u64 next] (77 : Nat)), ((13 : Nat), SO.cells [SC.int false IntKind.u64 cursor, SC.int false IntKind.u64 mp,
    SC.int false IntKind.u64 ml, SC.int false IntKind.u64 qu, SC.int false IntKind.u64 fr, SC.int false IntKind.u64 ln, SC.int false IntKind.u64 se, SC.int false IntKind.u64 sl]
    (OfNat.ofNat (25 : Nat))), ((26 : Nat), SO.cells [SC.int true IntKind.u64 (0 : Int), SC.int true IntKind.i64 (0 : Int), SC.int true IntKind.u64 (0 : Int), SC.int true IntKind.i64 (0
    : Int), SC.int true IntKind.i64 (0 : Int), SC.int true IntKind.u64 (0 : Int), SC.int true IntKind.i64 (0 : Int)] (75 : Nat)), ((57 : Nat), SO.cells [SC.int false IntKind.u64 mp,
    SC.int false IntKind.i64 (smF ml), SC.int false IntKind.u64 qu, SC.int false IntKind.i64 (smF fr), SC.int false IntKind.i64 (smF ln), SC.int false IntKind.u64 se, SC.int false
    IntKind.i64 (smF sl)] (75 : Nat))] (59 : Nat)) Scr.nil ∧ True) ∧ True) ∧ True → cursor = cursor ∧ mp = mp ∧ ml = ml ∧ qu = qu ∧ fr = fr ∧ ln = ln ∧ se = se ∧ sl = sl ∧ (((0 : Int) ≤
    sl ∧ sl ≤ (18446744073709551615 : Int)) ∧ (∀ (z : Un), True → cursor = cursor ∧ mp = mp ∧ ml = ml ∧ qu = qu ∧ fr = fr ∧ ln = ln ∧ se = se ∧ sl = sl ∧ K (SF.mk (53 : Nat) (ST.node
    (SV.c (SC.sli (13 : Nat) (1 : Nat) true (0 : Nat) true (8 : Nat) (8 : Nat))) (ST.node (SV.tup []) (ST.node (SV.c (SC.ptr (26 : Nat) (0 : Nat))) (ST.node (SV.tup []) (ST.node (SV.c
    (SC.sli (13 : Nat) (1 : Nat) true (0 : Nat) true (8 : Nat) (8 : Nat))) (ST.node (SV.c (SC.ptr (13 : Nat) (6 : Nat))) ST.nil ST.nil) (ST.node (SV.tup []) ST.nil ST.nil)) (ST.node
    (SV.c (SC.ptr (13 : Nat) (4 : Nat))) (ST.node (SV.tup []) ST.nil ST.nil) ST.nil)) (ST.node (SV.tup []) (ST.node (SV.c (SC.sli (13 : Nat) (1 : Nat) true (0 : Nat) true (8 : Nat) (8 :
    Nat))) (ST.node (SV.c (SC.int false IntKind.u64 sl)) ST.nil ST.nil) (ST.node (SV.tup []) ST.nil ST.nil)) (ST.node (SV.c (SC.ptr (13 : Nat) (5 : Nat))) (ST.node (SV.tup []) ST.nil
    ST.nil) ST.nil))) (ST.node (SV.c (SC.ptr (57 : Nat) (0 : Nat))) (ST.node (SV.c (SC.int true IntKind.i64 (8 : Int) Bd.any)) (ST.node (SV.c (SC.int false IntKind.u64 ml)) (ST.node
    (SV.c (SC.sli (13 : Nat) (1 : Nat) true (0 : Nat) true (8 : Nat) (8 : Nat))) ST.nil ST.nil) (ST.node (SV.tup []) ST.nil ST.nil)) (ST.node (SV.c (SC.int false IntKind.i64 (smF fr)))
    (ST.node (SV.tup []) ST.nil ST.nil) ST.nil)) (ST.node (SV.c (SC.ptr (13 : Nat) (1 : Nat))) (ST.node (SV.c (SC.int false IntKind.u64 qu)) (ST.node (SV.agg [SC.int false IntKind.u64
    mp, SC.int false IntKind.i64 (smF ml), SC.int false IntKind.u64 qu, SC.int false IntKind.i64 (smF fr), SC.int false IntKind.i64 (smF ln), SC.int false IntKind.u64 se, SC.int false
    IntKind.i64 (smF sl)]) ST.nil ST.nil) ST.nil) (ST.node (SV.c (SC.int false IntKind.i64 (smF ln))) (ST.node (SV.tup []) ST.nil ST.nil) ST.nil)))) (ST.node (SV.c (SC.int true
    IntKind.u64 (0 : Int))) (ST.node (SV.c (SC.boo true false)) (ST.node (SV.c (SC.sli (13 : Nat) (1 : Nat) true (0 : Nat) true (8 : Nat) (8 : Nat))) (ST.node (SV.c (SC.ptr (13 : Nat)
    (2 : Nat))) (ST.node (SV.c (SC.int false IntKind.u64 se)) ST.nil ST.nil) (ST.node (SV.tup []) ST.nil ST.nil)) (ST.node (SV.c (SC.int false IntKind.u64 fr)) (ST.node (SV.tup [])
    ST.nil ST.nil) ST.nil)) (ST.node (SV.c (SC.sli (13 : Nat) (1 : Nat) true (0 : Nat) true (8 : Nat) (8 : Nat))) (ST.node (SV.c (SC.ptr (13 : Nat) (3 : Nat))) (ST.node (SV.c (SC.int
    false IntKind.i64 (smF sl))) ST.nil ST.nil) (ST.node (SV.tup []) ST.nil ST.nil)) (ST.node (SV.c (SC.int false IntKind.u64 ln)) (ST.node (SV.tup []) ST.nil ST.nil) ST.nil))) (ST.node
    (SV.tup []) (ST.node (SV.c (SC.boo true false)) (ST.node (SV.c (SC.int false IntKind.i64 (smF ml))) (ST.node (SV.c (SC.ptr (13 : Nat) (7 : Nat))) ST.nil ST.nil) (ST.node (SV.tup [])
    ST.nil ST.nil)) (ST.node (SV.c (SC.sli (13 : Nat) (1 : Nat) true (0 : Nat) true (8 : Nat) (8 : Nat))) (ST.node (SV.tup []) ST.nil ST.nil) ST.nil)) (ST.node (SV.c (SC.int false
    IntKind.u64 mp)) (ST.node (SV.c (SC.sli (13 : Nat) (1 : Nat) true (0 : Nat) true (8 : Nat) (8 : Nat))) (ST.node (SV.tup []) ST.nil ST.nil) ST.nil) (ST.node (SV.c (SC.sli (13 : Nat)
    (1 : Nat) true (0 : Nat) true (8 : Nat) (8 : Nat))) (ST.node (SV.tup []) ST.nil ST.nil) ST.nil))))) []) (Mem.mk [((0 : Nat), SO.cells [SC.int false IntKind.u64 mp, SC.int false
    IntKind.i64 ml, SC.int false IntKind.u64 qu, SC.int false IntKind.i64 fr, SC.int false IntKind.i64 ln, SC.int false IntKind.u64 se, SC.int false IntKind.i64 sl] (75 : Nat)), ((1 :
    Nat), SO.cells [SC.int false IntKind.i64 slot, SC.int false IntKind.u64 note, SC.int false IntKind.u64 next] (77 : Nat)), ((13 : Nat), SO.cells [SC.int false IntKind.u64 cursor,
    SC.int false IntKind.u64 mp, SC.int false IntKind.u64 ml, SC.int false IntKind.u64 qu, SC.int false IntKind.u64 fr, SC.int false IntKind.u64 ln, SC.int false IntKind.u64 se, SC.int
    false IntKind.u64 sl] (OfNat.ofNat (25 : Nat))), ((26 : Nat), SO.cells [SC.int true IntKind.u64 (0 : Int), SC.int true IntKind.i64 (0 : Int), SC.int true IntKind.u64 (0 : Int),
    SC.int true IntKind.i64 (0 : Int), SC.int true IntKind.i64 (0 : Int), SC.int true IntKind.u64 (0 : Int), SC.int true IntKind.i64 (0 : Int)] (75 : Nat)), ((57 : Nat), SO.cells
    [SC.int false IntKind.u64 mp, SC.int false IntKind.i64 (smF ml), SC.int false IntKind.u64 qu, SC.int false IntKind.i64 (smF fr), SC.int false IntKind.i64 (smF ln), SC.int false
    IntKind.u64 se, SC.int false IntKind.i64 (smF sl)] (75 : Nat))] (59 : Nat)) Scr.nil ∧ True) ∧ True) ∧ True) ∧ True) ∧ True → cursor = cursor ∧ mp = mp ∧ ml = ml ∧ qu = qu ∧ fr = fr
    ∧ ln = ln ∧ se = se ∧ sl = sl ∧ (((0 : Int) ≤ ln ∧ ln ≤ (18446744073709551615 : Int)) ∧ (∀ (z : Un), True → cursor = cursor ∧ mp = mp ∧ ml = ml ∧ qu = qu ∧ fr = fr ∧ ln = ln ∧ se =
    se ∧ sl = sl ∧ (((0 : Int) ≤ sl ∧ sl ≤ (18446744073709551615 : Int)) ∧ (∀ (z : Un), True → cursor = cursor ∧ mp = mp ∧ ml = ml ∧ qu = qu ∧ fr = fr ∧ ln = ln ∧ se = se ∧ sl = sl ∧ K
    (SF.mk (53 : Nat) (ST.node (SV.c (SC.sli (13 : Nat) (1 : Nat) true (0 : Nat) true (8 : Nat) (8 : Nat))) (ST.node (SV.tup []) (ST.node (SV.c (SC.ptr (26 : Nat) (0 : Nat))) (ST.node
    (SV.tup []) (ST.node (SV.c (SC.sli (13 : Nat) (1 : Nat) true (0 : Nat) true (8 : Nat) (8 : Nat))) (ST.node (SV.c (SC.ptr (13 : Nat) (6 : Nat))) ST.nil ST.nil) (ST.node (SV.tup [])
    ST.nil ST.nil)) (ST.node (SV.c (SC.ptr (13 : Nat) (4 : Nat))) (ST.node (SV.tup []) ST.nil ST.nil) ST.nil)) (ST.node (SV.tup []) (ST.node (SV.c (SC.sli (13 : Nat) (1 : Nat) true (0 :
    Nat) true (8 : Nat) (8 : Nat))) (ST.node (SV.c (SC.int false IntKind.u64 sl)) ST.nil ST.nil) (ST.node (SV.tup []) ST.nil ST.nil)) (ST.node (SV.c (SC.ptr (13 : Nat) (5 : Nat)))
    (ST.node (SV.tup []) ST.nil ST.nil) ST.nil))) (ST.node (SV.c (SC.ptr (57 : Nat) (0 : Nat))) (ST.node (SV.c (SC.int true IntKind.i64 (8 : Int) Bd.any)) (ST.node (SV.c (SC.int false
    IntKind.u64 ml)) (ST.node (SV.c (SC.sli (13 : Nat) (1 : Nat) true (0 : Nat) true (8 : Nat) (8 : Nat))) ST.nil ST.nil) (ST.node (SV.tup []) ST.nil ST.nil)) (ST.node (SV.c (SC.int
    false IntKind.i64 (smF fr))) (ST.node (SV.tup []) ST.nil ST.nil) ST.nil)) (ST.node (SV.c (SC.ptr (13 : Nat) (1 : Nat))) (ST.node (SV.c (SC.int false IntKind.u64 qu)) (ST.node
    (SV.agg [SC.int false IntKind.u64 mp, SC.int false IntKind.i64 (smF ml), SC.int false IntKind.u64 qu, SC.int false IntKind.i64 (smF fr), SC.int false IntKind.i64 (smF ln), SC.int
    false IntKind.u64 se, SC.int false IntKind.i64 (smF sl)]) ST.nil ST.nil) ST.nil) (ST.node (SV.c (SC.int false IntKind.i64 (smF ln))) (ST.node (SV.tup []) ST.nil ST.nil) ST.nil))))
    (ST.node (SV.c (SC.int true IntKind.u64 (0 : Int))) (ST.node (SV.c (SC.boo true false)) (ST.node (SV.c (SC.sli (13 : Nat) (1 : Nat) true (0 : Nat) true (8 : Nat) (8 : Nat)))
    (ST.node (SV.c (SC.ptr (13 : Nat) (2 : Nat))) (ST.node (SV.c (SC.int false IntKind.u64 se)) ST.nil ST.nil) (ST.node (SV.tup []) ST.nil ST.nil)) (ST.node (SV.c (SC.int false
    IntKind.u64 fr)) (ST.node (SV.tup []) ST.nil ST.nil) ST.nil)) (ST.node (SV.c (SC.sli (13 : Nat) (1 : Nat) true (0 : Nat) true (8 : Nat) (8 : Nat))) (ST.node (SV.c (SC.ptr (13 : Nat)
    (3 : Nat))) (ST.node (SV.c (SC.int false IntKind.i64 (smF sl))) ST.nil ST.nil) (ST.node (SV.tup []) ST.nil ST.nil)) (ST.node (SV.c (SC.int false IntKind.u64 ln)) (ST.node (SV.tup
    []) ST.nil ST.nil) ST.nil))) (ST.node (SV.tup []) (ST.node (SV.c (SC.boo true false)) (ST.node (SV.c (SC.int false IntKind.i64 (smF ml))) (ST.node (SV.c (SC.ptr (13 : Nat) (7 :
    Nat))) ST.nil ST.nil) (ST.node (SV.tup []) ST.nil ST.nil)) (ST.node (SV.c (SC.sli (13 : Nat) (1 : Nat) true (0 : Nat) true (8 : Nat) (8 : Nat))) (ST.node (SV.tup []) ST.nil ST.nil)
    ST.nil)) (ST.node (SV.c (SC.int false IntKind.u64 mp)) (ST.node (SV.c (SC.sli (13 : Nat) (1 : Nat) true (0 : Nat) true (8 : Nat) (8 : Nat))) (ST.node (SV.tup []) ST.nil ST.nil)
    ST.nil) (ST.node (SV.c (SC.sli (13 : Nat) (1 : Nat) true (0 : Nat) true (8 : Nat) (8 : Nat))) (ST.node (SV.tup []) ST.nil ST.nil) ST.nil))))) []) (Mem.mk [((0 : Nat), SO.cells
    [SC.int false IntKind.u64 mp, SC.int false IntKind.i64 ml, SC.int false IntKind.u64 qu, SC.int false IntKind.i64 fr, SC.int false IntKind.i64 ln, SC.int false IntKind.u64 se, SC.int
    false IntKind.i64 sl] (75 : Nat)), ((1 : Nat), SO.cells [SC.int false IntKind.i64 slot, SC.int false IntKind.u64 note, SC.int false IntKind.u64 next] (77 : Nat)), ((13 : Nat),
    SO.cells [SC.int false IntKind.u64 cursor, SC.int false IntKind.u64 mp, SC.int false IntKind.u64 ml, SC.int false IntKind.u64 qu, SC.int false IntKind.u64 fr, SC.int false
    IntKind.u64 ln, SC.int false IntKind.u64 se, SC.int false IntKind.u64 sl] (OfNat.ofNat (25 : Nat))), ((26 : Nat), SO.cells [SC.int true IntKind.u64 (0 : Int), SC.int true
    IntKind.i64 (0 : Int), SC.int true IntKind.u64 (0 : Int), SC.int true IntKind.i64 (0 : Int), SC.int true IntKind.i64 (0 : Int), SC.int true IntKind.u64 (0 : Int), SC.int true
    IntKind.i64 (0 : Int)] (75 : Nat)), ((57 : Nat), SO.cells [SC.int false IntKind.u64 mp, SC.int false IntKind.i64 (smF ml), SC.int false IntKind.u64 qu, SC.int false IntKind.i64 (smF
    fr), SC.int false IntKind.i64 (smF ln), SC.int false IntKind.u64 se, SC.int false IntKind.i64 (smF sl)] (75 : Nat))] (59 : Nat)) Scr.nil ∧ True) ∧ True) ∧ True) ∧ True) ∧ True) ∧
    True) ∧ True → cursor = cursor ∧ mp = mp ∧ ml = ml ∧ qu = qu ∧ fr = fr ∧ ln = ln ∧ se = se ∧ sl = sl ∧ (((0 : Int) ≤ fr ∧ fr ≤ (18446744073709551615 : Int)) ∧ (∀ (z : Un), True →
    cursor = cursor ∧ mp = mp ∧ ml = ml ∧ qu = qu ∧ fr = fr ∧ ln = ln ∧ se = se ∧ sl = sl ∧ (((0 : Int) ≤ ln ∧ ln ≤ (18446744073709551615 : Int)) ∧ (∀ (z : Un), True → cursor = cursor ∧
    mp = mp ∧ ml = ml ∧ qu = qu ∧ fr = fr ∧ ln = ln ∧ se = se ∧ sl = sl ∧ (((0 : Int) ≤ sl ∧ sl ≤ (18446744073709551615 : Int)) ∧ (∀ (z : Un), True → cursor = cursor ∧ mp = mp ∧ ml = ml
    ∧ qu = qu ∧ fr = fr ∧ ln = ln ∧ se = se ∧ sl = sl ∧ K (SF.mk (53 : Nat) (ST.node (SV.c (SC.sli (13 : Nat) (1 : Nat) true (0 : Nat) true (8 : Nat) (8 : Nat))) (ST.node (SV.tup [])
    (ST.node (SV.c (SC.ptr (26 : Nat) (0 : Nat))) (ST.node (SV.tup []) (ST.node (SV.c (SC.sli (13 : Nat) (1 : Nat) true (0 : Nat) true (8 : Nat) (8 : Nat))) (ST.node (SV.c (SC.ptr (13 :
    Nat) (6 : Nat))) ST.nil ST.nil) (ST.node (SV.tup []) ST.nil ST.nil)) (ST.node (SV.c (SC.ptr (13 : Nat) (4 : Nat))) (ST.node (SV.tup []) ST.nil ST.nil) ST.nil)) (ST.node (SV.tup [])
    (ST.node (SV.c (SC.sli (13 : Nat) (1 : Nat) true (0 : Nat) true (8 : Nat) (8 : Nat))) (ST.node (SV.c (SC.int false IntKind.u64 sl)) ST.nil ST.nil) (ST.node (SV.tup []) ST.nil
    ST.nil)) (ST.node (SV.c (SC.ptr (13 : Nat) (5 : Nat))) (ST.node (SV.tup []) ST.nil ST.nil) ST.nil))) (ST.node (SV.c (SC.ptr (57 : Nat) (0 : Nat))) (ST.node (SV.c (SC.int true
    IntKind.i64 (8 : Int) Bd.any)) (ST.node (SV.c (SC.int false IntKind.u64 ml)) (ST.node (SV.c (SC.sli (13 : Nat) (1 : Nat) true (0 : Nat) true (8 : Nat) (8 : Nat))) ST.nil ST.nil)
    (ST.node (SV.tup []) ST.nil ST.nil)) (ST.node (SV.c (SC.int false IntKind.i64 (smF fr))) (ST.node (SV.tup []) ST.nil ST.nil) ST.nil)) (ST.node (SV.c (SC.ptr (13 : Nat) (1 : Nat)))
    (ST.node (SV.c (SC.int false IntKind.u64 qu)) (ST.node (SV.agg [SC.int false IntKind.u64 mp, SC.int false IntKind.i64 (smF ml), SC.int false IntKind.u64 qu, SC.int false IntKind.i64
    (smF fr), SC.int false IntKind.i64 (smF ln), SC.int false IntKind.u64 se, SC.int false IntKind.i64 (smF sl)]) ST.nil ST.nil) ST.nil) (ST.node (SV.c (SC.int false IntKind.i64 (smF
    ln))) (ST.node (SV.tup []) ST.nil ST.nil) ST.nil)))) (ST.node (SV.c (SC.int true IntKind.u64 (0 : Int))) (ST.node (SV.c (SC.boo true false)) (ST.node (SV.c (SC.sli (13 : Nat) (1 :
    Nat) true (0 : Nat) true (8 : Nat) (8 : Nat))) (ST.node (SV.c (SC.ptr (13 : Nat) (2 : Nat))) (ST.node (SV.c (SC.int false IntKind.u64 se)) ST.nil ST.nil) (ST.node (SV.tup []) ST.nil
    ST.nil)) (ST.node (SV.c (SC.int false IntKind.u64 fr)) (ST.node (SV.tup []) ST.nil ST.nil) ST.nil)) (ST.node (SV.c (SC.sli (13 : Nat) (1 : Nat) true (0 : Nat) true (8 : Nat) (8 :
    Nat))) (ST.node (SV.c (SC.ptr (13 : Nat) (3 : Nat))) (ST.node (SV.c (SC.int false IntKind.i64 (smF sl))) ST.nil ST.nil) (ST.node (SV.tup []) ST.nil ST.nil)) (ST.node (SV.c (SC.int
    false IntKind.u64 ln)) (ST.node (SV.tup []) ST.nil ST.nil) ST.nil))) (ST.node (SV.tup []) (ST.node (SV.c (SC.boo true false)) (ST.node (SV.c (SC.int false IntKind.i64 (smF ml)))
    (ST.node (SV.c (SC.ptr (13 : Nat) (7 : Nat))) ST.nil ST.nil) (ST.node (SV.tup []) ST.nil ST.nil)) (ST.node (SV.c (SC.sli (13 : Nat) (1 : Nat) true (0 : Nat) true (8 : Nat) (8 :
    Nat))) (ST.node (SV.tup []) ST.nil ST.nil) ST.nil)) (ST.node (SV.c (SC.int false IntKind.u64 mp)) (ST.node (SV.c (SC.sli (13 : Nat) (1 : Nat) true (0 : Nat) true (8 : Nat) (8 :
    Nat))) (ST.node (SV.tup []) ST.nil ST.nil) ST.nil) (ST.node (SV.c (SC.sli (13 : Nat) (1 : Nat) true (0 : Nat) true (8 : Nat) (8 : Nat))) (ST.node (SV.tup []) ST.nil ST.nil)
    ST.nil))))) []) (Mem.mk [((0 : Nat), SO.cells [SC.int false IntKind.u64 mp, SC.int false IntKind.i64 ml, SC.int false IntKind.u64 qu, SC.int false IntKind.i64 fr, SC.int false
    IntKind.i64 ln, SC.int false IntKind.u64 se, SC.int false IntKind.i64 sl] (75 : Nat)), ((1 : Nat), SO.cells [SC.int false IntKind.i64 slot, SC.int false IntKind.u64 note, SC.int
    false IntKind.u64 next] (77 : Nat)), ((13 : Nat), SO.cells [SC.int false IntKind.u64 cursor, SC.int false IntKind.u64 mp, SC.int false IntKind.u64 ml, SC.int false IntKind.u64 qu,
    SC.int false IntKind.u64 fr, SC.int false IntKind.u64 ln, SC.int false IntKind.u64 se, SC.int false IntKind.u64 sl] (OfNat.ofNat (25 : Nat))), ((26 : Nat), SO.cells [SC.int true
    IntKind.u64 (0 : Int), SC.int true IntKind.i64 (0 : Int), SC.int true IntKind.u64 (0 : Int), SC.int true IntKind.i64 (0 : Int), SC.int true IntKind.i64 (0 : Int), SC.int true
    IntKind.u64 (0 : Int), SC.int true IntKind.i64 (0 : Int)] (75 : Nat)), ((57 : Nat), SO.cells [SC.int false IntKind.u64 mp, SC.int false IntKind.i64 (smF ml), SC.int false
    IntKind.u64 qu, SC.int false IntKind.i64 (smF fr), SC.int false IntKind.i64 (smF ln), SC.int false IntKind.u64 se, SC.int false IntKind.i64 (smF sl)] (75 : Nat))] (59 : Nat))
    Scr.nil ∧ True) ∧ True) ∧ True) ∧ True) ∧ True) ∧ True) ∧ True) ∧ True) ∧ True) ∧ (∀ (K : KO XE), ((0 : Int) ≤ ml ∧ ml ≤ (18446744073709551615 : Int)) ∧ (∀ (z : Un), True → cursor =
    cursor ∧ mp = mp ∧ ml = ml ∧ qu = qu ∧ fr = fr ∧ ln = ln ∧ se = se ∧ sl = sl ∧ (((0 : Int) ≤ fr ∧ fr ≤ (18446744073709551615 : Int)) ∧ (∀ (z : Un), True → cursor = cursor ∧ mp = mp
    ∧ ml = ml ∧ qu = qu ∧ fr = fr ∧ ln = ln ∧ se = se ∧ sl = sl ∧ (((0 : Int) ≤ ln ∧ ln ≤ (18446744073709551615 : Int)) ∧ (∀ (z : Un), True → cursor = cursor ∧ mp = mp ∧ ml = ml ∧ qu =
    qu ∧ fr = fr ∧ ln = ln ∧ se = se ∧ sl = sl ∧ (((0 : Int) ≤ sl ∧ sl ≤ (18446744073709551615 : Int)) ∧ (∀ (z : Un), True → cursor = cursor ∧ mp = mp ∧ ml = ml ∧ qu = qu ∧ fr = fr ∧ ln
    = ln ∧ se = se ∧ sl = sl ∧ (cursor = cursor ∧ mp = mp ∧ ml = ml ∧ qu = qu ∧ fr = fr ∧ ln = ln ∧ se = se ∧ sl = sl ∧ K (SF.mk (53 : Nat) (ST.node (SV.c (SC.sli (13 : Nat) (1 : Nat)
    true (0 : Nat) true (8 : Nat) (8 : Nat))) (ST.node (SV.tup []) (ST.node (SV.c (SC.ptr (26 : Nat) (0 : Nat))) (ST.node (SV.tup []) (ST.node (SV.c (SC.sli (13 : Nat) (1 : Nat) true (0
    : Nat) true (8 : Nat) (8 : Nat))) (ST.node (SV.c (SC.ptr (13 : Nat) (6 : Nat))) ST.nil ST.nil) (ST.node (SV.tup []) ST.nil ST.nil)) (ST.node (SV.c (SC.ptr (13 : Nat) (4 : Nat)))
    (ST.node (SV.tup []) ST.nil ST.nil) ST.nil)) (ST.node (SV.tup []) (ST.node (SV.c (SC.sli (13 : Nat) (1 : Nat) true (0 : Nat) true (8 : Nat) (8 : Nat))) (ST.node (SV.c (SC.int false
    IntKind.u64 sl)) ST.nil ST.nil) (ST.node (SV.tup []) ST.nil ST.nil)) (ST.node (SV.c (SC.ptr (13 : Nat) (5 : Nat))) (ST.node (SV.tup []) ST.nil ST.nil) ST.nil))) (ST.node (SV.c
    (SC.ptr (57 : Nat) (0 : Nat))) (ST.node (SV.c (SC.int true IntKind.i64 (8 : Int) Bd.any)) (ST.node (SV.c (SC.int false IntKind.u64 ml)) (ST.node (SV.c (SC.sli (13 : Nat) (1 : Nat)
    true (0 : Nat) true (8 : Nat) (8 : Nat))) ST.nil ST.nil) (ST.node (SV.tup []) ST.nil ST.nil)) (ST.node (SV.c (SC.int false IntKind.i64 (smF fr))) (ST.node (SV.tup []) ST.nil ST.nil)
    ST.nil)) (ST.node (SV.c (SC.ptr (13 : Nat) (1 : Nat))) (ST.node (SV.c (SC.int false IntKind.u64 qu)) (ST.node (SV.agg [SC.int false IntKind.u64 mp, SC.int false IntKind.i64 (smF
    ml), SC.int false IntKind.u64 qu, SC.int false IntKind.i64 (smF fr), SC.int false IntKind.i64 (smF ln), SC.int false IntKind.u64 se, SC.int false IntKind.i64 (smF sl)]) ST.nil
    ST.nil) ST.nil) (ST.node (SV.c (SC.int false IntKind.i64 (smF ln))) (ST.node (SV.tup []) ST.nil ST.nil) ST.nil)))) (ST.node (SV.c (SC.int true IntKind.u64 (0 : Int))) (ST.node (SV.c
    (SC.boo true false)) (ST.node (SV.c (SC.sli (13 : Nat) (1 : Nat) true (0 : Nat) true (8 : Nat) (8 : Nat))) (ST.node (SV.c (SC.ptr (13 : Nat) (2 : Nat))) (ST.node (SV.c (SC.int false
    IntKind.u64 se)) ST.nil ST.nil) (ST.node (SV.tup []) ST.nil ST.nil)) (ST.node (SV.c (SC.int false IntKind.u64 fr)) (ST.node (SV.tup []) ST.nil ST.nil) ST.nil)) (ST.node (SV.c
    (SC.sli (13 : Nat) (1 : Nat) true (0 : Nat) true (8 : Nat) (8 : Nat))) (ST.node (SV.c (SC.ptr (13 : Nat) (3 : Nat))) (ST.node (SV.c (SC.int false IntKind.i64 (smF sl))) ST.nil
    ST.nil) (ST.node (SV.tup []) ST.nil ST.nil)) (ST.node (SV.c (SC.int false IntKind.u64 ln)) (ST.node (SV.tup []) ST.nil ST.nil) ST.nil))) (ST.node (SV.tup []) (ST.node (SV.c (SC.boo
    true false)) (ST.node (SV.c (SC.int false IntKind.i64 (smF ml))) (ST.node (SV.c (SC.ptr (13 : Nat) (7 : Nat))) ST.nil ST.nil) (ST.node (SV.tup []) ST.nil ST.nil)) (ST.node (SV.c
    (SC.sli (13 : Nat) (1 : Nat) true (0 : Nat) true (8 : Nat) (8 : Nat))) (ST.node (SV.tup []) ST.nil ST.nil) ST.nil)) (ST.node (SV.c (SC.int false IntKind.u64 mp)) (ST.node (SV.c
    (SC.sli (13 : Nat) (1 : Nat) true (0 : Nat) true (8 : Nat) (8 : Nat))) (ST.node (SV.tup []) ST.nil ST.nil) ST.nil) (ST.node (SV.c (SC.sli (13 : Nat) (1 : Nat) true (0 : Nat) true (8
    : Nat) (8 : Nat))) (ST.node (SV.tup []) ST.nil ST.nil) ST.nil))))) []) (Mem.mk [((0 : Nat), SO.cells [SC.int false IntKind.u64 mp, SC.int false IntKind.i64 ml, SC.int false
    IntKind.u64 qu, SC.int false IntKind.i64 fr, SC.int false IntKind.i64 ln, SC.int false IntKind.u64 se, SC.int false IntKind.i64 sl] (75 : Nat)), ((1 : Nat), SO.cells [SC.int false
    IntKind.i64 slot, SC.int false IntKind.u64 note, SC.int false IntKind.u64 next] (77 : Nat)), ((13 : Nat), SO.cells [SC.int false IntKind.u64 cursor, SC.int false IntKind.u64 mp,
    SC.int false IntKind.u64 ml, SC.int false IntKind.u64 qu, SC.int false IntKind.u64 fr, SC.int false IntKind.u64 ln, SC.int false IntKind.u64 se, SC.int false IntKind.u64 sl]
    (OfNat.ofNat (25 : Nat))), ((26 : Nat), SO.cells [SC.int true IntKind.u64 (0 : Int), SC.int true IntKind.i64 (0 : Int), SC.int true IntKind.u64 (0 : Int), SC.int true IntKind.i64 (0
    : Int), SC.int true IntKind.i64 (0 : Int), SC.int true IntKind.u64 (0 : Int), SC.int true IntKind.i64 (0 : Int)] (75 : Nat)), ((57 : Nat), SO.cells [SC.int false IntKind.u64 mp,
    SC.int false IntKind.i64 (smF ml), SC.int false IntKind.u64 qu, SC.int false IntKind.i64 (smF fr), SC.int false IntKind.i64 (smF ln), SC.int false IntKind.u64 se, SC.int false
    IntKind.i64 (smF sl)] (75 : Nat))] (59 : Nat)) Scr.nil ∧ True) ∧ True) ∧ True) ∧ (∀ (K : KO XE), ((0 : Int) ≤ sl ∧ sl ≤ (18446744073709551615 : Int)) ∧ (∀ (z : Un), True → cursor =
    cursor ∧ mp = mp ∧ ml = ml ∧ qu = qu ∧ fr = fr ∧ ln = ln ∧ se = se ∧ sl = sl ∧ (cursor = cursor ∧ mp = mp ∧ ml = ml ∧ qu = qu ∧ fr = fr ∧ ln = ln ∧ se = se ∧ sl = sl ∧ K (SF.mk (53
    : Nat) (ST.node (SV.c (SC.sli (13 : Nat) (1 : Nat) true (0 : Nat) true (8 : Nat) (8 : Nat))) (ST.node (SV.tup []) (ST.node (SV.c (SC.ptr (26 : Nat) (0 : Nat))) (ST.node (SV.tup [])
    (ST.node (SV.c (SC.sli (13 : Nat) (1 : Nat) true (0 : Nat) true (8 : Nat) (8 : Nat))) (ST.node (SV.c (SC.ptr (13 : Nat) (6 : Nat))) ST.nil ST.nil) (ST.node (SV.tup []) ST.nil
    ST.nil)) (ST.node (SV.c (SC.ptr (13 : Nat) (4 : Nat))) (ST.node (SV.tup []) ST.nil ST.nil) ST.nil)) (ST.node (SV.tup []) (ST.node (SV.c (SC.sli (13 : Nat) (1 : Nat) true (0 : Nat)
    true (8 : Nat) (8 : Nat))) (ST.node (SV.c (SC.int false IntKind.u64 sl)) ST.nil ST.nil) (ST.node (SV.tup []) ST.nil ST.nil)) (ST.node (SV.c (SC.ptr (13 : Nat) (5 : Nat))) (ST.node
    (SV.tup []) ST.nil ST.nil) ST.nil))) (ST.node (SV.c (SC.ptr (57 : Nat) (0 : Nat))) (ST.node (SV.c (SC.int true IntKind.i64 (8 : Int) Bd.any)) (ST.node (SV.c (SC.int false
    IntKind.u64 ml)) (ST.node (SV.c (SC.sli (13 : Nat) (1 : Nat) true (0 : Nat) true (8 : Nat) (8 : Nat))) ST.nil ST.nil) (ST.node (SV.tup []) ST.nil ST.nil)) (ST.node (SV.c (SC.int
    false IntKind.i64 (smF fr))) (ST.node (SV.tup []) ST.nil ST.nil) ST.nil)) (ST.node (SV.c (SC.ptr (13 : Nat) (1 : Nat))) (ST.node (SV.c (SC.int false IntKind.u64 qu)) (ST.node
    (SV.agg [SC.int false IntKind.u64 mp, SC.int false IntKind.i64 (smF ml), SC.int false IntKind.u64 qu, SC.int false IntKind.i64 (smF fr), SC.int false IntKind.i64 (smF ln), SC.int
    false IntKind.u64 se, SC.int false IntKind.i64 (smF sl)]) ST.nil ST.nil) ST.nil) (ST.node (SV.c (SC.int false IntKind.i64 (smF ln))) (ST.node (SV.tup []) ST.nil ST.nil) ST.nil))))
    (ST.node (SV.c (SC.int true IntKind.u64 (0 : Int))) (ST.node (SV.c (SC.boo true false)) (ST.node (SV.c (SC.sli (13 : Nat) (1 : Nat) true (0 : Nat) true (8 : Nat) (8 : Nat)))
    (ST.node (SV.c (SC.ptr (13 : Nat) (2 : Nat))) (ST.node (SV.c (SC.int false IntKind.u64 se)) ST.nil ST.nil) (ST.node (SV.tup []) ST.nil ST.nil)) (ST.node (SV.c (SC.int false
    IntKind.u64 fr)) (ST.node (SV.tup []) ST.nil ST.nil) ST.nil)) (ST.node (SV.c (SC.sli (13 : Nat) (1 : Nat) true (0 : Nat) true (8 : Nat) (8 : Nat))) (ST.node (SV.c (SC.ptr (13 : Nat)
    (3 : Nat))) (ST.node (SV.c (SC.int false IntKind.i64 (smF sl))) ST.nil ST.nil) (ST.node (SV.tup []) ST.nil ST.nil)) (ST.node (SV.c (SC.int false IntKind.u64 ln)) (ST.node (SV.tup
    []) ST.nil ST.nil) ST.nil))) (ST.node (SV.tup []) (ST.node (SV.c (SC.boo true false)) (ST.node (SV.c (SC.int false IntKind.i64 (smF ml))) (ST.node (SV.c (SC.ptr (13 : Nat) (7 :
    Nat))) ST.nil ST.nil) (ST.node (SV.tup []) ST.nil ST.nil)) (ST.node (SV.c (SC.sli (13 : Nat) (1 : Nat) true (0 : Nat) true (8 : Nat) (8 : Nat))) (ST.node (SV.tup []) ST.nil ST.nil)
    ST.nil)) (ST.node (SV.c (SC.int false IntKind.u64 mp)) (ST.node (SV.c (SC.sli (13 : Nat) (1 : Nat) true (0 : Nat) true (8 : Nat) (8 : Nat))) (ST.node (SV.tup []) ST.nil ST.nil)
    ST.nil) (ST.node (SV.c (SC.sli (13 : Nat) (1 : Nat) true (0 : Nat) true (8 : Nat) (8 : Nat))) (ST.node (SV.tup []) ST.nil ST.nil) ST.nil))))) []) (Mem.mk [((0 : Nat), SO.cells
    [SC.int false IntKind.u64 mp, SC.int false IntKind.i64 ml, SC.int false IntKind.u64 qu, SC.int false IntKind.i64 fr, SC.int false IntKind.i64 ln, SC.int false IntKind.u64 se, SC.int
    false IntKind.i64 sl] (75 : Nat)), ((1 : Nat), SO.cells [SC.int false IntKind.i64 slot, SC.int false IntKind.u64 note, SC.int false IntKind.u64 next] (77 : Nat)), ((13 : Nat),
    SO.cells [SC.int false IntKind.u64 cursor, SC.int false IntKind.u64 mp, SC.int false IntKind.u64 ml, SC.int false IntKind.u64 qu, SC.int false IntKind.u64 fr, SC.int false
    IntKind.u64 ln, SC.int false IntKind.u64 se, SC.int false IntKind.u64 sl] (OfNat.ofNat (25 : Nat))), ((26 : Nat), SO.cells [SC.int true IntKind.u64 (0 : Int), SC.int true
    IntKind.i64 (0 : Int), SC.int true IntKind.u64 (0 : Int), SC.int true IntKind.i64 (0 : Int), SC.int true IntKind.i64 (0 : Int), SC.int true IntKind.u64 (0 : Int), SC.int true
    IntKind.i64 (0 : Int)] (75 : Nat)), ((57 : Nat), SO.cells [SC.int false IntKind.u64 mp, SC.int false IntKind.i64 (smF ml), SC.int false IntKind.u64 qu, SC.int false IntKind.i64 (smF
    fr), SC.int false IntKind.i64 (smF ln), SC.int false IntKind.u64 se, SC.int false IntKind.i64 (smF sl)] (75 : Nat))] (59 : Nat)) Scr.nil ∧ True) ∧ True) ∧ True → cursor = cursor ∧
    mp = mp ∧ ml = ml ∧ qu = qu ∧ fr = fr ∧ ln = ln ∧ se = se ∧ sl = sl ∧ (((0 : Int) ≤ sl ∧ sl ≤ (18446744073709551615 : Int)) ∧ (∀ (z : Un), True → cursor = cursor ∧ mp = mp ∧ ml = ml
    ∧ qu = qu ∧ fr = fr ∧ ln = ln ∧ se = se ∧ sl = sl ∧ K (SF.mk (53 : Nat) (ST.node (SV.c (SC.sli (13 : Nat) (1 : Nat) true (0 : Nat) true (8 : Nat) (8 : Nat))) (ST.node (SV.tup [])
    (ST.node (SV.c (SC.ptr (26 : Nat) (0 : Nat))) (ST.node (SV.tup []) (ST.node (SV.c (SC.sli (13 : Nat) (1 : Nat) true (0 : Nat) true (8 : Nat) (8 : Nat))) (ST.node (SV.c (SC.ptr (13 :
    Nat) (6 : Nat))) ST.nil ST.nil) (ST.node (SV.tup []) ST.nil ST.nil)) (ST.node (SV.c (SC.ptr (13 : Nat) (4 : Nat))) (ST.node (SV.tup []) ST.nil ST.nil) ST.nil)) (ST.node (SV.tup [])
    (ST.node (SV.c (SC.sli (13 : Nat) (1 : Nat) true (0 : Nat) true (8 : Nat) (8 : Nat))) (ST.node (SV.c (SC.int false IntKind.u64 sl)) ST.nil ST.nil) (ST.node (SV.tup []) ST.nil
    ST.nil)) (ST.node (SV.c (SC.ptr (13 : Nat) (5 : Nat))) (ST.node (SV.tup []) ST.nil ST.nil) ST.nil))) (ST.node (SV.c (SC.ptr (57 : Nat) (0 : Nat))) (ST.node (SV.c (SC.int true
    IntKind.i64 (8 : Int) Bd.any)) (ST.node (SV.c (SC.int false IntKind.u64 ml)) (ST.node (SV.c (SC.sli (13 : Nat) (1 : Nat) true (0 : Nat) true (8 : Nat) (8 : Nat))) ST.nil ST.nil)
    (ST.node (SV.tup []) ST.nil ST.nil)) (ST.node (SV.c (SC.int false IntKind.i64 (smF fr))) (ST.node (SV.tup []) ST.nil ST.nil) ST.nil)) (ST.node (SV.c (SC.ptr (13 : Nat) (1 : Nat)))
    (ST.node (SV.c (SC.int false IntKind.u64 qu)) (ST.node (SV.agg [SC.int false IntKind.u64 mp, SC.int false IntKind.i64 (smF ml), SC.int false IntKind.u64 qu, SC.int false IntKind.i64
    (smF fr), SC.int false IntKind.i64 (smF ln), SC.int false IntKind.u64 se, SC.int false IntKind.i64 (smF sl)]) ST.nil ST.nil) ST.nil) (ST.node (SV.c (SC.int false IntKind.i64 (smF
    ln))) (ST.node (SV.tup []) ST.nil ST.nil) ST.nil)))) (ST.node (SV.c (SC.int true IntKind.u64 (0 : Int))) (ST.node (SV.c (SC.boo true false)) (ST.node (SV.c (SC.sli (13 : Nat) (1 :
    Nat) true (0 : Nat) true (8 : Nat) (8 : Nat))) (ST.node (SV.c (SC.ptr (13 : Nat) (2 : Nat))) (ST.node (SV.c (SC.int false IntKind.u64 se)) ST.nil ST.nil) (ST.node (SV.tup []) ST.nil
    ST.nil)) (ST.node (SV.c (SC.int false IntKind.u64 fr)) (ST.node (SV.tup []) ST.nil ST.nil) ST.nil)) (ST.node (SV.c (SC.sli (13 : Nat) (1 : Nat) true (0 : Nat) true (8 : Nat) (8 :
    Nat))) (ST.node (SV.c (SC.ptr (13 : Nat) (3 : Nat))) (ST.node (SV.c (SC.int false IntKind.i64 (smF sl))) ST.nil ST.nil) (ST.node (SV.tup []) ST.nil ST.nil)) (ST.node (SV.c (SC.int
    false IntKind.u64 ln)) (ST.node (SV.tup []) ST.nil ST.nil) ST.nil))) (ST.node (SV.tup []) (ST.node (SV.c (SC.boo true false)) (ST.node (SV.c (SC.int false IntKind.i64 (smF ml)))
    (ST.node (SV.c (SC.ptr (13 : Nat) (7 : Nat))) ST.nil ST.nil) (ST.node (SV.tup []) ST.nil ST.nil)) (ST.node (SV.c (SC.sli (13 : Nat) (1 : Nat) true (0 : Nat) true (8 : Nat) (8 :
    Nat))) (ST.node (SV.tup []) ST.nil ST.nil) ST.nil)) (ST.node (SV.c (SC.int false IntKind.u64 mp)) (ST.node (SV.c (SC.sli (13 : Nat) (1 : Nat) true (0 : Nat) true (8 : Nat) (8 :
    Nat))) (ST.node (SV.tup []) ST.nil ST.nil) ST.nil) (ST.node (SV.c (SC.sli (13 : Nat) (1 : Nat) true (0 : Nat) true (8 : Nat) (8 : Nat))) (ST.node (SV.tup []) ST.nil ST.nil)
    ST.nil))))) []) (Mem.mk [((0 : Nat), SO.cells [SC.int false IntKind.u64 mp, SC.int false IntKind.i64 ml, SC.int false IntKind.u64 qu, SC.int false IntKind.i64 fr, SC.int false
    IntKind.i64 ln, SC.int false IntKind.u64 se, SC.int false IntKind.i64 sl] (75 : Nat)), ((1 : Nat), SO.cells [SC.int false IntKind.i64 slot, SC.int false IntKind.u64 note, SC.int
    false IntKind.u64 next] (77 : Nat)), ((13 : Nat), SO.cells [SC.int false IntKind.u64 cursor, SC.int false IntKind.u64 mp, SC.int false IntKind.u64 ml, SC.int false IntKind.u64 qu,
    SC.int false IntKind.u64 fr, SC.int false IntKind.u64 ln, SC.int false IntKind.u64 se, SC.int false IntKind.u64 sl] (OfNat.ofNat (25 : Nat))), ((26 : Nat), SO.cells [SC.int true
    IntKind.u64 (0 : Int), SC.int true IntKind.i64 (0 : Int), SC.int true IntKind.u64 (0 : Int), SC.int true IntKind.i64 (0 : Int), SC.int true IntKind.i64 (0 : Int), SC.int true
    IntKind.u64 (0 : Int), SC.int true IntKind.i64 (0 : Int)] (75 : Nat)), ((57 : Nat), SO.cells [SC.int false IntKind.u64 mp, SC.int false IntKind.i64 (smF ml), SC.int false
    IntKind.u64 qu, SC.int false IntKind.i64 (smF fr), SC.int false IntKind.i64 (smF ln), SC.int false IntKind.u64 se, SC.int false IntKind.i64 (smF sl)] (75 : Nat))] (59 : Nat))
    Scr.nil ∧ True) ∧ True) ∧ True) ∧ True) ∧ True) ∧ (∀ (K : KO XE), ((0 : Int) ≤ ln ∧ ln ≤ (18446744073709551615 : Int)) ∧ (∀ (z : Un), True → cursor = cursor ∧ mp = mp ∧ ml = ml ∧ qu
    = qu ∧ fr = fr ∧ ln = ln ∧ se = se ∧ sl = sl ∧ (((0 : Int) ≤ sl ∧ sl ≤ (18446744073709551615 : Int)) ∧ (∀ (z : Un), True → cursor = cursor ∧ mp = mp ∧ ml = ml ∧ qu = qu ∧ fr = fr ∧
    ln = ln ∧ se = se ∧ sl = sl ∧ (cursor = cursor ∧ mp = mp ∧ ml = ml ∧ qu = qu ∧ fr = fr ∧ ln = ln ∧ se = se ∧ sl = sl ∧ K (SF.mk (53 : Nat) (ST.node (SV.c (SC.sli (13 : Nat) (1 :
    Nat) true (0 : Nat) true (8 : Nat) (8 : Nat))) (ST.node (SV.tup []) (ST.node (SV.c (SC.ptr (26 : Nat) (0 : Nat))) (ST.node (SV.tup []) (ST.node (SV.c (SC.sli (13 : Nat) (1 : Nat)
    true (0 : Nat) true (8 : Nat) (8 : Nat))) (ST.node (SV.c (SC.ptr (13 : Nat) (6 : Nat))) ST.nil ST.nil) (ST.node (SV.tup []) ST.nil ST.nil)) (ST.node (SV.c (SC.ptr (13 : Nat) (4 :
    Nat))) (ST.node (SV.tup []) ST.nil ST.nil) ST.nil)) (ST.node (SV.tup []) (ST.node (SV.c (SC.sli (13 : Nat) (1 : Nat) true (0 : Nat) true (8 : Nat) (8 : Nat))) (ST.node (SV.c (SC.int
    false IntKind.u64 sl)) ST.nil ST.nil) (ST.node (SV.tup []) ST.nil ST.nil)) (ST.node (SV.c (SC.ptr (13 : Nat) (5 : Nat))) (ST.node (SV.tup []) ST.nil ST.nil) ST.nil))) (ST.node (SV.c
    (SC.ptr (57 : Nat) (0 : Nat))) (ST.node (SV.c (SC.int true IntKind.i64 (8 : Int) Bd.any)) (ST.node (SV.c (SC.int false IntKind.u64 ml)) (ST.node (SV.c (SC.sli (13 : Nat) (1 : Nat)
    true (0 : Nat) true (8 : Nat) (8 : Nat))) ST.nil ST.nil) (ST.node (SV.tup []) ST.nil ST.nil)) (ST.node (SV.c (SC.int false IntKind.i64 (smF fr))) (ST.node (SV.tup []) ST.nil ST.nil)
    ST.nil)) (ST.node (SV.c (SC.ptr (13 : Nat) (1 : Nat))) (ST.node (SV.c (SC.int false IntKind.u64 qu)) (ST.node (SV.agg [SC.int false IntKind.u64 mp, SC.int false IntKind.i64 (smF
    ml), SC.int false IntKind.u64 qu, SC.int false IntKind.i64 (smF fr), SC.int false IntKind.i64 (smF ln), SC.int false IntKind.u64 se, SC.int false IntKind.i64 (smF sl)]) ST.nil
    ST.nil) ST.nil) (ST.node (SV.c (SC.int false IntKind.i64 (smF ln))) (ST.node (SV.tup []) ST.nil ST.nil) ST.nil)))) (ST.node (SV.c (SC.int true IntKind.u64 (0 : Int))) (ST.node (SV.c
    (SC.boo true false)) (ST.node (SV.c (SC.sli (13 : Nat) (1 : Nat) true (0 : Nat) true (8 : Nat) (8 : Nat))) (ST.node (SV.c (SC.ptr (13 : Nat) (2 : Nat))) (ST.node (SV.c (SC.int false
    IntKind.u64 se)) ST.nil ST.nil) (ST.node (SV.tup []) ST.nil ST.nil)) (ST.node (SV.c (SC.int false IntKind.u64 fr)) (ST.node (SV.tup []) ST.nil ST.nil) ST.nil)) (ST.node (SV.c
    (SC.sli (13 : Nat) (1 : Nat) true (0 : Nat) true (8 : Nat) (8 : Nat))) (ST.node (SV.c (SC.ptr (13 : Nat) (3 : Nat))) (ST.node (SV.c (SC.int false IntKind.i64 (smF sl))) ST.nil
    ST.nil) (ST.node (SV.tup []) ST.nil ST.nil)) (ST.node (SV.c (SC.int false IntKind.u64 ln)) (ST.node (SV.tup []) ST.nil ST.nil) ST.nil))) (ST.node (SV.tup []) (ST.node (SV.c (SC.boo
    true false)) (ST.node (SV.c (SC.int false IntKind.i64 (smF ml))) (ST.node (SV.c (SC.ptr (13 : Nat) (7 : Nat))) ST.nil ST.nil) (ST.node (SV.tup []) ST.nil ST.nil)) (ST.node (SV.c
    (SC.sli (13 : Nat) (1 : Nat) true (0 : Nat) true (8 : Nat) (8 : Nat))) (ST.node (SV.tup []) ST.nil ST.nil) ST.nil)) (ST.node (SV.c (SC.int false IntKind.u64 mp)) (ST.node (SV.c
    (SC.sli (13 : Nat) (1 : Nat) true (0 : Nat) true (8 : Nat) (8 : Nat))) (ST.node (SV.tup []) ST.nil ST.nil) ST.nil) (ST.node (SV.c (SC.sli (13 : Nat) (1 : Nat) true (0 : Nat) true (8
    : Nat) (8 : Nat))) (ST.node (SV.tup []) ST.nil ST.nil) ST.nil))))) []) (Mem.mk [((0 : Nat), SO.cells [SC.int false IntKind.u64 mp, SC.int false IntKind.i64 ml, SC.int false
    IntKind.u64 qu, SC.int false IntKind.i64 fr, SC.int false IntKind.i64 ln, SC.int false IntKind.u64 se, SC.int false IntKind.i64 sl] (75 : Nat)), ((1 : Nat), SO.cells [SC.int false
    IntKind.i64 slot, SC.int false IntKind.u64 note, SC.int false IntKind.u64 next] (77 : Nat)), ((13 : Nat), SO.cells [SC.int false IntKind.u64 cursor, SC.int false IntKind.u64 mp,
    SC.int false IntKind.u64 ml, SC.int false IntKind.u64 qu, SC.int false IntKind.u64 fr, SC.int false IntKind.u64 ln, SC.int false IntKind.u64 se, SC.int false IntKind.u64 sl]
    (OfNat.ofNat (25 : Nat))), ((26 : Nat), SO.cells [SC.int true IntKind.u64 (0 : Int), SC.int true IntKind.i64 (0 : Int), SC.int true IntKind.u64 (0 : Int), SC.int true IntKind.i64 (0
    : Int), SC.int true IntKind.i64 (0 : Int), SC.int true IntKind.u64 (0 : Int), SC.int true IntKind.i64 (0 : Int)] (75 : Nat)), ((57 : Nat), SO.cells [SC.int false IntKind.u64 mp,
    SC.int false IntKind.i64 (smF ml), SC.int false IntKind.u64 qu, SC.int false IntKind.i64 (smF fr), SC.int false IntKind.i64 (smF ln), SC.int false IntKind.u64 se, SC.int false
    IntKind.i64 (smF sl)] (75 : Nat))] (59 : Nat)) Scr.nil ∧ True) ∧ True) ∧ True) ∧ (∀ (K : KO XE), ((0 : Int) ≤ sl ∧ sl ≤ (18446744073709551615 : Int)) ∧ (∀ (z : Un), True → cursor =
    cursor ∧ mp = mp ∧ ml = ml ∧ qu = qu ∧ fr = fr ∧ ln = ln ∧ se = se ∧ sl = sl ∧ (cursor = cursor ∧ mp = mp ∧ ml = ml ∧ qu = qu ∧ fr = fr ∧ ln = ln ∧ se = se ∧ sl = sl ∧ K (SF.mk (53
    : Nat) (ST.node (SV.c (SC.sli (13 : Nat) (1 : Nat) true (0 : Nat) true (8 : Nat) (8 : Nat))) (ST.node (SV.tup []) (ST.node (SV.c (SC.ptr (26 : Nat) (0 : Nat))) (ST.node (SV.tup [])
    (ST.node (SV.c (SC.sli (13 : Nat) (1 : Nat) true (0 : Nat) true (8 : Nat) (8 : Nat))) (ST.node (SV.c (SC.ptr (13 : Nat) (6 : Nat))) ST.nil ST.nil) (ST.node (SV.tup []) ST.nil
    ST.nil)) (ST.node (SV.c (SC.ptr (13 : Nat) (4 : Nat))) (ST.node (SV.tup []) ST.nil ST.nil) ST.nil)) (ST.node (SV.tup []) (ST.node (SV.c (SC.sli (13 : Nat) (1 : Nat) true (0 : Nat)
    true (8 : Nat) (8 : Nat))) (ST.node (SV.c (SC.int false IntKind.u64 sl)) ST.nil ST.nil) (ST.node (SV.tup []) ST.nil ST.nil)) (ST.node (SV.c (SC.ptr (13 : Nat) (5 : Nat))) (ST.node
    (SV.tup []) ST.nil ST.nil) ST.nil))) (ST.node (SV.c (SC.ptr (57 : Nat) (0 : Nat))) (ST.node (SV.c (SC.int true IntKind.i64 (8 : Int) Bd.any)) (ST.node (SV.c (SC.int false
    IntKind.u64 ml)) (ST.node (SV.c (SC.sli (13 : Nat) (1 : Nat) true (0 : Nat) true (8 : Nat) (8 : Nat))) ST.nil ST.nil) (ST.node (SV.tup []) ST.nil ST.nil)) (ST.node (SV.c (SC.int
    false IntKind.i64 (smF fr))) (ST.node (SV.tup []) ST.nil ST.nil) ST.nil)) (ST.node (SV.c (SC.ptr (13 : Nat) (1 : Nat))) (ST.node (SV.c (SC.int false IntKind.u64 qu)) (ST.node
    (SV.agg [SC.int false IntKind.u64 mp, SC.int false IntKind.i64 (smF ml), SC.int false IntKind.u64 qu, SC.int false IntKind.i64 (smF fr), SC.int false IntKind.i64 (smF ln), SC.int
    false IntKind.u64 se, SC.int false IntKind.i64 (smF sl)]) ST.nil ST.nil) ST.nil) (ST.node (SV.c (SC.int false IntKind.i64 (smF ln))) (ST.node (SV.tup []) ST.nil ST.nil) ST.nil))))
    (ST.node (SV.c (SC.int true IntKind.u64 (0 : Int))) (ST.node (SV.c (SC.boo true false)) (ST.node (SV.c (SC.sli (13 : Nat) (1 : Nat) true (0 : Nat) true (8 : Nat) (8 : Nat)))
    (ST.node (SV.c (SC.ptr (13 : Nat) (2 : Nat))) (ST.node (SV.c (SC.int false IntKind.u64 se)) ST.nil ST.nil) (ST.node (SV.tup []) ST.nil ST.nil)) (ST.node (SV.c (SC.int false
    IntKind.u64 fr)) (ST.node (SV.tup []) ST.nil ST.nil) ST.nil)) (ST.node (SV.c (SC.sli (13 : Nat) (1 : Nat) true (0 : Nat) true (8 : Nat) (8 : Nat))) (ST.node (SV.c (SC.ptr (13 : Nat)
    (3 : Nat))) (ST.node (SV.c (SC.int false IntKind.i64 (smF sl))) ST.nil ST.nil) (ST.node (SV.tup []) ST.nil ST.nil)) (ST.node (SV.c (SC.int false IntKind.u64 ln)) (ST.node (SV.tup
    []) ST.nil ST.nil) ST.nil))) (ST.node (SV.tup []) (ST.node (SV.c (SC.boo true false)) (ST.node (SV.c (SC.int false IntKind.i64 (smF ml))) (ST.node (SV.c (SC.ptr (13 : Nat) (7 :
    Nat))) ST.nil ST.nil) (ST.node (SV.tup []) ST.nil ST.nil)) (ST.node (SV.c (SC.sli (13 : Nat) (1 : Nat) true (0 : Nat) true (8 : Nat) (8 : Nat))) (ST.node (SV.tup []) ST.nil ST.nil)
    ST.nil)) (ST.node (SV.c (SC.int false IntKind.u64 mp)) (ST.node (SV.c (SC.sli (13 : Nat) (1 : Nat) true (0 : Nat) true (8 : Nat) (8 : Nat))) (ST.node (SV.tup []) ST.nil ST.nil)
    ST.nil) (ST.node (SV.c (SC.sli (13 : Nat) (1 : Nat) true (0 : Nat) true (8 : Nat) (8 : Nat))) (ST.node (SV.tup []) ST.nil ST.nil) ST.nil))))) []) (Mem.mk [((0 : Nat), SO.cells
    [SC.int false IntKind.u64 mp, SC.int false IntKind.i64 ml, SC.int false IntKind.u64 qu, SC.int false IntKind.i64 fr, SC.int false IntKind.i64 ln, SC.int false IntKind.u64 se, SC.int
    false IntKind.i64 sl] (75 : Nat)), ((1 : Nat), SO.cells [SC.int false IntKind.i64 slot, SC.int false IntKind.u64 note, SC.int false IntKind.u64 next] (77 : Nat)), ((13 : Nat),
    SO.cells [SC.int false IntKind.u64 cursor, SC.int false IntKind.u64 mp, SC.int false IntKind.u64 ml, SC.int false IntKind.u64 qu, SC.int false IntKind.u64 fr, SC.int false
    IntKind.u64 ln, SC.int false IntKind.u64 se, SC.int false IntKind.u64 sl] (OfNat.ofNat (25 : Nat))), ((26 : Nat), SO.cells [SC.int true IntKind.u64 (0 : Int), SC.int true
    IntKind.i64 (0 : Int), SC.int true IntKind.u64 (0 : Int), SC.int true IntKind.i64 (0 : Int), SC.int true IntKind.i64 (0 : Int), SC.int true IntKind.u64 (0 : Int), SC.int true
    IntKind.i64 (0 : Int)] (75 : Nat)), ((57 : Nat), SO.cells [SC.int false IntKind.u64 mp, SC.int false IntKind.i64 (smF ml), SC.int false IntKind.u64 qu, SC.int false IntKind.i64 (smF
    fr), SC.int false IntKind.i64 (smF ln), SC.int false IntKind.u64 se, SC.int false IntKind.i64 (smF sl)] (75 : Nat))] (59 : Nat)) Scr.nil ∧ True) ∧ True) ∧ True → cursor = cursor ∧
    mp = mp ∧ ml = ml ∧ qu = qu ∧ fr = fr ∧ ln = ln ∧ se = se ∧ sl = sl ∧ (((0 : Int) ≤ sl ∧ sl ≤ (18446744073709551615 : Int)) ∧ (∀ (z : Un), True → cursor = cursor ∧ mp = mp ∧ ml = ml
    ∧ qu = qu ∧ fr = fr ∧ ln = ln ∧ se = se ∧ sl = sl ∧ K (SF.mk (53 : Nat) (ST.node (SV.c (SC.sli (13 : Nat) (1 : Nat) true (0 : Nat) true (8 : Nat) (8 : Nat))) (ST.node (SV.tup [])
    (ST.node (SV.c (SC.ptr (26 : Nat) (0 : Nat))) (ST.node (SV.tup []) (ST.node (SV.c (SC.sli (13 : Nat) (1 : Nat) true (0 : Nat) true (8 : Nat) (8 : Nat))) (ST.node (SV.c (SC.ptr (13 :
    Nat) (6 : Nat))) ST.nil ST.nil) (ST.node (SV.tup []) ST.nil ST.nil)) (ST.node (SV.c (SC.ptr (13 : Nat) (4 : Nat))) (ST.node (SV.tup []) ST.nil ST.nil) ST.nil)) (ST.node (SV.tup [])
    (ST.node (SV.c (SC.sli (13 : Nat) (1 : Nat) true (0 : Nat) true (8 : Nat) (8 : Nat))) (ST.node (SV.c (SC.int false IntKind.u64 sl)) ST.nil ST.nil) (ST.node (SV.tup []) ST.nil
    ST.nil)) (ST.node (SV.c (SC.ptr (13 : Nat) (5 : Nat))) (ST.node (SV.tup []) ST.nil ST.nil) ST.nil))) (ST.node (SV.c (SC.ptr (57 : Nat) (0 : Nat))) (ST.node (SV.c (SC.int true
    IntKind.i64 (8 : Int) Bd.any)) (ST.node (SV.c (SC.int false IntKind.u64 ml)) (ST.node (SV.c (SC.sli (13 : Nat) (1 : Nat) true (0 : Nat) true (8 : Nat) (8 : Nat))) ST.nil ST.nil)
    (ST.node (SV.tup []) ST.nil ST.nil)) (ST.node (SV.c (SC.int false IntKind.i64 (smF fr))) (ST.node (SV.tup []) ST.nil ST.nil) ST.nil)) (ST.node (SV.c (SC.ptr (13 : Nat) (1 : Nat)))
    (ST.node (SV.c (SC.int false IntKind.u64 qu)) (ST.node (SV.agg [SC.int false IntKind.u64 mp, SC.int false IntKind.i64 (smF ml), SC.int false IntKind.u64 qu, SC.int false IntKind.i64
    (smF fr), SC.int false IntKind.i64 (smF ln), SC.int false IntKind.u64 se, SC.int false IntKind.i64 (smF sl)]) ST.nil ST.nil) ST.nil) (ST.node (SV.c (SC.int false IntKind.i64 (smF
    ln))) (ST.node (SV.tup []) ST.nil ST.nil) ST.nil)))) (ST.node (SV.c (SC.int true IntKind.u64 (0 : Int))) (ST.node (SV.c (SC.boo true false)) (ST.node (SV.c (SC.sli (13 : Nat) (1 :
    Nat) true (0 : Nat) true (8 : Nat) (8 : Nat))) (ST.node (SV.c (SC.ptr (13 : Nat) (2 : Nat))) (ST.node (SV.c (SC.int false IntKind.u64 se)) ST.nil ST.nil) (ST.node (SV.tup []) ST.nil
    ST.nil)) (ST.node (SV.c (SC.int false IntKind.u64 fr)) (ST.node (SV.tup []) ST.nil ST.nil) ST.nil)) (ST.node (SV.c (SC.sli (13 : Nat) (1 : Nat) true (0 : Nat) true (8 : Nat) (8 :
    Nat))) (ST.node (SV.c (SC.ptr (13 : Nat) (3 : Nat))) (ST.node (SV.c (SC.int false IntKind.i64 (smF sl))) ST.nil ST.nil) (ST.node (SV.tup []) ST.nil ST.nil)) (ST.node (SV.c (SC.int
    false IntKind.u64 ln)) (ST.node (SV.tup []) ST.nil ST.nil) ST.nil))) (ST.node (SV.tup []) (ST.node (SV.c (SC.boo true false)) (ST.node (SV.c (SC.int false IntKind.i64 (smF ml)))
    (ST.node (SV.c (SC.ptr (13 : Nat) (7 : Nat))) ST.nil ST.nil) (ST.node (SV.tup []) ST.nil ST.nil)) (ST.node (SV.c (SC.sli (13 : Nat) (1 : Nat) true (0 : Nat) true (8 : Nat) (8 :
    Nat))) (ST.node (SV.tup []) ST.nil ST.nil) ST.nil)) (ST.node (SV.c (SC.int false IntKind.u64 mp)) (ST.node (SV.c (SC.sli (13 : Nat) (1 : Nat) true (0 : Nat) true (8 : Nat) (8 :
    Nat))) (ST.node (SV.tup []) ST.nil ST.nil) ST.nil) (ST.node (SV.c (SC.sli (13 : Nat) (1 : Nat) true (0 : Nat) true (8 : Nat) (8 : Nat))) (ST.node (SV.tup []) ST.nil ST.nil)
    ST.nil))))) []) (Mem.mk [((0 : Nat), SO.cells [SC.int false IntKind.u64 mp, SC.int false IntKind.i64 ml, SC.int false IntKind.u64 qu, SC.int false IntKind.i64 fr, SC.int false
    IntKind.i64 ln, SC.int false IntKind.u64 se, SC.int false IntKind.i64 sl] (75 : Nat)), ((1 : Nat), SO.cells [SC.int false IntKind.i64 slot, SC.int false IntKind.u64 note, SC.int
    false IntKind.u64 next] (77 : Nat)), ((13 : Nat), SO.cells [SC.int false IntKind.u64 cursor, SC.int false IntKind.u64 mp, SC.int false IntKind.u64 ml, SC.int false IntKind.u64 qu,
    SC.int false IntKind.u64 fr, SC.int false IntKind.u64 ln, SC.int false IntKind.u64 se, SC.int false IntKind.u64 sl] (OfNat.ofNat (25 : Nat))), ((26 : Nat), SO.cells [SC.int true
    IntKind.u64 (0 : Int), SC.int true IntKind.i64 (0 : Int), SC.int true IntKind.u64 (0 : Int), SC.int true IntKind.i64 (0 : Int), SC.int true IntKind.i64 (0 : Int), SC.int true
    IntKind.u64 (0 : Int), SC.int true IntKind.i64 (0 : Int)] (75 : Nat)), ((57 : Nat), SO.cells [SC.int false IntKind.u64 mp, SC.int false IntKind.i64 (smF ml), SC.int false
    IntKind.u64 qu, SC.int false IntKind.i64 (smF fr), SC.int false IntKind.i64 (smF ln), SC.int false IntKind.u64 se, SC.int false IntKind.i64 (smF sl)] (75 : Nat))] (59 : Nat))
    Scr.nil ∧ True) ∧ True) ∧ True) ∧ True) ∧ True → cursor = cursor ∧ mp = mp ∧ ml = ml ∧ qu = qu ∧ fr = fr ∧ ln = ln ∧ se = se ∧ sl = sl ∧ (((0 : Int) ≤ ln ∧ ln ≤
    (18446744073709551615 : Int)) ∧ (∀ (z : Un), True → cursor = cursor ∧ mp = mp ∧ ml = ml ∧ qu = qu ∧ fr = fr ∧ ln = ln ∧ se = se ∧ sl = sl ∧ (((0 : Int) ≤ sl ∧ sl ≤
    (18446744073709551615 : Int)) ∧ (∀ (z : Un), True → cursor = cursor ∧ mp = mp ∧ ml = ml ∧ qu = qu ∧ fr = fr ∧ ln = ln ∧ se = se ∧ sl = sl ∧ K (SF.mk (53 : Nat) (ST.node (SV.c
    (SC.sli (13 : Nat) (1 : Nat) true (0 : Nat) true (8 : Nat) (8 : Nat))) (ST.node (SV.tup []) (ST.node (SV.c (SC.ptr (26 : Nat) (0 : Nat))) (ST.node (SV.tup []) (ST.node (SV.c (SC.sli
    (13 : Nat) (1 : Nat) true (0 : Nat) true (8 : Nat) (8 : Nat))) (ST.node (SV.c (SC.ptr (13 : Nat) (6 : Nat))) ST.nil ST.nil) (ST.node (SV.tup []) ST.nil ST.nil)) (ST.node (SV.c
    (SC.ptr (13 : Nat) (4 : Nat))) (ST.node (SV.tup []) ST.nil ST.nil) ST.nil)) (ST.node (SV.tup []) (ST.node (SV.c (SC.sli (13 : Nat) (1 : Nat) true (0 : Nat) true (8 : Nat) (8 :
    Nat))) (ST.node (SV.c (SC.int false IntKind.u64 sl)) ST.nil ST.nil) (ST.node (SV.tup []) ST.nil ST.nil)) (ST.node (SV.c (SC.ptr (13 : Nat) (5 : Nat))) (ST.node (SV.tup []) ST.nil
    ST.nil) ST.nil))) (ST.node (SV.c (SC.ptr (57 : Nat) (0 : Nat))) (ST.node (SV.c (SC.int true IntKind.i64 (8 : Int) Bd.any)) (ST.node (SV.c (SC.int false IntKind.u64 ml)) (ST.node
    (SV.c (SC.sli (13 : Nat) (1 : Nat) true (0 : Nat) true (8 : Nat) (8 : Nat))) ST.nil ST.nil) (ST.node (SV.tup []) ST.nil ST.nil)) (ST.node (SV.c (SC.int false IntKind.i64 (smF fr)))
    (ST.node (SV.tup []) ST.nil ST.nil) ST.nil)) (ST.node (SV.c (SC.ptr (13 : Nat) (1 : Nat))) (ST.node (SV.c (SC.int false IntKind.u64 qu)) (ST.node (SV.agg [SC.int false IntKind.u64
    mp, SC.int false IntKind.i64 (smF ml), SC.int false IntKind.u64 qu, SC.int false IntKind.i64 (smF fr), SC.int false IntKind.i64 (smF ln), SC.int false IntKind.u64 se, SC.int false
    IntKind.i64 (smF sl)]) ST.nil ST.nil) ST.nil) (ST.node (SV.c (SC.int false IntKind.i64 (smF ln))) (ST.node (SV.tup []) ST.nil ST.nil) ST.nil)))) (ST.node (SV.c (SC.int true
    IntKind.u64 (0 : Int))) (ST.node (SV.c (SC.boo true false)) (ST.node (SV.c (SC.sli (13 : Nat) (1 : Nat) true (0 : Nat) true (8 : Nat) (8 : Nat))) (ST.node (SV.c (SC.ptr (13 : Nat)
    (2 : Nat))) (ST.node (SV.c (SC.int false IntKind.u64 se)) ST.nil ST.nil) (ST.node (SV.tup []) ST.nil ST.nil)) (ST.node (SV.c (SC.int false IntKind.u64 fr)) (ST.node (SV.tup [])
    ST.nil ST.nil) ST.nil)) (ST.node (SV.c (SC.sli (13 : Nat) (1 : Nat) true (0 : Nat) true (8 : Nat) (8 : Nat))) (ST.node (SV.c (SC.ptr (13 : Nat) (3 : Nat))) (ST.node (SV.c (SC.int
    false IntKind.i64 (smF sl))) ST.nil ST.nil) (ST.node (SV.tup []) ST.nil ST.nil)) (ST.node (SV.c (SC.int false IntKind.u64 ln)) (ST.node (SV.tup []) ST.nil ST.nil) ST.nil))) (ST.node
    (SV.tup []) (ST.node (SV.c (SC.boo true false)) (ST.node (SV.c (SC.int false IntKind.i64 (smF ml))) (ST.node (SV.c (SC.ptr (13 : Nat) (7 : Nat))) ST.nil ST.nil) (ST.node (SV.tup [])
    ST.nil ST.nil)) (ST.node (SV.c (SC.sli (13 : Nat) (1 : Nat) true (0 : Nat) true (8 : Nat) (8 : Nat))) (ST.node (SV.tup []) ST.nil ST.nil) ST.nil)) (ST.node (SV.c (SC.int false
    IntKind.u64 mp)) (ST.node (SV.c (SC.sli (13 : Nat) (1 : Nat) true (0 : Nat) true (8 : Nat) (8 : Nat))) (ST.node (SV.tup []) ST.nil ST.nil) ST.nil) (ST.node (SV.c (SC.sli (13 : Nat)
    (1 : Nat) true (0 : Nat) true (8 : Nat) (8 : Nat))) (ST.node (SV.tup []) ST.nil ST.nil) ST.nil))))) []) (Mem.mk [((0 : Nat), SO.cells [SC.int false IntKind.u64 mp, SC.int false
    IntKind.i64 ml, SC.int false IntKind.u64 qu, SC.int false IntKind.i64 fr, SC.int false IntKind.i64 ln, SC.int false IntKind.u64 se, SC.int false IntKind.i64 sl] (75 : Nat)), ((1 :
    Nat), SO.cells [SC.int false IntKind.i64 slot, SC.int false IntKind.u64 note, SC.int false IntKind.u64 next] (77 : Nat)), ((13 : Nat), SO.cells [SC.int false IntKind.u64 cursor,
    SC.int false IntKind.u64 mp, SC.int false IntKind.u64 ml, SC.int false IntKind.u64 qu, SC.int false IntKind.u64 fr, SC.int false IntKind.u64 ln, SC.int false IntKind.u64 se, SC.int
    false IntKind.u64 sl] (OfNat.ofNat (25 : Nat))), ((26 : Nat), SO.cells [SC.int true IntKind.u64 (0 : Int), SC.int true IntKind.i64 (0 : Int), SC.int true IntKind.u64 (0 : Int),
    SC.int true IntKind.i64 (0 : Int), SC.int true IntKind.i64 (0 : Int), SC.int true IntKind.u64 (0 : Int), SC.int true IntKind.i64 (0 : Int)] (75 : Nat)), ((57 : Nat), SO.cells
    [SC.int false IntKind.u64 mp, SC.int false IntKind.i64 (smF ml), SC.int false IntKind.u64 qu, SC.int false IntKind.i64 (smF fr), SC.int false IntKind.i64 (smF ln), SC.int false
    IntKind.u64 se, SC.int false IntKind.i64 (smF sl)] (75 : Nat))] (59 : Nat)) Scr.nil ∧ True) ∧ True) ∧ True) ∧ True) ∧ True) ∧ True) ∧ True) ∧ (∀ (K : KO XE), ((0 : Int) ≤ fr ∧ fr ≤
    (18446744073709551615 : Int)) ∧ (∀ (z : Un), True → cursor = cursor ∧ mp = mp ∧ ml = ml ∧ qu = qu ∧ fr = fr ∧ ln = ln ∧ se = se ∧ sl = sl ∧ (((0 : Int) ≤ ln ∧ ln ≤
    (18446744073709551615 : Int)) ∧ (∀ (z : Un), True → cursor = cursor ∧ mp = mp ∧ ml = ml ∧ qu = qu ∧ fr = fr ∧ ln = ln ∧ se = se ∧ sl = sl ∧ (((0 : Int) ≤ sl ∧ sl ≤
    (18446744073709551615 : Int)) ∧ (∀ (z : Un), True → cursor = cursor ∧ mp = mp ∧ ml = ml ∧ qu = qu ∧ fr = fr ∧ ln = ln ∧ se = se ∧ sl = sl ∧ (cursor = cursor ∧ mp = mp ∧ ml = ml ∧ qu
    = qu ∧ fr = fr ∧ ln = ln ∧ se = se ∧ sl = sl ∧ K (SF.mk (53 : Nat) (ST.node (SV.c (SC.sli (13 : Nat) (1 : Nat) true (0 : Nat) true (8 : Nat) (8 : Nat))) (ST.node (SV.tup [])
    (ST.node (SV.c (SC.ptr (26 : Nat) (0 : Nat))) (ST.node (SV.tup []) (ST.node (SV.c (SC.sli (13 : Nat) (1 : Nat) true (0 : Nat) true (8 : Nat) (8 : Nat))) (ST.node (SV.c (SC.ptr (13 :
    Nat) (6 : Nat))) ST.nil ST.nil) (ST.node (SV.tup []) ST.nil ST.nil)) (ST.node (SV.c (SC.ptr (13 : Nat) (4 : Nat))) (ST.node (SV.tup []) ST.nil ST.nil) ST.nil)) (ST.node (SV.tup [])
    (ST.node (SV.c (SC.sli (13 : Nat) (1 : Nat) true (0 : Nat) true (8 : Nat) (8 : Nat))) (ST.node (SV.c (SC.int false IntKind.u64 sl)) ST.nil ST.nil) (ST.node (SV.tup []) ST.nil
    ST.nil)) (ST.node (SV.c (SC.ptr (13 : Nat) (5 : Nat))) (ST.node (SV.tup []) ST.nil ST.nil) ST.nil))) (ST.node (SV.c (SC.ptr (57 : Nat) (0 : Nat))) (ST.node (SV.c (SC.int true
    IntKind.i64 (8 : Int) Bd.any)) (ST.node (SV.c (SC.int false IntKind.u64 ml)) (ST.node (SV.c (SC.sli (13 : Nat) (1 : Nat) true (0 : Nat) true (8 : Nat) (8 : Nat))) ST.nil ST.nil)
    (ST.node (SV.tup []) ST.nil ST.nil)) (ST.node (SV.c (SC.int false IntKind.i64 (smF fr))) (ST.node (SV.tup []) ST.nil ST.nil) ST.nil)) (ST.node (SV.c (SC.ptr (13 : Nat) (1 : Nat)))
    (ST.node (SV.c (SC.int false IntKind.u64 qu)) (ST.node (SV.agg [SC.int false IntKind.u64 mp, SC.int false IntKind.i64 (smF ml), SC.int false IntKind.u64 qu, SC.int false IntKind.i64
    (smF fr), SC.int false IntKind.i64 (smF ln), SC.int false IntKind.u64 se, SC.int false IntKind.i64 (smF sl)]) ST.nil ST.nil) ST.nil) (ST.node (SV.c (SC.int false IntKind.i64 (smF
    ln))) (ST.node (SV.tup []) ST.nil ST.nil) ST.nil)))) (ST.node (SV.c (SC.int true IntKind.u64 (0 : Int))) (ST.node (SV.c (SC.boo true false)) (ST.node (SV.c (SC.sli (13 : Nat) (1 :
    Nat) true (0 : Nat) true (8 : Nat) (8 : Nat))) (ST.node (SV.c (SC.ptr (13 : Nat) (2 : Nat))) (ST.node (SV.c (SC.int false IntKind.u64 se)) ST.nil ST.nil) (ST.node (SV.tup []) ST.nil
    ST.nil)) (ST.node (SV.c (SC.int false IntKind.u64 fr)) (ST.node (SV.tup []) ST.nil ST.nil) ST.nil)) (ST.node (SV.c (SC.sli (13 : Nat) (1 : Nat) true (0 : Nat) true (8 : Nat) (8 :
    Nat))) (ST.node (SV.c (SC.ptr (13 : Nat) (3 : Nat))) (ST.node (SV.c (SC.int false IntKind.i64 (smF sl))) ST.nil ST.nil) (ST.node (SV.tup []) ST.nil ST.nil)) (ST.node (SV.c (SC.int
    false IntKind.u64 ln)) (ST.node (SV.tup []) ST.nil ST.nil) ST.nil))) (ST.node (SV.tup []) (ST.node (SV.c (SC.boo true false)) (ST.node (SV.c (SC.int false IntKind.i64 (smF ml)))
    (ST.node (SV.c (SC.ptr (13 : Nat) (7 : Nat))) ST.nil ST.nil) (ST.node (SV.tup []) ST.nil ST.nil)) (ST.node (SV.c (SC.sli (13 : Nat) (1 : Nat) true (0 : Nat) true (8 : Nat) (8 :
    Nat))) (ST.node (SV.tup []) ST.nil ST.nil) ST.nil)) (ST.node (SV.c (SC.int false IntKind.u64 mp)) (ST.node (SV.c (SC.sli (13 : Nat) (1 : Nat) true (0 : Nat) true (8 : Nat) (8 :
    Nat))) (ST.node (SV.tup []) ST.nil ST.nil) ST.nil) (ST.node (SV.c (SC.sli (13 : Nat) (1 : Nat) true (0 : Nat) true (8 : Nat) (8 : Nat))) (ST.node (SV.tup []) ST.nil ST.nil)
    ST.nil))))) []) (Mem.mk [((0 : Nat), SO.cells [SC.int false IntKind.u64 mp, SC.int false IntKind.i64 ml, SC.int false IntKind.u64 qu, SC.int false IntKind.i64 fr, SC.int false
    IntKind.i64 ln, SC.int false IntKind.u64 se, SC.int false IntKind.i64 sl] (75 : Nat)), ((1 : Nat), SO.cells [SC.int false IntKind.i64 slot, SC.int false IntKind.u64 note, SC.int
    false IntKind.u64 next] (77 : Nat)), ((13 : Nat), SO.cells [SC.int false IntKind.u64 cursor, SC.int false IntKind.u64 mp, SC.int false IntKind.u64 ml, SC.int false IntKind.u64 qu,
    SC.int false IntKind.u64 fr, SC.int false IntKind.u64 ln, SC.int false IntKind.u64 se, SC.int false IntKind.u64 sl] (OfNat.ofNat (25 : Nat))), ((26 : Nat), SO.cells [SC.int true
    IntKind.u64 (0 : Int), SC.int true IntKind.i64 (0 : Int), SC.int true IntKind.u64 (0 : Int), SC.int true IntKind.i64 (0 : Int), SC.int true IntKind.i64 (0 : Int), SC.int true
    IntKind.u64 (0 : Int), SC.int true IntKind.i64 (0 : Int)] (75 : Nat)), ((57 : Nat), SO.cells [SC.int false IntKind.u64 mp, SC.int false IntKind.i64 (smF ml), SC.int false
    IntKind.u64 qu, SC.int false IntKind.i64 (smF fr), SC.int false IntKind.i64 (smF ln), SC.int false IntKind.u64 se, SC.int false IntKind.i64 (smF sl)] (75 : Nat))] (59 : Nat))
    Scr.nil ∧ True) ∧ True) ∧ True) ∧ (∀ (K : KO XE), ((0 : Int) ≤ sl ∧ sl ≤ (18446744073709551615 : Int)) ∧ (∀ (z : Un), True → cursor = cursor ∧ mp = mp ∧ ml = ml ∧ qu = qu ∧ fr = fr
    ∧ ln = ln ∧ se = se ∧ sl = sl ∧ (cursor = cursor ∧ mp = mp ∧ ml = ml ∧ qu = qu ∧ fr = fr ∧ ln = ln ∧ se = se ∧ sl = sl ∧ K (SF.mk (53 : Nat) (ST.node (SV.c (SC.sli (13 : Nat) (1 :
    Nat) true (0 : Nat) true (8 : Nat) (8 : Nat))) (ST.node (SV.tup []) (ST.node (SV.c (SC.ptr (26 : Nat) (0 : Nat))) (ST.node (SV.tup []) (ST.node (SV.c (SC.sli (13 : Nat) (1 : Nat)
    true (0 : Nat) true (8 : Nat) (8 : Nat))) (ST.node (SV.c (SC.ptr (13 : Nat) (6 : Nat))) ST.nil ST.nil) (ST.node (SV.tup []) ST.nil ST.nil)) (ST.node (SV.c (SC.ptr (13 : Nat) (4 :
    Nat))) (ST.node (SV.tup []) ST.nil ST.nil) ST.nil)) (ST.node (SV.tup []) (ST.node (SV.c (SC.sli (13 : Nat) (1 : Nat) true (0 : Nat) true (8 : Nat) (8 : Nat))) (ST.node (SV.c (SC.int
    false IntKind.u64 sl)) ST.nil ST.nil) (ST.node (SV.tup []) ST.nil ST.nil)) (ST.node (SV.c (SC.ptr (13 : Nat) (5 : Nat))) (ST.node (SV.tup []) ST.nil ST.nil) ST.nil))) (ST.node (SV.c
    (SC.ptr (57 : Nat) (0 : Nat))) (ST.node (SV.c (SC.int true IntKind.i64 (8 : Int) Bd.any)) (ST.node (SV.c (SC.int false IntKind.u64 ml)) (ST.node (SV.c (SC.sli (13 : Nat) (1 : Nat)
    true (0 : Nat) true (8 : Nat) (8 : Nat))) ST.nil ST.nil) (ST.node (SV.tup []) ST.nil ST.nil)) (ST.node (SV.c (SC.int false IntKind.i64 (smF fr))) (ST.node (SV.tup []) ST.nil ST.nil)
    ST.nil)) (ST.node (SV.c (SC.ptr (13 : Nat) (1 : Nat))) (ST.node (SV.c (SC.int false IntKind.u64 qu)) (ST.node (SV.agg [SC.int false IntKind.u64 mp, SC.int false IntKind.i64 (smF
    ml), SC.int false IntKind.u64 qu, SC.int false IntKind.i64 (smF fr), SC.int false IntKind.i64 (smF ln), SC.int false IntKind.u64 se, SC.int false IntKind.i64 (smF sl)]) ST.nil
    ST.nil) ST.nil) (ST.node (SV.c (SC.int false IntKind.i64 (smF ln))) (ST.node (SV.tup []) ST.nil ST.nil) ST.nil)))) (ST.node (SV.c (SC.int true IntKind.u64 (0 : Int))) (ST.node (SV.c
    (SC.boo true false)) (ST.node (SV.c (SC.sli (13 : Nat) (1 : Nat) true (0 : Nat) true (8 : Nat) (8 : Nat))) (ST.node (SV.c (SC.ptr (13 : Nat) (2 : Nat))) (ST.node (SV.c (SC.int false
    IntKind.u64 se)) ST.nil ST.nil) (ST.node (SV.tup []) ST.nil ST.nil)) (ST.node (SV.c (SC.int false IntKind.u64 fr)) (ST.node (SV.tup []) ST.nil ST.nil) ST.nil)) (ST.node (SV.c
    (SC.sli (13 : Nat) (1 : Nat) true (0 : Nat) true (8 : Nat) (8 : Nat))) (ST.node (SV.c (SC.ptr (13 : Nat) (3 : Nat))) (ST.node (SV.c (SC.int false IntKind.i64 (smF sl))) ST.nil
    ST.nil) (ST.node (SV.tup []) ST.nil ST.nil)) (ST.node (SV.c (SC.int false IntKind.u64 ln)) (ST.node (SV.tup []) ST.nil ST.nil) ST.nil))) (ST.node (SV.tup []) (ST.node (SV.c (SC.boo
    true false)) (ST.node (SV.c (SC.int false IntKind.i64 (smF ml))) (ST.node (SV.c (SC.ptr (13 : Nat) (7 : Nat))) ST.nil ST.nil) (ST.node (SV.tup []) ST.nil ST.nil)) (ST.node (SV.c
    (SC.sli (13 : Nat) (1 : Nat) true (0 : Nat) true (8 : Nat) (8 : Nat))) (ST.node (SV.tup []) ST.nil ST.nil) ST.nil)) (ST.node (SV.c (SC.int false IntKind.u64 mp)) (ST.node (SV.c
    (SC.sli (13 : Nat) (1 : Nat) true (0 : Nat) true (8 : Nat) (8 : Nat))) (ST.node (SV.tup []) ST.nil ST.nil) ST.nil) (ST.node (SV.c (SC.sli (13 : Nat) (1 : Nat) true (0 : Nat) true (8
    : Nat) (8 : Nat))) (ST.node (SV.tup []) ST.nil ST.nil) ST.nil))))) []) (Mem.mk [((0 : Nat), SO.cells [SC.int false IntKind.u64 mp, SC.int false IntKind.i64 ml, SC.int false
    IntKind.u64 qu, SC.int false IntKind.i64 fr, SC.int false IntKind.i64 ln, SC.int false IntKind.u64 se, SC.int false IntKind.i64 sl] (75 : Nat)), ((1 : Nat), SO.cells [SC.int false
    IntKind.i64 slot, SC.int false IntKind.u64 note, SC.int false IntKind.u64 next] (77 : Nat)), ((13 : Nat), SO.cells [SC.int false IntKind.u64 cursor, SC.int false IntKind.u64 mp,
    SC.int false IntKind.u64 ml, SC.int false IntKind.u64 qu, SC.int false IntKind.u64 fr, SC.int false IntKind.u64 ln, SC.int false IntKind.u64 se, SC.int false IntKind.u64 sl]
    (OfNat.ofNat (25 : Nat))), ((26 : Nat), SO.cells [SC.int true IntKind.u64 (0 : Int), SC.int true IntKind.i64 (0 : Int), SC.int true IntKind.u64 (0 : Int), SC.int true IntKind.i64 (0
    : Int), SC.int true IntKind.i64 (0 : Int), SC.int true IntKind.u64 (0 : Int), SC.int true IntKind.i64 (0 : Int)] (75 : Nat)), ((57 : Nat), SO.cells [SC.int false IntKind.u64 mp,
    SC.int false IntKind.i64 (smF ml), SC.int false IntKind.u64 qu, SC.int false IntKind.i64 (smF fr), SC.int false IntKind.i64 (smF ln), SC.int false IntKind.u64 se, SC.int false
    IntKind.i64 (smF sl)] (75 : Nat))] (59 : Nat)) Scr.nil ∧ True) ∧ True) ∧ True → cursor = cursor ∧ mp = mp ∧ ml = ml ∧ qu = qu ∧ fr = fr ∧ ln = ln ∧ se = se ∧ sl = sl ∧ (((0 : Int) ≤
    sl ∧ sl ≤ (18446744073709551615 : Int)) ∧ (∀ (z : Un), True → cursor = cursor ∧ mp = mp ∧ ml = ml ∧ qu = qu ∧ fr = fr ∧ ln = ln ∧ se = se ∧ sl = sl ∧ K (SF.mk (53 : Nat) (ST.node
    (SV.c (SC.sli (13 : Nat) (1 : Nat) true (0 : Nat) true (8 : Nat) (8 : Nat))) (ST.node (SV.tup []) (ST.node (SV.c (SC.ptr (26 : Nat) (0 : Nat))) (ST.node (SV.tup []) (ST.node (SV.c
    (SC.sli (13 : Nat) (1 : Nat) true (0 : Nat) true (8 : Nat) (8 : Nat))) (ST.node (SV.c (SC.ptr (13 : Nat) (6 : Nat))) ST.nil ST.nil) (ST.node (SV.tup []) ST.nil ST.nil)) (ST.node
    (SV.c (SC.ptr (13 : Nat) (4 : Nat))) (ST.node (SV.tup []) ST.nil ST.nil) ST.nil)) (ST.node (SV.tup []) (ST.node (SV.c (SC.sli (13 : Nat) (1 : Nat) true (0 : Nat) true (8 : Nat) (8 :
    Nat))) (ST.node (SV.c (SC.int false IntKind.u64 sl)) ST.nil ST.nil) (ST.node (SV.tup []) ST.nil ST.nil)) (ST.node (SV.c (SC.ptr (13 : Nat) (5 : Nat))) (ST.node (SV.tup []) ST.nil
    ST.nil) ST.nil))) (ST.node (SV.c (SC.ptr (57 : Nat) (0 : Nat))) (ST.node (SV.c (SC.int true IntKind.i64 (8 : Int) Bd.any)) (ST.node (SV.c (SC.int false IntKind.u64 ml)) (ST.node
    (SV.c (SC.sli (13 : Nat) (1 : Nat) true (0 : Nat) true (8 : Nat) (8 : Nat))) ST.nil ST.nil) (ST.node (SV.tup []) ST.nil ST.nil)) (ST.node (SV.c (SC.int false IntKind.i64 (smF fr)))
    (ST.node (SV.tup []) ST.nil ST.nil) ST.nil)) (ST.node (SV.c (SC.ptr (13 : Nat) (1 : Nat))) (ST.node (SV.c (SC.int false IntKind.u64 qu)) (ST.node (SV.agg [SC.int false IntKind.u64
    mp, SC.int false IntKind.i64 (smF ml), SC.int false IntKind.u64 qu, SC.int false IntKind.i64 (smF fr), SC.int false IntKind.i64 (smF ln), SC.int false IntKind.u64 se, SC.int false
    IntKind.i64 (smF sl)]) ST.nil ST.nil) ST.nil) (ST.node (SV.c (SC.int false IntKind.i64 (smF ln))) (ST.node (SV.tup []) ST.nil ST.nil) ST.nil)))) (ST.node (SV.c (SC.int true
    IntKind.u64 (0 : Int))) (ST.node (SV.c (SC.boo true false)) (ST.node (SV.c (SC.sli (13 : Nat) (1 : Nat) true (0 : Nat) true (8 : Nat) (8 : Nat))) (ST.node (SV.c (SC.ptr (13 : Nat)
    (2 : Nat))) (ST.node (SV.c (SC.int false IntKind.u64 se)) ST.nil ST.nil) (ST.node (SV.tup []) ST.nil ST.nil)) (ST.node (SV.c (SC.int false IntKind.u64 fr)) (ST.node (SV.tup [])
    ST.nil ST.nil) ST.nil)) (ST.node (SV.c (SC.sli (13 : Nat) (1 : Nat) true (0 : Nat) true (8 : Nat) (8 : Nat))) (ST.node (SV.c (SC.ptr (13 : Nat) (3 : Nat))) (ST.node (SV.c (SC.int
    false IntKind.i64 (smF sl))) ST.nil ST.nil) (ST.node (SV.tup []) ST.nil ST.nil)) (ST.node (SV.c (SC.int false IntKind.u64 ln)) (ST.node (SV.tup []) ST.nil ST.nil) ST.nil))) (ST.node
    (SV.tup []) (ST.node (SV.c (SC.boo true false)) (ST.node (SV.c (SC.int false IntKind.i64 (smF ml))) (ST.node (SV.c (SC.ptr (13 : Nat) (7 : Nat))) ST.nil ST.nil) (ST.node (SV.tup [])
    ST.nil ST.nil)) (ST.node (SV.c (SC.sli (13 : Nat) (1 : Nat) true (0 : Nat) true (8 : Nat) (8 : Nat))) (ST.node (SV.tup []) ST.nil ST.nil) ST.nil)) (ST.node (SV.c (SC.int false
    IntKind.u64 mp)) (ST.node (SV.c (SC.sli (13 : Nat) (1 : Nat) true (0 : Nat) true (8 : Nat) (8 : Nat))) (ST.node (SV.tup []) ST.nil ST.nil) ST.nil) (ST.node (SV.c (SC.sli (13 : Nat)
    (1 : Nat) true (0 : Nat) true (8 : Nat) (8 : Nat))) (ST.node (SV.tup []) ST.nil ST.nil) ST.nil))))) []) (Mem.mk [((0 : Nat), SO.cells [SC.int false IntKind.u64 mp, SC.int false
    IntKind.i64 ml, SC.int false IntKind.u64 qu, SC.int false IntKind.i64 fr, SC.int false IntKind.i64 ln, SC.int false IntKind.u64 se, SC.int false IntKind.i64 sl] (75 : Nat)), ((1 :
    Nat), SO.cells [SC.int false IntKind.i64 slot, SC.int false IntKind.u64 note, SC.int false IntKind.u64 next] (77 : Nat)), ((13 : Nat), SO.cells [SC.int false IntKind.u64 cursor,
    SC.int false IntKind.u64 mp, SC.int false IntKind.u64 ml, SC.int false IntKind.u64 qu, SC.int false IntKind.u64 fr, SC.int false IntKind.u64 ln, SC.int false IntKind.u64 se, SC.int
    false IntKind.u64 sl] (OfNat.ofNat (25 : Nat))), ((26 : Nat), SO.cells [SC.int true IntKind.u64 (0 : Int), SC.int true IntKind.i64 (0 : Int), SC.int true IntKind.u64 (0 : Int),
    SC.int true IntKind.i64 (0 : Int), SC.int true IntKind.i64 (0 : Int), SC.int true IntKind.u64 (0 : Int), SC.int true IntKind.i64 (0 : Int)] (75 : Nat)), ((57 : Nat), SO.cells
    [SC.int false IntKind.u64 mp, SC.int false IntKind.i64 (smF ml), SC.int false IntKind.u64 qu, SC.int false IntKind.i64 (smF fr), SC.int false IntKind.i64 (smF ln), SC.int false
    IntKind.u64 se, SC.int false IntKind.i64 (smF sl)] (75 : Nat))] (59 : Nat)) Scr.nil ∧ True) ∧ True) ∧ True) ∧ True) ∧ True) ∧ (∀ (K : KO XE), ((0 : Int) ≤ ln ∧ ln ≤
    (18446744073709551615 : Int)) ∧ (∀ (z : Un), True → cursor = cursor ∧ mp = mp ∧ ml = ml ∧ qu = qu ∧ fr = fr ∧ ln = ln ∧ se = se ∧ sl = sl ∧ (((0 : Int) ≤ sl ∧ sl ≤
    (18446744073709551615 : Int)) ∧ (∀ (z : Un), True → cursor = cursor ∧ mp = mp ∧ ml = ml ∧ qu = qu ∧ fr = fr ∧ ln = ln ∧ se = se ∧ sl = sl ∧ (cursor = cursor ∧ mp = mp ∧ ml = ml ∧ qu
    = qu ∧ fr = fr ∧ ln = ln ∧ se = se ∧ sl = sl ∧ K (SF.mk (53 : Nat) (ST.node (SV.c (SC.sli (13 : Nat) (1 : Nat) true (0 : Nat) true (8 : Nat) (8 : Nat))) (ST.node (SV.tup [])
    (ST.node (SV.c (SC.ptr (26 : Nat) (0 : Nat))) (ST.node (SV.tup []) (ST.node (SV.c (SC.sli (13 : Nat) (1 : Nat) true (0 : Nat) true (8 : Nat) (8 : Nat))) (ST.node (SV.c (SC.ptr (13 :
    Nat) (6 : Nat))) ST.nil ST.nil) (ST.node (SV.tup []) ST.nil ST.nil)) (ST.node (SV.c (SC.ptr (13 : Nat) (4 : Nat))) (ST.node (SV.tup []) ST.nil ST.nil) ST.nil)) (ST.node (SV.tup [])
    (ST.node (SV.c (SC.sli (13 : Nat) (1 : Nat) true (0 : Nat) true (8 : Nat) (8 : Nat))) (ST.node (SV.c (SC.int false IntKind.u64 sl)) ST.nil ST.nil) (ST.node (SV.tup []) ST.nil
    ST.nil)) (ST.node (SV.c (SC.ptr (13 : Nat) (5 : Nat))) (ST.node (SV.tup []) ST.nil ST.nil) ST.nil))) (ST.node (SV.c (SC.ptr (57 : Nat) (0 : Nat))) (ST.node (SV.c (SC.int true
    IntKind.i64 (8 : Int) Bd.any)) (ST.node (SV.c (SC.int false IntKind.u64 ml)) (ST.node (SV.c (SC.sli (13 : Nat) (1 : Nat) true (0 : Nat) true (8 : Nat) (8 : Nat))) ST.nil ST.nil)
    (ST.node (SV.tup []) ST.nil ST.nil)) (ST.node (SV.c (SC.int false IntKind.i64 (smF fr))) (ST.node (SV.tup []) ST.nil ST.nil) ST.nil)) (ST.node (SV.c (SC.ptr (13 : Nat) (1 : Nat)))
    (ST.node (SV.c (SC.int false IntKind.u64 qu)) (ST.node (SV.agg [SC.int false IntKind.u64 mp, SC.int false IntKind.i64 (smF ml), SC.int false IntKind.u64 qu, SC.int false IntKind.i64
    (smF fr), SC.int false IntKind.i64 (smF ln), SC.int false IntKind.u64 se, SC.int false IntKind.i64 (smF sl)]) ST.nil ST.nil) ST.nil) (ST.node (SV.c (SC.int false IntKind.i64 (smF
    ln))) (ST.node (SV.tup []) ST.nil ST.nil) ST.nil)))) (ST.node (SV.c (SC.int true IntKind.u64 (0 : Int))) (ST.node (SV.c (SC.boo true false)) (ST.node (SV.c (SC.sli (13 : Nat) (1 :
    Nat) true (0 : Nat) true (8 : Nat) (8 : Nat))) (ST.node (SV.c (SC.ptr (13 : Nat) (2 : Nat))) (ST.node (SV.c (SC.int false IntKind.u64 se)) ST.nil ST.nil) (ST.node (SV.tup []) ST.nil
    ST.nil)) (ST.node (SV.c (SC.int false IntKind.u64 fr)) (ST.node (SV.tup []) ST.nil ST.nil) ST.nil)) (ST.node (SV.c (SC.sli (13 : Nat) (1 : Nat) true (0 : Nat) true (8 : Nat) (8 :
    Nat))) (ST.node (SV.c (SC.ptr (13 : Nat) (3 : Nat))) (ST.node (SV.c (SC.int false IntKind.i64 (smF sl))) ST.nil ST.nil) (ST.node (SV.tup []) ST.nil ST.nil)) (ST.node (SV.c (SC.int
    false IntKind.u64 ln)) (ST.node (SV.tup []) ST.nil ST.nil) ST.nil))) (ST.node (SV.tup []) (ST.node (SV.c (SC.boo true false)) (ST.node (SV.c (SC.int false IntKind.i64 (smF ml)))
    (ST.node (SV.c (SC.ptr (13 : Nat) (7 : Nat))) ST.nil ST.nil) (ST.node (SV.tup []) ST.nil ST.nil)) (ST.node (SV.c (SC.sli (13 : Nat) (1 : Nat) true (0 : Nat) true (8 : Nat) (8 :
    Nat))) (ST.node (SV.tup []) ST.nil ST.nil) ST.nil)) (ST.node (SV.c (SC.int false IntKind.u64 mp)) (ST.node (SV.c (SC.sli (13 : Nat) (1 : Nat) true (0 : Nat) true (8 : Nat) (8 :
    Nat))) (ST.node (SV.tup []) ST.nil ST.nil) ST.nil) (ST.node (SV.c (SC.sli (13 : Nat) (1 : Nat) true (0 : Nat) true (8 : Nat) (8 : Nat))) (ST.node (SV.tup []) ST.nil ST.nil)
    ST.nil))))) []) (Mem.mk [((0 : Nat), SO.cells [SC.int false IntKind.u64 mp, SC.int false IntKind.i64 ml, SC.int false IntKind.u64 qu, SC.int false IntKind.i64 fr, SC.int false
    IntKind.i64 ln, SC.int false IntKind.u64 se, SC.int false IntKind.i64 sl] (75 : Nat)), ((1 : Nat), SO.cells [SC.int false IntKind.i64 slot, SC.int false IntKind.u64 note, SC.int
    false IntKind.u64 next] (77 : Nat)), ((13 : Nat), SO.cells [SC.int false IntKind.u64 cursor, SC.int false IntKind.u64 mp, SC.int false IntKind.u64 ml, SC.int false IntKind.u64 qu,
    SC.int false IntKind.u64 fr, SC.int false IntKind.u64 ln, SC.int false IntKind.u64 se, SC.int false IntKind.u64 sl] (OfNat.ofNat (25 : Nat))), ((26 : Nat), SO.cells [SC.int true
    IntKind.u64 (0 : Int), SC.int true IntKind.i64 (0 : Int), SC.int true IntKind.u64 (0 : Int), SC.int true IntKind.i64 (0 : Int), SC.int true IntKind.i64 (0 : Int), SC.int true
    IntKind.u64 (0 : Int), SC.int true IntKind.i64 (0 : Int)] (75 : Nat)), ((57 : Nat), SO.cells [SC.int false IntKind.u64 mp, SC.int false IntKind.i64 (smF ml), SC.int false
    IntKind.u64 qu, SC.int false IntKind.i64 (smF fr), SC.int false IntKind.i64 (smF ln), SC.int false IntKind.u64 se, SC.int false IntKind.i64 (smF sl)] (75 : Nat))] (59 : Nat))
    Scr.nil ∧ True) ∧ True) ∧ True) ∧ (∀ (K : KO XE), ((0 : Int) ≤ sl ∧ sl ≤ (18446744073709551615 : Int)) ∧ (∀ (z : Un), True → cursor = cursor ∧ mp = mp ∧ ml = ml ∧ qu = qu ∧ fr = fr
    ∧ ln = ln ∧ se = se ∧ sl = sl ∧ (cursor = cursor ∧ mp = mp ∧ ml = ml ∧ qu = qu ∧ fr = fr ∧ ln = ln ∧ se = se ∧ sl = sl ∧ K (SF.mk (53 : Nat) (ST.node (SV.c (SC.sli (13 : Nat) (1 :
    Nat) true (0 : Nat) true (8 : Nat) (8 : Nat))) (ST.node (SV.tup []) (ST.node (SV.c (SC.ptr (26 : Nat) (0 : Nat))) (ST.node (SV.tup []) (ST.node (SV.c (SC.sli (13 : Nat) (1 : Nat)
    true (0 : Nat) true (8 : Nat) (8 : Nat))) (ST.node (SV.c (SC.ptr (13 : Nat) (6 : Nat))) ST.nil ST.nil) (ST.node (SV.tup []) ST.nil ST.nil)) (ST.node (SV.c (SC.ptr (13 : Nat) (4 :
    Nat))) (ST.node (SV.tup []) ST.nil ST.nil) ST.nil)) (ST.node (SV.tup []) (ST.node (SV.c (SC.sli (13 : Nat) (1 : Nat) true (0 : Nat) true (8 : Nat) (8 : Nat))) (ST.node (SV.c (SC.int
    false IntKind.u64 sl)) ST.nil ST.nil) (ST.node (SV.tup []) ST.nil ST.nil)) (ST.node (SV.c (SC.ptr (13 : Nat) (5 : Nat))) (ST.node (SV.tup []) ST.nil ST.nil) ST.nil))) (ST.node (SV.c
    (SC.ptr (57 : Nat) (0 : Nat))) (ST.node (SV.c (SC.int true IntKind.i64 (8 : Int) Bd.any)) (ST.node (SV.c (SC.int false IntKind.u64 ml)) (ST.node (SV.c (SC.sli (13 : Nat) (1 : Nat)
    true (0 : Nat) true (8 : Nat) (8 : Nat))) ST.nil ST.nil) (ST.node (SV.tup []) ST.nil ST.nil)) (ST.node (SV.c (SC.int false IntKind.i64 (smF fr))) (ST.node (SV.tup []) ST.nil ST.nil)
    ST.nil)) (ST.node (SV.c (SC.ptr (13 : Nat) (1 : Nat))) (ST.node (SV.c (SC.int false IntKind.u64 qu)) (ST.node (SV.agg [SC.int false IntKind.u64 mp, SC.int false IntKind.i64 (smF
    ml), SC.int false IntKind.u64 qu, SC.int false IntKind.i64 (smF fr), SC.int false IntKind.i64 (smF ln), SC.int false IntKind.u64 se, SC.int false IntKind.i64 (smF sl)]) ST.nil
    ST.nil) ST.nil) (ST.node (SV.c (SC.int false IntKind.i64 (smF ln))) (ST.node (SV.tup []) ST.nil ST.nil) ST.nil)))) (ST.node (SV.c (SC.int true IntKind.u64 (0 : Int))) (ST.node (SV.c
    (SC.boo true false)) (ST.node (SV.c (SC.sli (13 : Nat) (1 : Nat) true (0 : Nat) true (8 : Nat) (8 : Nat))) (ST.node (SV.c (SC.ptr (13 : Nat) (2 : Nat))) (ST.node (SV.c (SC.int false
    IntKind.u64 se)) ST.nil ST.nil) (ST.node (SV.tup []) ST.nil ST.nil)) (ST.node (SV.c (SC.int false IntKind.u64 fr)) (ST.node (SV.tup []) ST.nil ST.nil) ST.nil)) (ST.node (SV.c
    (SC.sli (13 : Nat) (1 : Nat) true (0 : Nat) true (8 : Nat) (8 : Nat))) (ST.node (SV.c (SC.ptr (13 : Nat) (3 : Nat))) (ST.node (SV.c (SC.int false IntKind.i64 (smF sl))) ST.nil
    ST.nil) (ST.node (SV.tup []) ST.nil ST.nil)) (ST.node (SV.c (SC.int false IntKind.u64 ln)) (ST.node (SV.tup []) ST.nil ST.nil) ST.nil))) (ST.node (SV.tup []) (ST.node (SV.c (SC.boo
    true false)) (ST.node (SV.c (SC.int false IntKind.i64 (smF ml))) (ST.node (SV.c (SC.ptr (13 : Nat) (7 : Nat))) ST.nil ST.nil) (ST.node (SV.tup []) ST.nil ST.nil)) (ST.node (SV.c
    (SC.sli (13 : Nat) (1 : Nat) true (0 : Nat) true (8 : Nat) (8 : Nat))) (ST.node (SV.tup []) ST.nil ST.nil) ST.nil)) (ST.node (SV.c (SC.int false IntKind.u64 mp)) (ST.node (SV.c
    (SC.sli (13 : Nat) (1 : Nat) true (0 : Nat) true (8 : Nat) (8 : Nat))) (ST.node (SV.tup []) ST.nil ST.nil) ST.nil) (ST.node (SV.c (SC.sli (13 : Nat) (1 : Nat) true (0 : Nat) true (8
    : Nat) (8 : Nat))) (ST.node (SV.tup []) ST.nil ST.nil) ST.nil))))) []) (Mem.mk [((0 : Nat), SO.cells [SC.int false IntKind.u64 mp, SC.int false IntKind.i64 ml, SC.int false
    IntKind.u64 qu, SC.int false IntKind.i64 fr, SC.int false IntKind.i64 ln, SC.int false IntKind.u64 se, SC.int false IntKind.i64 sl] (75 : Nat)), ((1 : Nat), SO.cells [SC.int false
    IntKind.i64 slot, SC.int false IntKind.u64 note, SC.int false IntKind.u64 next] (77 : Nat)), ((13 : Nat), SO.cells [SC.int false IntKind.u64 cursor, SC.int false IntKind.u64 mp,
    SC.int false IntKind.u64 ml, SC.int false IntKind.u64 qu, SC.int false IntKind.u64 fr, SC.int false IntKind.u64 ln, SC.int false IntKind.u64 se, SC.int false IntKind.u64 sl]
    (OfNat.ofNat (25 : Nat))), ((26 : Nat), SO.cells [SC.int true IntKind.u64 (0 : Int), SC.int true IntKind.i64 (0 : Int), SC.int true IntKind.u64 (0 : Int), SC.int true IntKind.i64 (0
    : Int), SC.int true IntKind.i64 (0 : Int), SC.int true IntKind.u64 (0 : Int), SC.int true IntKind.i64 (0 : Int)] (75 : Nat)), ((57 : Nat), SO.cells [SC.int false IntKind.u64 mp,
    SC.int false IntKind.i64 (smF ml), SC.int false IntKind.u64 qu, SC.int false IntKind.i64 (smF fr), SC.int false IntKind.i64 (smF ln), SC.int false IntKind.u64 se, SC.int false
    IntKind.i64 (smF sl)] (75 : Nat))] (59 : Nat)) Scr.nil ∧ True) ∧ True) ∧ True → cursor = cursor ∧ mp = mp ∧ ml = ml ∧ qu = qu ∧ fr = fr ∧ ln = ln ∧ se = se ∧ sl = sl ∧ (((0 : Int) ≤
    sl ∧ sl ≤ (18446744073709551615 : Int)) ∧ (∀ (z : Un), True → cursor = cursor ∧ mp = mp ∧ ml = ml ∧ qu = qu ∧ fr = fr ∧ ln = ln ∧ se = se ∧ sl = sl ∧ K (SF.mk (53 : Nat) (ST.node
    (SV.c (SC.sli (13 : Nat) (1 : Nat) true (0 : Nat) true (8 : Nat) (8 : Nat))) (ST.node (SV.tup []) (ST.node (SV.c (SC.ptr (26 : Nat) (0 : Nat))) (ST.node (SV.tup []) (ST.node (SV.c
    (SC.sli (13 : Nat) (1 : Nat) true (0 : Nat) true (8 : Nat) (8 : Nat))) (ST.node (SV.c (SC.ptr (13 : Nat) (6 : Nat))) ST.nil ST.nil) (ST.node (SV.tup []) ST.nil ST.nil)) (ST.node
    (SV.c (SC.ptr (13 : Nat) (4 : Nat))) (ST.node (SV.tup []) ST.nil ST.nil) ST.nil)) (ST.node (SV.tup []) (ST.node (SV.c (SC.sli (13 : Nat) (1 : Nat) true (0 : Nat) true (8 : Nat) (8 :
    Nat))) (ST.node (SV.c (SC.int false IntKind.u64 sl)) ST.nil ST.nil) (ST.node (SV.tup []) ST.nil ST.nil)) (ST.node (SV.c (SC.ptr (13 : Nat) (5 : Nat))) (ST.node (SV.tup []) ST.nil
    ST.nil) ST.nil))) (ST.node (SV.c (SC.ptr (57 : Nat) (0 : Nat))) (ST.node (SV.c (SC.int true IntKind.i64 (8 : Int) Bd.any)) (ST.node (SV.c (SC.int false IntKind.u64 ml)) (ST.node
    (SV.c (SC.sli (13 : Nat) (1 : Nat) true (0 : Nat) true (8 : Nat) (8 : Nat))) ST.nil ST.nil) (ST.node (SV.tup []) ST.nil ST.nil)) (ST.node (SV.c (SC.int false IntKind.i64 (smF fr)))
    (ST.node (SV.tup []) ST.nil ST.nil) ST.nil)) (ST.node (SV.c (SC.ptr (13 : Nat) (1 : Nat))) (ST.node (SV.c (SC.int false IntKind.u64 qu)) (ST.node (SV.agg [SC.int false IntKind.u64
    mp, SC.int false IntKind.i64 (smF ml), SC.int false IntKind.u64 qu, SC.int false IntKind.i64 (smF fr), SC.int false IntKind.i64 (smF ln), SC.int false IntKind.u64 se, SC.int false
    IntKind.i64 (smF sl)]) ST.nil ST.nil) ST.nil) (ST.node (SV.c (SC.int false IntKind.i64 (smF ln))) (ST.node (SV.tup []) ST.nil ST.nil) ST.nil)))) (ST.node (SV.c (SC.int true
    IntKind.u64 (0 : Int))) (ST.node (SV.c (SC.boo true false)) (ST.node (SV.c (SC.sli (13 : Nat) (1 : Nat) true (0 : Nat) true (8 : Nat) (8 : Nat))) (ST.node (SV.c (SC.ptr (13 : Nat)
    (2 : Nat))) (ST.node (SV.c (SC.int false IntKind.u64 se)) ST.nil ST.nil) (ST.node (SV.tup []) ST.nil ST.nil)) (ST.node (SV.c (SC.int false IntKind.u64 fr)) (ST.node (SV.tup [])
    ST.nil ST.nil) ST.nil)) (ST.node (SV.c (SC.sli (13 : Nat) (1 : Nat) true (0 : Nat) true (8 : Nat) (8 : Nat))) (ST.node (SV.c (SC.ptr (13 : Nat) (3 : Nat))) (ST.node (SV.c (SC.int
    false IntKind.i64 (smF sl))) ST.nil ST.nil) (ST.node (SV.tup []) ST.nil ST.nil)) (ST.node (SV.c (SC.int false IntKind.u64 ln)) (ST.node (SV.tup []) ST.nil ST.nil) ST.nil))) (ST.node
    (SV.tup []) (ST.node (SV.c (SC.boo true false)) (ST.node (SV.c (SC.int false IntKind.i64 (smF ml))) (ST.node (SV.c (SC.ptr (13 : Nat) (7 : Nat))) ST.nil ST.nil) (ST.node (SV.tup [])
    ST.nil ST.nil)) (ST.node (SV.c (SC.sli (13 : Nat) (1 : Nat) true (0 : Nat) true (8 : Nat) (8 : Nat))) (ST.node (SV.tup []) ST.nil ST.nil) ST.nil)) (ST.node (SV.c (SC.int false
    IntKind.u64 mp)) (ST.node (SV.c (SC.sli (13 : Nat) (1 : Nat) true (0 : Nat) true (8 : Nat) (8 : Nat))) (ST.node (SV.tup []) ST.nil ST.nil) ST.nil) (ST.node (SV.c (SC.sli (13 : Nat)
    (1 : Nat) true (0 : Nat) true (8 : Nat) (8 : Nat))) (ST.node (SV.tup []) ST.nil ST.nil) ST.nil))))) []) (Mem.mk [((0 : Nat), SO.cells [SC.int false IntKind.u64 mp, SC.int false
    IntKind.i64 ml, SC.int false IntKind.u64 qu, SC.int false IntKind.i64 fr, SC.int false IntKind.i64 ln, SC.int false IntKind.u64 se, SC.int false IntKind.i64 sl] (75 : Nat)), ((1 :
    Nat), SO.cells [SC.int false IntKind.i64 slot, SC.int false IntKind.u64 note, SC.int false IntKind.u64 next] (77 : Nat)), ((13 : Nat), SO.cells [SC.int false IntKind.u64 cursor,
    SC.int false IntKind.u64 mp, SC.int false IntKind.u64 ml, SC.int false IntKind.u64 qu, SC.int false IntKind.u64 fr, SC.int false IntKind.u64 ln, SC.int false IntKind.u64 se, SC.int
    false IntKind.u64 sl] (OfNat.ofNat (25 : Nat))), ((26 : Nat), SO.cells [SC.int true IntKind.u64 (0 : Int), SC.int true IntKind.i64 (0 : Int), SC.int true IntKind.u64 (0 : Int),
    SC.int true IntKind.i64 (0 : Int), SC.int true IntKind.i64 (0 : Int), SC.int true IntKind.u64 (0 : Int), SC.int true IntKind.i64 (0 : Int)] (75 : Nat)), ((57 : Nat), SO.cells
    [SC.int false IntKind.u64 mp, SC.int false IntKind.i64 (smF ml), SC.int false IntKind.u64 qu, SC.int false IntKind.i64 (smF fr), SC.int false IntKind.i64 (smF ln), SC.int false
    IntKind.u64 se, SC.int false IntKind.i64 (smF sl)] (75 : Nat))] (59 : Nat)) Scr.nil ∧ True) ∧ True) ∧ True) ∧ True) ∧ True → cursor = cursor ∧ mp = mp ∧ ml = ml ∧ qu = qu ∧ fr = fr
    ∧ ln = ln ∧ se = se ∧ sl = sl ∧ (((0 : Int) ≤ ln ∧ ln ≤ (18446744073709551615 : Int)) ∧ (∀ (z : Un), True → cursor = cursor ∧ mp = mp ∧ ml = ml ∧ qu = qu ∧ fr = fr ∧ ln = ln ∧ se =
    se ∧ sl = sl ∧ (((0 : Int) ≤ sl ∧ sl ≤ (18446744073709551615 : Int)) ∧ (∀ (z : Un), True → cursor = cursor ∧ mp = mp ∧ ml = ml ∧ qu = qu ∧ fr = fr ∧ ln = ln ∧ se = se ∧ sl = sl ∧ K
    (SF.mk (53 : Nat) (ST.node (SV.c (SC.sli (13 : Nat) (1 : Nat) true (0 : Nat) true (8 : Nat) (8 : Nat))) (ST.node (SV.tup []) (ST.node (SV.c (SC.ptr (26 : Nat) (0 : Nat))) (ST.node
    (SV.tup []) (ST.node (SV.c (SC.sli (13 : Nat) (1 : Nat) true (0 : Nat) true (8 : Nat) (8 : Nat))) (ST.node (SV.c (SC.ptr (13 : Nat) (6 : Nat))) ST.nil ST.nil) (ST.node (SV.tup [])
    ST.nil ST.nil)) (ST.node (SV.c (SC.ptr (13 : Nat) (4 : Nat))) (ST.node (SV.tup []) ST.nil ST.nil) ST.nil)) (ST.node (SV.tup []) (ST.node (SV.c (SC.sli (13 : Nat) (1 : Nat) true (0 :
    Nat) true (8 : Nat) (8 : Nat))) (ST.node (SV.c (SC.int false IntKind.u64 sl)) ST.nil ST.nil) (ST.node (SV.tup []) ST.nil ST.nil)) (ST.node (SV.c (SC.ptr (13 : Nat) (5 : Nat)))
    (ST.node (SV.tup []) ST.nil ST.nil) ST.nil))) (ST.node (SV.c (SC.ptr (57 : Nat) (0 : Nat))) (ST.node (SV.c (SC.int true IntKind.i64 (8 : Int) Bd.any)) (ST.node (SV.c (SC.int false
    IntKind.u64 ml)) (ST.node (SV.c (SC.sli (13 : Nat) (1 : Nat) true (0 : Nat) true (8 : Nat) (8 : Nat))) ST.nil ST.nil) (ST.node (SV.tup []) ST.nil ST.nil)) (ST.node (SV.c (SC.int
    false IntKind.i64 (smF fr))) (ST.node (SV.tup []) ST.nil ST.nil) ST.nil)) (ST.node (SV.c (SC.ptr (13 : Nat) (1 : Nat))) (ST.node (SV.c (SC.int false IntKind.u64 qu)) (ST.node
    (SV.agg [SC.int false IntKind.u64 mp, SC.int false IntKind.i64 (smF ml), SC.int false IntKind.u64 qu, SC.int false IntKind.i64 (smF fr), SC.int false IntKind.i64 (smF ln), SC.int
    false IntKind.u64 se, SC.int false IntKind.i64 (smF sl)]) ST.nil ST.nil) ST.nil) (ST.node (SV.c (SC.int false IntKind.i64 (smF ln))) (ST.node (SV.tup []) ST.nil ST.nil) ST.nil))))
    (ST.node (SV.c (SC.int true IntKind.u64 (0 : Int))) (ST.node (SV.c (SC.boo true false)) (ST.node (SV.c (SC.sli (13 : Nat) (1 : Nat) true (0 : Nat) true (8 : Nat) (8 : Nat)))
    (ST.node (SV.c (SC.ptr (13 : Nat) (2 : Nat))) (ST.node (SV.c (SC.int false IntKind.u64 se)) ST.nil ST.nil) (ST.node (SV.tup []) ST.nil ST.nil)) (ST.node (SV.c (SC.int false
    IntKind.u64 fr)) (ST.node (SV.tup []) ST.nil ST.nil) ST.nil)) (ST.node (SV.c (SC.sli (13 : Nat) (1 : Nat) true (0 : Nat) true (8 : Nat) (8 : Nat))) (ST.node (SV.c (SC.ptr (13 : Nat)
    (3 : Nat))) (ST.node (SV.c (SC.int false IntKind.i64 (smF sl))) ST.nil ST.nil) (ST.node (SV.tup []) ST.nil ST.nil)) (ST.node (SV.c (SC.int false IntKind.u64 ln)) (ST.node (SV.tup
    []) ST.nil ST.nil) ST.nil))) (ST.node (SV.tup []) (ST.node (SV.c (SC.boo true false)) (ST.node (SV.c (SC.int false IntKind.i64 (smF ml))) (ST.node (SV.c (SC.ptr (13 : Nat) (7 :
    Nat))) ST.nil ST.nil) (ST.node (SV.tup []) ST.nil ST.nil)) (ST.node (SV.c (SC.sli (13 : Nat) (1 : Nat) true (0 : Nat) true (8 : Nat) (8 : Nat))) (ST.node (SV.tup []) ST.nil ST.nil)
    ST.nil)) (ST.node (SV.c (SC.int false IntKind.u64 mp)) (ST.node (SV.c (SC.sli (13 : Nat) (1 : Nat) true (0 : Nat) true (8 : Nat) (8 : Nat))) (ST.node (SV.tup []) ST.nil ST.nil)
    ST.nil) (ST.node (SV.c (SC.sli (13 : Nat) (1 : Nat) true (0 : Nat) true (8 : Nat) (8 : Nat))) (ST.node (SV.tup []) ST.nil ST.nil) ST.nil))))) []) (Mem.mk [((0 : Nat), SO.cells
    [SC.int false IntKind.u64 mp, SC.int false IntKind.i64 ml, SC.int false IntKind.u64 qu, SC.int false IntKind.i64 fr, SC.int false IntKind.i64 ln, SC.int false IntKind.u64 se, SC.int
    false IntKind.i64 sl] (75 : Nat)), ((1 : Nat), SO.cells [SC.int false IntKind.i64 slot, SC.int false IntKind.u64 note, SC.int false IntKind.u64 next] (77 : Nat)), ((13 : Nat),
    SO.cells [SC.int false IntKind.u64 cursor, SC.int false IntKind.u64 mp, SC.int false IntKind.u64 ml, SC.int false IntKind.u64 qu, SC.int false IntKind.u64 fr, SC.int false
    IntKind.u64 ln, SC.int false IntKind.u64 se, SC.int false IntKind.u64 sl] (OfNat.ofNat (25 : Nat))), ((26 : Nat), SO.cells [SC.int true IntKind.u64 (0 : Int), SC.int true
    IntKind.i64 (0 : Int), SC.int true IntKind.u64 (0 : Int), SC.int true IntKind.i64 (0 : Int), SC.int true IntKind.i64 (0 : Int), SC.int true IntKind.u64 (0 : Int), SC.int true
    IntKind.i64 (0 : Int)] (75 : Nat)), ((57 : Nat), SO.cells [SC.int false IntKind.u64 mp, SC.int false IntKind.i64 (smF ml), SC.int false IntKind.u64 qu, SC.int false IntKind.i64 (smF
    fr), SC.int false IntKind.i64 (smF ln), SC.int false IntKind.u64 se, SC.int false IntKind.i64 (smF sl)] (75 : Nat))] (59 : Nat)) Scr.nil ∧ True) ∧ True) ∧ True) ∧ True) ∧ True) ∧
    True) ∧ True → cursor = cursor ∧ mp = mp ∧ ml = ml ∧ qu = qu ∧ fr = fr ∧ ln = ln ∧ se = se ∧ sl = sl ∧ (((0 : Int) ≤ fr ∧ fr ≤ (18446744073709551615 : Int)) ∧ (∀ (z : Un), True →
    cursor = cursor ∧ mp = mp ∧ ml = ml ∧ qu = qu ∧ fr = fr ∧ ln = ln ∧ se = se ∧ sl = sl ∧ (((0 : Int) ≤ ln ∧ ln ≤ (18446744073709551615 : Int)) ∧ (∀ (z : Un), True → cursor = cursor ∧
    mp = mp ∧ ml = ml ∧ qu = qu ∧ fr = fr ∧ ln = ln ∧ se = se ∧ sl = sl ∧ (((0 : Int) ≤ sl ∧ sl ≤ (18446744073709551615 : Int)) ∧ (∀ (z : Un), True → cursor = cursor ∧ mp = mp ∧ ml = ml
    ∧ qu = qu ∧ fr = fr ∧ ln = ln ∧ se = se ∧ sl = sl ∧ K (SF.mk (53 : Nat) (ST.node (SV.c (SC.sli (13 : Nat) (1 : Nat) true (0 : Nat) true (8 : Nat) (8 : Nat))) (ST.node (SV.tup [])
    (ST.node (SV.c (SC.ptr (26 : Nat) (0 : Nat))) (ST.node (SV.tup []) (ST.node (SV.c (SC.sli (13 : Nat) (1 : Nat) true (0 : Nat) true (8 : Nat) (8 : Nat))) (ST.node (SV.c (SC.ptr (13 :
    Nat) (6 : Nat))) ST.nil ST.nil) (ST.node (SV.tup []) ST.nil ST.nil)) (ST.node (SV.c (SC.ptr (13 : Nat) (4 : Nat))) (ST.node (SV.tup []) ST.nil ST.nil) ST.nil)) (ST.node (SV.tup [])
    (ST.node (SV.c (SC.sli (13 : Nat) (1 : Nat) true (0 : Nat) true (8 : Nat) (8 : Nat))) (ST.node (SV.c (SC.int false IntKind.u64 sl)) ST.nil ST.nil) (ST.node (SV.tup []) ST.nil
    ST.nil)) (ST.node (SV.c (SC.ptr (13 : Nat) (5 : Nat))) (ST.node (SV.tup []) ST.nil ST.nil) ST.nil))) (ST.node (SV.c (SC.ptr (57 : Nat) (0 : Nat))) (ST.node (SV.c (SC.int true
    IntKind.i64 (8 : Int) Bd.any)) (ST.node (SV.c (SC.int false IntKind.u64 ml)) (ST.node (SV.c (SC.sli (13 : Nat) (1 : Nat) true (0 : Nat) true (8 : Nat) (8 : Nat))) ST.nil ST.nil)
    (ST.node (SV.tup []) ST.nil ST.nil)) (ST.node (SV.c (SC.int false IntKind.i64 (smF fr))) (ST.node (SV.tup []) ST.nil ST.nil) ST.nil)) (ST.node (SV.c (SC.ptr (13 : Nat) (1 : Nat)))
    (ST.node (SV.c (SC.int false IntKind.u64 qu)) (ST.node (SV.agg [SC.int false IntKind.u64 mp, SC.int false IntKind.i64 (smF ml), SC.int false IntKind.u64 qu, SC.int false IntKind.i64
    (smF fr), SC.int false IntKind.i64 (smF ln), SC.int false IntKind.u64 se, SC.int false IntKind.i64 (smF sl)]) ST.nil ST.nil) ST.nil) (ST.node (SV.c (SC.int false IntKind.i64 (smF
    ln))) (ST.node (SV.tup []) ST.nil ST.nil) ST.nil)))) (ST.node (SV.c (SC.int true IntKind.u64 (0 : Int))) (ST.node (SV.c (SC.boo true false)) (ST.node (SV.c (SC.sli (13 : Nat) (1 :
    Nat) true (0 : Nat) true (8 : Nat) (8 : Nat))) (ST.node (SV.c (SC.ptr (13 : Nat) (2 : Nat))) (ST.node (SV.c (SC.int false IntKind.u64 se)) ST.nil ST.nil) (ST.node (SV.tup []) ST.nil
    ST.nil)) (ST.node (SV.c (SC.int false IntKind.u64 fr)) (ST.node (SV.tup []) ST.nil ST.nil) ST.nil)) (ST.node (SV.c (SC.sli (13 : Nat) (1 : Nat) true (0 : Nat) true (8 : Nat) (8 :
    Nat))) (ST.node (SV.c (SC.ptr (13 : Nat) (3 : Nat))) (ST.node (SV.c (SC.int false IntKind.i64 (smF sl))) ST.nil ST.nil) (ST.node (SV.tup []) ST.nil ST.nil)) (ST.node (SV.c (SC.int
    false IntKind.u64 ln)) (ST.node (SV.tup []) ST.nil ST.nil) ST.nil))) (ST.node (SV.tup []) (ST.node (SV.c (SC.boo true false)) (ST.node (SV.c (SC.int false IntKind.i64 (smF ml)))
    (ST.node (SV.c (SC.ptr (13 : Nat) (7 : Nat))) ST.nil ST.nil) (ST.node (SV.tup []) ST.nil ST.nil)) (ST.node (SV.c (SC.sli (13 : Nat) (1 : Nat) true (0 : Nat) true (8 : Nat) (8 :
    Nat))) (ST.node (SV.tup []) ST.nil ST.nil) ST.nil)) (ST.node (SV.c (SC.int false IntKind.u64 mp)) (ST.node (SV.c (SC.sli (13 : Nat) (1 : Nat) true (0 : Nat) true (8 : Nat) (8 :
    Nat))) (ST.node (SV.tup []) ST.nil ST.nil) ST.nil) (ST.node (SV.c (SC.sli (13 : Nat) (1 : Nat) true (0 : Nat) true (8 : Nat) (8 : Nat))) (ST.node (SV.tup []) ST.nil ST.nil)
    ST.nil))))) []) (Mem.mk [((0 : Nat), SO.cells [SC.int false IntKind.u64 mp, SC.int false IntKind.i64 ml, SC.int false IntKind.u64 qu, SC.int false IntKind.i64 fr, SC.int false
    IntKind.i64 ln, SC.int false IntKind.u64 se, SC.int false IntKind.i64 sl] (75 : Nat)), ((1 : Nat), SO.cells [SC.int false IntKind.i64 slot, SC.int false IntKind.u64 note, SC.int
    false IntKind.u64 next] (77 : Nat)), ((13 : Nat), SO.cells [SC.int false IntKind.u64 cursor, SC.int false IntKind.u64 mp, SC.int false IntKind.u64 ml, SC.int false IntKind.u64 qu,
    SC.int false IntKind.u64 fr, SC.int false IntKind.u64 ln, SC.int false IntKind.u64 se, SC.int false IntKind.u64 sl] (OfNat.ofNat (25 : Nat))), ((26 : Nat), SO.cells [SC.int true
    IntKind.u64 (0 : Int), SC.int true IntKind.i64 (0 : Int), SC.int true IntKind.u64 (0 : Int), SC.int true IntKind.i64 (0 : Int), SC.int true IntKind.i64 (0 : Int), SC.int true
    IntKind.u64 (0 : Int), SC.int true IntKind.i64 (0 : Int)] (75 : Nat)), ((57 : Nat), SO.cells [SC.int false IntKind.u64 mp, SC.int false IntKind.i64 (smF ml), SC.int false
    IntKind.u64 qu, SC.int false IntKind.i64 (smF fr), SC.int false IntKind.i64 (smF ln), SC.int false IntKind.u64 se, SC.int false IntKind.i64 (smF sl)] (75 : Nat))] (59 : Nat))
    Scr.nil ∧ True) ∧ True) ∧ True) ∧ True) ∧ True) ∧ True) ∧ True) ∧ True) ∧ True → cursor = cursor ∧ mp = mp ∧ ml = ml ∧ qu = qu ∧ fr = fr ∧ ln = ln ∧ se = se ∧ sl = sl ∧ (((0 : Int)
    ≤ ml ∧ ml ≤ (18446744073709551615 : Int)) ∧ (∀ (z : Un), True → cursor = cursor ∧ mp = mp ∧ ml = ml ∧ qu = qu ∧ fr = fr ∧ ln = ln ∧ se = se ∧ sl = sl ∧ (((0 : Int) ≤ fr ∧ fr ≤
    (18446744073709551615 : Int)) ∧ (∀ (z : Un), True → cursor = cursor ∧ mp = mp ∧ ml = ml ∧ qu = qu ∧ fr = fr ∧ ln = ln ∧ se = se ∧ sl = sl ∧ (((0 : Int) ≤ ln ∧ ln ≤
    (18446744073709551615 : Int)) ∧ (∀ (z : Un), True → cursor = cursor ∧ mp = mp ∧ ml = ml ∧ qu = qu ∧ fr = fr ∧ ln = ln ∧ se = se ∧ sl = sl ∧ (((0 : Int) ≤ sl ∧ sl ≤
    (18446744073709551615 : Int)) ∧ (∀ (z : Un), True → cursor = cursor ∧ mp = mp ∧ ml = ml ∧ qu = qu ∧ fr = fr ∧ ln = ln ∧ se = se ∧ sl = sl ∧ K (SF.mk (53 : Nat) (ST.node (SV.c
    (SC.sli (13 : Nat) (1 : Nat) true (0 : Nat) true (8 : Nat) (8 : Nat))) (ST.node (SV.tup []) (ST.node (SV.c (SC.ptr (26 : Nat) (0 : Nat))) (ST.node (SV.tup []) (ST.node (SV.c (SC.sli
    (13 : Nat) (1 : Nat) true (0 : Nat) true (8 : Nat) (8 : Nat))) (ST.node (SV.c (SC.ptr (13 : Nat) (6 : Nat))) ST.nil ST.nil) (ST.node (SV.tup []) ST.nil ST.nil)) (ST.node (SV.c
    (SC.ptr (13 : Nat) (4 : Nat))) (ST.node (SV.tup []) ST.nil ST.nil) ST.nil)) (ST.node (SV.tup []) (ST.node (SV.c (SC.sli (13 : Nat) (1 : Nat) true (0 : Nat) true (8 : Nat) (8 :
    Nat))) (ST.node (SV.c (SC.int false IntKind.u64 sl)) ST.nil ST.nil) (ST.node (SV.tup []) ST.nil ST.nil)) (ST.node (SV.c (SC.ptr (13 : Nat) (5 : Nat))) (ST.node (SV.tup []) ST.nil
    ST.nil) ST.nil))) (ST.node (SV.c (SC.ptr (57 : Nat) (0 : Nat))) (ST.node (SV.c (SC.int true IntKind.i64 (8 : Int) Bd.any)) (ST.node (SV.c (SC.int false IntKind.u64 ml)) (ST.node
    (SV.c (SC.sli (13 : Nat) (1 : Nat) true (0 : Nat) true (8 : Nat) (8 : Nat))) ST.nil ST.nil) (ST.node (SV.tup []) ST.nil ST.nil)) (ST.node (SV.c (SC.int false IntKind.i64 (smF fr)))
    (ST.node (SV.tup []) ST.nil ST.nil) ST.nil)) (ST.node (SV.c (SC.ptr (13 : Nat) (1 : Nat))) (ST.node (SV.c (SC.int false IntKind.u64 qu)) (ST.node (SV.agg [SC.int false IntKind.u64
    mp, SC.int false IntKind.i64 (smF ml), SC.int false IntKind.u64 qu, SC.int false IntKind.i64 (smF fr), SC.int false IntKind.i64 (smF ln), SC.int false IntKind.u64 se, SC.int false
    IntKind.i64 (smF sl)]) ST.nil ST.nil) ST.nil) (ST.node (SV.c (SC.int false IntKind.i64 (smF ln))) (ST.node (SV.tup []) ST.nil ST.nil) ST.nil)))) (ST.node (SV.c (SC.int true
    IntKind.u64 (0 : Int))) (ST.node (SV.c (SC.boo true false)) (ST.node (SV.c (SC.sli (13 : Nat) (1 : Nat) true (0 : Nat) true (8 : Nat) (8 : Nat))) (ST.node (SV.c (SC.ptr (13 : Nat)
    (2 : Nat))) (ST.node (SV.c (SC.int false IntKind.u64 se)) ST.nil ST.nil) (ST.node (SV.tup []) ST.nil ST.nil)) (ST.node (SV.c (SC.int false IntKind.u64 fr)) (ST.node (SV.tup [])
    ST.nil ST.nil) ST.nil)) (ST.node (SV.c (SC.sli (13 : Nat) (1 : Nat) true (0 : Nat) true (8 : Nat) (8 : Nat))) (ST.node (SV.c (SC.ptr (13 : Nat) (3 : Nat))) (ST.node (SV.c (SC.int
    false IntKind.i64 (smF sl))) ST.nil ST.nil) (ST.node (SV.tup []) ST.nil ST.nil)) (ST.node (SV.c (SC.int false IntKind.u64 ln)) (ST.node (SV.tup []) ST.nil ST.nil) ST.nil))) (ST.node
    (SV.tup []) (ST.node (SV.c (SC.boo true false)) (ST.node (SV.c (SC.int false IntKind.i64 (smF ml))) (ST.node (SV.c (SC.ptr (13 : Nat) (7 : Nat))) ST.nil ST.nil) (ST.node (SV.tup [])
    ST.nil ST.nil)) (ST.node (SV.c (SC.sli (13 : Nat) (1 : Nat) true (0 : Nat) true (8 : Nat) (8 : Nat))) (ST.node (SV.tup []) ST.nil ST.nil) ST.nil)) (ST.node (SV.c (SC.int false
    IntKind.u64 mp)) (ST.node (SV.c (SC.sli (13 : Nat) (1 : Nat) true (0 : Nat) true (8 : Nat) (8 : Nat))) (ST.node (SV.tup []) ST.nil ST.nil) ST.nil) (ST.node (SV.c (SC.sli (13 : Nat)
    (1 : Nat) true (0 : Nat) true (8 : Nat) (8 : Nat))) (ST.node (SV.tup []) ST.nil ST.nil) ST.nil))))) []) (Mem.mk [((0 : Nat), SO.cells [SC.int false IntKind.u64 mp, SC.int false
    IntKind.i64 ml, SC.int false IntKind.u64 qu, SC.int false IntKind.i64 fr, SC.int false IntKind.i64 ln, SC.int false IntKind.u64 se, SC.int false IntKind.i64 sl] (75 : Nat)), ((1 :
    Nat), SO.cells [SC.int false IntKind.i64 slot, SC.int false IntKind.u64 note, SC.int false IntKind.u64 next] (77 : Nat)), ((13 : Nat), SO.cells [SC.int false IntKind.u64 cursor,
    SC.int false IntKind.u64 mp, SC.int false IntKind.u64 ml, SC.int false IntKind.u64 qu, SC.int false IntKind.u64 fr, SC.int false IntKind.u64 ln, SC.int false IntKind.u64 se, SC.int
    false IntKind.u64 sl] (OfNat.ofNat (25 : Nat))), ((26 : Nat), SO.cells [SC.int true IntKind.u64 (0 : Int), SC.int true IntKind.i64 (0 : Int), SC.int true IntKind.u64 (0 : Int),
    SC.int true IntKind.i64 (0 : Int), SC.int true IntKind.i64 (0 : Int), SC.int true IntKind.u64 (0 : Int), SC.int true IntKind.i64 (0 : Int)] (75 : Nat)), ((57 : Nat), SO.cells
    [SC.int false IntKind.u64 mp, SC.int false IntKind.i64 (smF ml), SC.int false IntKind.u64 qu, SC.int false IntKind.i64 (smF fr), SC.int false IntKind.i64 (smF ln), SC.int false
    IntKind.u64 se, SC.int false IntKind.i64 (smF sl)] (75 : Nat))] (59 : Nat)) Scr.nil ∧ True) ∧ True) ∧ True) ∧ True) ∧ True) ∧ True) ∧ True) ∧ True) ∧ True) ∧ True) ∧ True) := by
  kernel_rfl
theorem headBack_run (cursor mp ml qu fr ln se sl slot note next : Int) (hc : ((0 ≤ cursor ∧ cursor ≤ 18446744073709551615) ∧ (0 ≤ mp ∧ mp ≤ 18446744073709551615) ∧ (0 ≤ qu ∧ qu ≤ 18446744073709551615) ∧ (0 ≤ se ∧ se ≤ 18446744073709551615)) ∧ ((0 ≤ note ∧ note ≤ 18446744073709551615) ∧ (0 ≤ next ∧ next ≤ 18446744073709551615))) : Run (callN Try.prog (tblB9 : List (Smry Try.prog XE)) (fun _ _ => false) 100 20 9 [.c (.int false .u64 cursor), .agg [.int false .u64 mp, .int false .i64 ml, .int false .u64 qu, .int false .i64 fr, .int false .i64 ln, .int false .u64 se, .int false .i64 sl], .agg [.int false .i64 slot, .int false .u64 note, .int false .u64 next]] ⟨[], 0⟩ (.nil) (fun v _ _ => retTrue v)) := by
  constructor
  rw [headBack_vc]
  obtain ⟨⟨h0, h1, h2, h3⟩, h4, h5⟩ := hc
  repeat' first
    | with_reducible apply And.intro
    | with_reducible exact trivial
    | with_reducible assumption
    | with_reducible exact Eq.refl _
    | (intro (K : KO XE); simp only [eq_self, true_and, and_true, forall_const, true_implies, and_imp]; intros; (repeat' first | with_reducible apply And.intro | with_reducible assumption); done)
    | (intro hh; first | (have hv := verB_bd (Bool.and_eq_true _ _ ▸ hh : _ ∧ _).1) | (have hv := entB_bd hh) | skip)
  all_goals first
    | omega
    | (have e1 := smF_in (x := ml) (by omega); have e2 := smF_in (x := fr) (by omega); have e3 := smF_in (x := ln) (by omega); have e4 := smF_in (x := sl) (by omega); simp_all; done)
    | (have e1 := smF_in (x := slot) (by omega); simp_all; done)
    | (simp_all; done)
    | skip
end Go.Proofs.Ytcmoffcaiepgbaa
