/- Arenas told by what they hold (module Par): Free. -/
import Derived.Test.YtnkikhhiaecebaaBaseParL
import Derived.Test.YtnkikhhiaecebaaBaseAP4
set_option linter.all false
namespace Go.Proofs.Ytnkikhhiaecebaa
open Go Go.RowKit
set_option maxRecDepth 100000

def PA.fault (x : PA) : PA := { x with faults := x.faults + 1 }
theorem PA.find_eq (x : PA) (z : Nat → Value) (h : Nat) : ((x.ar z).find h).map (·.ws) = findP h x.bs := findP_eq z h x.bs 0
theorem blksOf_shift (z : Nat → Value) : ∀ (l : List (Nat × Nat × List Nat)) (i : Nat), blksOf z (i + 1) l = blksOf (fun j => z (j + 1)) i l
  | [], _ => rfl
  | (n, h, ws) :: l, i => by simp only [blksOf, blksOf_shift z l]
theorem blksOf_congr {z z' : Nat → Value} : ∀ {l : List (Nat × Nat × List Nat)} {i : Nat}, (∀ j, i ≤ j → z j = z' j) → blksOf z i l = blksOf z' i l
  | [], _, _ => rfl
  | (n, h, ws) :: l, i, e => by
    simp only [blksOf]
    rw [e i (Nat.le_refl _), blksOf_congr (l := l) fun j hj => e j (by omega)]
def freeB (h : Nat) : List (Nat × Nat × List Nat) → List (Nat × Nat × List Nat)
  | [] => []
  | (n, h', ws) :: l => bif Nat.beq h' h then l else (n, h', ws) :: freeB h l
theorem freeB_eq (h : Nat) : ∀ (l : List (Nat × Nat × List Nat)) (z : Nat → Value) (i : Nat), ∃ z', (blksOf z i l).eraseP (fun c => c.h == h) = blksOf z' i (freeB h l)
  | [], z, i => ⟨z, rfl⟩
  | (n, h', ws) :: l, z, i => by
    simp only [blksOf, freeB]
    rw [beq_dec]
    by_cases e : h' = h
    · rw [decide_eq_true e, cond_true, List.eraseP_cons_of_pos (by simpa using e), blksOf_shift]
      exact ⟨_, rfl⟩
    · rw [decide_eq_false e, cond_false, List.eraseP_cons_of_neg (by simpa using e)]
      obtain ⟨z', hz⟩ := freeB_eq h l z (i + 1)
      refine ⟨fun j => if j = i then z i else z' j, ?_⟩
      simp only [blksOf, if_true]
      rw [hz]
      congr 1
      exact blksOf_congr fun j hj => by rw [if_neg (by omega)]
def eraseN (a : Nat) : List Nat → List Nat
  | [] => []
  | x :: l => bif Nat.beq x a then l else x :: eraseN a l
theorem eraseN_eq (a : Nat) : ∀ l : List Nat, l.erase a = eraseN a l
  | [] => rfl
  | x :: l => by
    simp only [eraseN]
    rw [beq_dec]
    by_cases e : x = a
    · rw [decide_eq_true e, cond_true, e, List.erase_cons_head]
    · rw [decide_eq_false e, cond_false, List.erase_cons_tail (by simpa using e), eraseN_eq a l]
def PA.free (x : PA) (h : Nat) (k : Nat) : PA := { x with used := x.used - k, us := eraseN (h % 65536) x.us, bk := pushH x.bk (h % 65536), bs := freeB h x.bs, t := { x.t with frees := x.t.frees + 1 } }
def PA.frE (x : PA) (h : Int) : Int := match findP h.toNat x.bs with
  | some _ => 0
  | none => 23
def PA.frX (x : PA) (h : Int) : PA := match findP h.toNat x.bs with
  | some ws => x.free h.toNat ws.length
  | none => x.fault
def freeC : ArCall where
  g := 18
  sh := fun x xs => match xs with
    | [.c (.int _ .u64 h _)] => some (0 ≤ h ∧ h < 18446744073709551616, u64B h, .c (.int false .i64 (x.frE h)), x.frX h)
    | _ => none
  okB := fun x xs c cb v y hs hb => by
    split at hs <;> cases hs
    exact u64B_ok hb
  ok := fun x xs c cb v y hs ho => by
    split at hs <;> cases hs
    rename_i l1 h b1
    refine ⟨rfl, (by intro a ha; simp only [List.mem_singleton] at ha; subst ha; rfl), fun b z w R H => ?_⟩
    obtain ⟨h, rfl⟩ : ∃ k : Nat, h = k := ⟨h.toNat, by omega⟩
    have hT : h < TW := by unfold TW; omega
    unfold PA.frE PA.frX
    rw [Int.toNat_natCast]
    have hfe := PA.find_eq x z h
    cases hf : (x.ar z).find h with
    | none =>
      rw [hf] at hfe
      rw [← hfe]
      exact (free_none b h (x.ar z) w H hT hf).mono fun e w' ⟨he, hs, hk⟩ => ⟨he, ⟨z, hs⟩, hk⟩
    | some k =>
      rw [hf] at hfe
      rw [← hfe]
      obtain ⟨hbm, hbh⟩ := Ar.find_mem hf
      obtain ⟨_, _, hi, _⟩ := arAt_open H
      have hr := hi.range k hbm
      refine (free_yes b h (x.ar z) k w H hT hf).mono fun e w' ⟨he, hs, hk⟩ => ⟨he, ?_, hk⟩
      obtain ⟨z', hz⟩ := freeB_eq h x.bs z 0
      refine ⟨z', hs.cast ?_⟩
      have e1 : (x.ar z).free k = (x.free h k.ws.length).ar z' := by
        have e2 : k.n = h % 65536 := by omega
        unfold Ar.free PA.free PA.ar Stk.give
        simp only []
        rw [hbh, hz, e2, eraseN_eq]
      rw [e1]
      rfl
end Go.Proofs.Ytnkikhhiaecebaa

/- Arenas told by what they hold (module Par): what Lay leaves, whatever was freed. -/
namespace Go.Proofs.Ytnkikhhiaecebaa
open Go Go.RowKit
set_option maxRecDepth 100000

def PA.nextN (x : PA) : Nat := match x.bk with
  | [] => x.high + 1
  | k :: _ => k
def PA.hdlG (x : PA) : Nat := (x.births + 1) * 65536 + x.nextN
def PA.layG (x : PA) (ws : List Nat) : PA := { x with
  used := x.used + ws.length, peak := max x.peak (x.used + ws.length), births := x.births + 1,
  high := (match x.bk with | [] => x.high + 1 | _ => x.high), us := x.us ++ [x.nextN], bk := (match x.bk with | [] => [] | k :: l => popH (k :: l)),
  bs := appB x.nextN x.hdlG ws x.bs, t := { x.t with lays := x.t.lays + 1 } }
theorem PA.next_eq (x : PA) (z : Nat → Value) : (x.ar z).s.next = x.nextN := by
  unfold Stk.next PA.nextN
  show (match x.bk with | [] => x.high + 1 | n :: _ => n) = _
  cases x.bk <;> rfl
theorem PA.hdlG_eq (x : PA) (z : Nat → Value) : Go.Proofs.Ytnkikhhiaecebaa.hdlG (x.ar z) = x.hdlG := by
  unfold Go.Proofs.Ytnkikhhiaecebaa.hdlG PA.hdlG
  rw [PA.next_eq]
  rfl
theorem PA.layG_eq (x : PA) (z : Nat → Value) (ws : List Nat) (v : Value) : ∃ z', (x.ar z).layG ws v = (x.layG ws).ar z' := by
  obtain ⟨z', h⟩ := appB_eq (z := z) (v := v) (n := x.nextN) (h := x.hdlG) (ws := ws) x.bs 0
  refine ⟨z', ?_⟩
  have hn := PA.next_eq x z
  have hh : _root_.Go.Proofs.Ytnkikhhiaecebaa.hdlG (x.ar z) = x.hdlG := by
    unfold Go.Proofs.Ytnkikhhiaecebaa.hdlG PA.hdlG
    rw [hn]
    rfl
  unfold Ar.layG PA.layG
  rw [hn, hh]
  unfold PA.ar at *
  simp only []
  rw [h]
  have hs : (Stk.takeG ⟨x.high, x.us, x.bk⟩) = ⟨(match x.bk with | [] => x.high + 1 | _ => x.high), x.us ++ [x.nextN], (match x.bk with | [] => [] | k :: l => popH (k :: l))⟩ := by
    unfold Stk.takeG PA.nextN
    show (match x.bk with | [] => Stk.take ⟨x.high, x.us, x.bk⟩ | n :: l => _) = _
    cases hb : x.bk <;> simp [Stk.take]
  rw [hs]
end Go.Proofs.Ytnkikhhiaecebaa
