/- Arenas told by what they hold (module Par): what holds of all of them. No program in sight. -/
import Derived.Test.YtnkikhhiaecebaaBaseLayI
import Derived.Test.YtnkikhhiaecebaaBaseAP3
import Derived.Test.YtnkikhhiaecebaaBaseParL
import Derived.Test.YtnkikhhiaecebaaBaseErr
set_option linter.all false
namespace Go.Proofs.Ytnkikhhiaecebaa
open Go Go.RowKit
set_option maxRecDepth 100000
theorem blksOf_key (z : Nat → Value) : ∀ (l : List (Nat × Nat × List Nat)) (i : Nat), (blksOf z i l).map key3 = l
  | [], _ => rfl
  | (n, h, ws) :: l, i => by simp only [blksOf, List.map_cons, blksOf_key z l, key3]
theorem PA.Inv.hds {x : PA} (h : x.Inv) : x.births ≤ 268435455 ∧ ∀ y ∈ x.bs, y.2.1 / 65536 ≤ x.births ∧ 1 ≤ y.2.1 / 65536 ∧ y.2.1 % 65536 = y.1 ∧ 1 ≤ y.2.2.length ∧ y.2.2.length ≤ 2048 := by
  obtain ⟨z, hi⟩ := h
  refine ⟨hi.births, fun y hy => ?_⟩
  have e := blksOf_key z x.bs 0
  rw [← e] at hy
  obtain ⟨b, hb, rfl⟩ := List.mem_map.1 hy
  obtain ⟨_, _, h3, h4, h5, h6, h7⟩ := hi.range b hb
  exact ⟨h5, h4, h3, h6, h7⟩

theorem PA.Inv.nd {x : PA} (h : x.Inv) : (x.bs.map fun b => b.2.1).Nodup := by
  obtain ⟨z, hi⟩ := h
  have e := blksOf_key z x.bs 0
  rw [← e, List.map_map]
  have h1 : ((blksOf z 0 x.bs).map fun b => b.h / 65536).Nodup := hi.births'
  have e2 : (blksOf z 0 x.bs).map (fun b => b.h / 65536) = ((blksOf z 0 x.bs).map ((fun b => b.2.1) ∘ key3)).map (· / 65536) := by
    rw [List.map_map]; rfl
  rw [e2] at h1
  exact List.Pairwise.of_map (S := (· ≠ ·)) (· / 65536) (fun a b hab e => hab (by rw [e])) h1

theorem PA.Inv.next {x : PA} (h : x.Inv) : x.nextN < 65536 := by
  obtain ⟨z, hi⟩ := h
  have hm : x.high ≤ 60000 := hi.hmax
  unfold PA.nextN
  cases hb : x.bk with
  | nil => show x.high + 1 < 65536; omega
  | cons k l =>
    have := hi.backs k (by show k ∈ x.bk; rw [hb]; exact List.mem_cons_self)
    have h2 : k ≤ x.high := this.2.1
    show k < 65536
    omega

theorem findP_mem {h : Nat} {ws : List Nat} : ∀ {l : List (Nat × Nat × List Nat)}, findP h l = some ws → ∃ n, (n, h, ws) ∈ l
  | [], e => by cases e
  | (n, h', ws') :: l, e => by
    simp only [findP] at e
    rw [beq_dec] at e
    by_cases e1 : h' = h
    · subst e1
      rw [decide_eq_true rfl, cond_true] at e
      cases e
      exact ⟨n, List.mem_cons_self⟩
    · rw [decide_eq_false e1, cond_false] at e
      obtain ⟨m, hm⟩ := findP_mem e
      exact ⟨m, List.mem_cons_of_mem _ hm⟩

theorem PA.Inv.words {x : PA} (h : x.Inv) : ∀ y ∈ x.bs, ∀ u ∈ y.2.2, u < TW := by
  obtain ⟨z, hi⟩ := h
  intro y hy
  rw [← blksOf_key z x.bs 0] at hy
  obtain ⟨b, hb, rfl⟩ := List.mem_map.1 hy
  exact hi.words b hb

theorem PA.Inv.fixed {x : PA} (h : x.Inv) (i : Nat) : x.fx.getD i 0 < TW := by
  obtain ⟨z, hi⟩ := h
  exact hi.fixed i

theorem PA.Inv.sum {x : PA} (h : x.Inv) : x.used = (x.bs.map fun b => b.2.2.length).sum := by
  obtain ⟨z, hi⟩ := h
  have e1 : x.used = ((blksOf z 0 x.bs).map fun b => b.ws.length).sum := hi.sum
  have e2 : (x.bs.map fun b => b.2.2.length) = (((blksOf z 0 x.bs).map key3).map fun b => b.2.2.length) := by rw [blksOf_key]
  rw [e1, e2, List.map_map]
  rfl

theorem findP_of_mem {h n : Nat} {ws : List Nat} : ∀ {l : List (Nat × Nat × List Nat)}, (l.map fun b => b.2.1).Nodup → (n, h, ws) ∈ l → findP h l = some ws
  | [], _, hm => by cases hm
  | (n', h', ws') :: l, hn, hm => by
    have h1 := List.nodup_cons.1 hn
    simp only [findP]
    rw [beq_dec]
    rcases List.mem_cons.1 hm with e | hm
    · cases e
      rw [decide_eq_true rfl, cond_true]
    · have hne : h' ≠ h := fun e => h1.1 (List.mem_map.2 ⟨_, hm, e.symm⟩)
      rw [decide_eq_false hne, cond_false]
      exact findP_of_mem h1.2 hm

end Go.Proofs.Ytnkikhhiaecebaa

/- Arenas told by what they hold (module Par): all calls, whatever was freed, at whatever addresses. -/
namespace Go.Proofs.Ytnkikhhiaecebaa
open Go Go.RowKit
set_option maxRecDepth 100000

def PA.wordI (x : PA) (h i : Int) : Option Nat := bif leI 0 i then x.word h.toNat i.toNat else none
theorem PA.wordI_eq (x : PA) (z : Nat → Value) (h i : Int) : (x.ar z).wordI h i = x.wordI h i := by
  unfold Ar.wordI PA.wordI
  rw [leI_dec]
  by_cases e : 0 ≤ i
  · rw [if_pos e, decide_eq_true e, PA.word_eq]; rfl
  · rw [if_neg e, decide_eq_false e]; rfl
def PA.errI (x : PA) (h : Int) : Int := bif eqI h 0 then 24 else match findP h.toNat x.bs with
  | none => 23
  | some _ => 24
theorem PA.errI_eq (x : PA) (z : Nat → Value) (h : Int) : (x.ar z).errI h = x.errI h := by
  unfold Ar.errI PA.errI
  rw [eqI_dec, ← PA.find_eq x z]
  by_cases e : h = 0
  · rw [decide_eq_true e, if_neg (fun k => k.1 e)]; rfl
  · rw [decide_eq_false e]
    cases hf : (x.ar z).find h.toNat with
    | none => rw [if_pos ⟨e, rfl⟩]; rfl
    | some b => rw [if_neg (fun k => by cases k.2)]; rfl
def PA.rdV (x : PA) (h i : Int) : Int := match x.wordI h i with
  | some r => (r : Int)
  | none => 0
def PA.atE (x : PA) (h i : Int) : Int := match x.wordI h i with
  | some _ => 0
  | none => x.errI h
def PA.rdX (x : PA) (h i : Int) : PA := match x.wordI h i with
  | some _ => x.read
  | none => x.fault
def PA.wrX (x : PA) (h i y : Int) : PA := match x.wordI h i with
  | some _ => x.write h.toNat i.toNat y.toNat
  | none => x.fault
def PA.adX (x : PA) (h i y : Int) : PA := match x.wordI h i with
  | some _ => x.add h.toNat i.toNat y.toNat
  | none => x.fault
def PA.swB (x : PA) (h i o : Int) : Bool := match x.wordI h i with
  | some r => eqI r o
  | none => false
def PA.swX (x : PA) (h i o y : Int) : PA := match x.wordI h i with
  | some r => bif eqI r o then (x.set h.toNat i.toNat y.toNat).tick fun t => { t with swaps := t.swaps + 1 } else x.tick fun t => { t with swaps := t.swaps + 1 }
  | none => x.fault
def PA.AtOk (x : PA) (h : Int) : Prop := (0 ≤ h ∧ h < 18446744073709551616) ∧ x.fx.length = 9
def PA.atB (x : PA) (h : Int) : Bool := u64B h && Nat.beq x.fx.length 9
theorem PA.atB_ok {x : PA} {h : Int} (e : x.atB h = true) : x.AtOk h := by
  unfold PA.atB at e
  simp only [Bool.and_eq_true] at e
  exact ⟨u64B_ok e.1, Nat.eq_of_beq_eq_true e.2⟩
theorem PA.has_of {x : PA} {h i : Int} (ho : x.AtOk h) {r : Nat} (hw : x.wordI h i = some r) : x.Has h i ∧ x.rd h i = r := by
  unfold PA.wordI at hw
  rw [leI_dec] at hw
  by_cases e : 0 ≤ i
  · rw [decide_eq_true e, cond_true] at hw
    exact ⟨⟨ho.1, e, by rw [hw]; rfl, ho.2⟩, by unfold PA.rd; rw [hw]; rfl⟩
  · rw [decide_eq_false e] at hw
    cases hw
def readC : ArCall where
  g := readX.g
  sh := fun x xs => match xs with
    | [.agg [.int _ .u64 h _, .int _ .i64 i _]] => some (x.AtOk h, x.atB h, .tup [(false, [.int false .u64 (x.rdV h i)]), (false, [.int false .i64 (x.atE h i)])], x.rdX h i)
    | _ => none
  okB := fun x xs c cb v y hs hb => by
    split at hs <;> cases hs
    exact PA.atB_ok hb
  ok := fun x xs c cb v y hs ho => by
    split at hs <;> cases hs
    rename_i l1 h b1 l2 i b2
    refine ⟨rfl, (by intro a ha; simp only [List.mem_singleton] at ha; subst ha; rfl), fun b z w R H => ?_⟩
    unfold PA.rdV PA.atE PA.rdX
    cases hw : x.wordI h i with
    | some r =>
      obtain ⟨hh, hr⟩ := PA.has_of ho hw
      obtain ⟨h1, h2, _⟩ := hh.ok z
      refine (calls_smry (S := readX) (xs := [.agg [.int l1 .u64 h b1, .int l2 .i64 i b2]]) (v := .tup [nat64 r, okE]) (A := x.ar z) (B := (PA.read x).ar z) ?_ (by intro a ha; simp only [List.mem_singleton] at ha; subst ha; rfl) rfl H).mono fun e w' ⟨he, hs, hk⟩ => ⟨he, ⟨z, hs⟩, hk⟩
      simp only [readX, SH.get, if_true]
      exact ⟨h1, by rw [h2, hr], rfl⟩
    | none =>
      have hn : (x.ar z).wordI h i = none := by rw [PA.wordI_eq]; exact hw
      refine (calls_ar (xs := [.agg [.int false .u64 h, .int false .i64 i]]) (readE_run (x.ar z) h i ⟨ho.1, hn⟩) (by intro a ha; simp only [List.mem_singleton] at ha; subst ha; rfl) rfl H).mono fun e w' ⟨he, hs, hk⟩ => ⟨?_, ⟨z, hs⟩, hk⟩
      rw [he, PA.errI_eq]
      rfl
def writeC : ArCall where
  g := writeX.g
  sh := fun x xs => match xs with
    | [.agg [.int _ .u64 h _, .int _ .i64 i _], .c (.int _ .u64 y _)] => some (x.AtOk h ∧ 0 ≤ y ∧ y < 18446744073709551616, x.atB h && u64B y, .c (.int false .i64 (x.atE h i)), x.wrX h i y)
    | _ => none
  okB := fun x xs c cb v y hs hb => by
    split at hs <;> cases hs
    simp only [Bool.and_eq_true] at hb
    exact ⟨PA.atB_ok hb.1, u64B_ok hb.2⟩
  ok := fun x xs c cb v y hs ho => by
    split at hs <;> cases hs
    rename_i l1 h b1 l2 i b2 l3 y b3
    obtain ⟨ho, hy⟩ := ho
    have hnm : ∀ a ∈ [SV.agg [.int l1 .u64 h b1, .int l2 .i64 i b2], .c (.int l3 .u64 y b3)], a.names = [] := by intro a ha; simp only [List.mem_cons, List.not_mem_nil, or_false] at ha; rcases ha with rfl | rfl <;> rfl
    refine ⟨rfl, hnm, fun b z w R H => ?_⟩
    unfold PA.atE PA.wrX
    cases hw : x.wordI h i with
    | some r =>
      obtain ⟨hh, hr⟩ := PA.has_of ho hw
      obtain ⟨h1, h2, h3⟩ := hh.ok z
      refine (calls_smry (S := writeX) (xs := [.agg [.int l1 .u64 h b1, .int l2 .i64 i b2], .c (.int l3 .u64 y b3)]) (v := .c (.int true .i64 0)) (A := x.ar z) (B := (x.write h.toNat i.toNat y.toNat).ar z) ?_ hnm rfl H).mono fun e w' ⟨he, hs, hk⟩ => ⟨he, ⟨z, hs⟩, hk⟩
      simp only [writeX, SH.get, if_true]
      refine ⟨h1, hy, trivial, ?_⟩
      simp only [SH.set, if_true]
      rw [Ar.write, PA.set_eq x z _ _ _ h3]
      rfl
    | none =>
      have hn : (x.ar z).wordI h i = none := by rw [PA.wordI_eq]; exact hw
      refine (calls_ar (xs := [.agg [.int false .u64 h, .int false .i64 i], .c (.int false .u64 y)]) (writeE_run (x.ar z) h i y ⟨ho.1, hn⟩) (by intro a ha; simp only [List.mem_cons, List.not_mem_nil, or_false] at ha; rcases ha with rfl | rfl <;> rfl) rfl H).mono fun e w' ⟨he, hs, hk⟩ => ⟨?_, ⟨z, hs⟩, hk⟩
      rw [he, PA.errI_eq]
def addC : ArCall where
  g := addX.g
  sh := fun x xs => match xs with
    | [.agg [.int _ .u64 h _, .int _ .i64 i _], .c (.int _ .u64 y _)] => some (x.AtOk h ∧ 0 ≤ y ∧ y < 18446744073709551616, x.atB h && u64B y, .tup [(false, [.int false .u64 (x.rdV h i)]), (false, [.int false .i64 (x.atE h i)])], x.adX h i y)
    | _ => none
  okB := fun x xs c cb v y hs hb => by
    split at hs <;> cases hs
    simp only [Bool.and_eq_true] at hb
    exact ⟨PA.atB_ok hb.1, u64B_ok hb.2⟩
  ok := fun x xs c cb v y hs ho => by
    split at hs <;> cases hs
    rename_i l1 h b1 l2 i b2 l3 y b3
    obtain ⟨ho, hy⟩ := ho
    have hnm : ∀ a ∈ [SV.agg [.int l1 .u64 h b1, .int l2 .i64 i b2], .c (.int l3 .u64 y b3)], a.names = [] := by intro a ha; simp only [List.mem_cons, List.not_mem_nil, or_false] at ha; rcases ha with rfl | rfl <;> rfl
    refine ⟨rfl, hnm, fun b z w R H => ?_⟩
    unfold PA.rdV PA.atE PA.adX
    cases hw : x.wordI h i with
    | some r =>
      obtain ⟨hh, hr⟩ := PA.has_of ho hw
      obtain ⟨h1, h2, h3⟩ := hh.ok z
      refine (calls_smry (S := addX) (xs := [.agg [.int l1 .u64 h b1, .int l2 .i64 i b2], .c (.int l3 .u64 y b3)]) (v := .tup [nat64 r, okE]) (A := x.ar z) (B := (x.add h.toNat i.toNat y.toNat).ar z) ?_ hnm rfl H).mono fun e w' ⟨he, hs, hk⟩ => ⟨he, ⟨z, hs⟩, hk⟩
      simp only [addX, SH.get, if_true]
      refine ⟨h1, hy, by rw [h2, hr], ?_⟩
      simp only [SH.set, if_true]
      rw [Ar.add, h2, PA.set_eq x z _ _ _ h3]
      rfl
    | none =>
      have hn : (x.ar z).wordI h i = none := by rw [PA.wordI_eq]; exact hw
      refine (calls_ar (xs := [.agg [.int false .u64 h, .int false .i64 i], .c (.int false .u64 y)]) (addE_run (x.ar z) h i y ⟨ho.1, hn⟩) (by intro a ha; simp only [List.mem_cons, List.not_mem_nil, or_false] at ha; rcases ha with rfl | rfl <;> rfl) rfl H).mono fun e w' ⟨he, hs, hk⟩ => ⟨?_, ⟨z, hs⟩, hk⟩
      rw [he, PA.errI_eq]
      rfl
def swapC : ArCall where
  g := swapX.g
  sh := fun x xs => match xs with
    | [.agg [.int _ .u64 h _, .int _ .i64 i _], .c (.int _ .u64 o _), .c (.int _ .u64 y _)] => some (x.AtOk h ∧ (0 ≤ y ∧ y < 18446744073709551616) ∧ 0 ≤ o, x.atB h && (u64B y && leI 0 o), .tup [(false, [.boo false (x.swB h i o)]), (false, [.int false .i64 (x.atE h i)])], x.swX h i o y)
    | _ => none
  okB := fun x xs c cb v y hs hb => by
    split at hs <;> cases hs
    simp only [Bool.and_eq_true] at hb
    exact ⟨PA.atB_ok hb.1, u64B_ok hb.2.1, leI_le hb.2.2⟩
  ok := fun x xs c cb v y hs ho => by
    split at hs <;> cases hs
    rename_i l1 h b1 l2 i b2 l4 o b4 l3 y b3
    obtain ⟨ho, hy, ho0⟩ := ho
    have hnm : ∀ a ∈ [SV.agg [.int l1 .u64 h b1, .int l2 .i64 i b2], .c (.int l4 .u64 o b4), .c (.int l3 .u64 y b3)], a.names = [] := by intro a ha; simp only [List.mem_cons, List.not_mem_nil, or_false] at ha; rcases ha with rfl | rfl | rfl <;> rfl
    refine ⟨rfl, hnm, fun b z w R H => ?_⟩
    unfold PA.swB PA.atE PA.swX
    cases hw : x.wordI h i with
    | some r =>
      obtain ⟨hh, hr⟩ := PA.has_of ho hw
      obtain ⟨h1, h2, h3⟩ := hh.ok z
      have hB : (x.ar z).swap h i o y = (bif eqI r o then (x.set h.toNat i.toNat y.toNat).tick fun t => { t with swaps := t.swaps + 1 } else x.tick fun t => { t with swaps := t.swaps + 1 }).ar z := by
        unfold Ar.swap
        rw [h2, hr, eqI_dec]
        by_cases e : (r : Int) = o
        · rw [if_pos e, decide_eq_true e, PA.set_eq x z _ _ _ h3]; rfl
        · rw [if_neg e, decide_eq_false e]; rfl
      refine (calls_smry (S := swapX) (xs := [.agg [.int l1 .u64 h b1, .int l2 .i64 i b2], .c (.int l4 .u64 o b4), .c (.int l3 .u64 y b3)]) (v := .tup [(false, [.boo false (eqI r o)]), okE]) (A := x.ar z) ?_ hnm rfl H).mono fun e w' ⟨he, hs, hk⟩ => ⟨he, ⟨z, hs⟩, hk⟩
      simp only [swapX, SH.get, if_true]
      refine ⟨h1, hy, ho0, by rw [h2, hr, eqI_dec], ?_⟩
      simp only [SH.set, if_true]
      rw [hB]
    | none =>
      have hn : (x.ar z).wordI h i = none := by rw [PA.wordI_eq]; exact hw
      refine (calls_ar (xs := [.agg [.int false .u64 h, .int false .i64 i], .c (.int false .u64 o), .c (.int false .u64 y)]) (swapE_run (x.ar z) h i o y ⟨ho.1, hn⟩) (by intro a ha; simp only [List.mem_cons, List.not_mem_nil, or_false] at ha; rcases ha with rfl | rfl | rfl <;> rfl) rfl H).mono fun e w' ⟨he, hs, hk⟩ => ⟨?_, ⟨z, hs⟩, hk⟩
      rw [he, PA.errI_eq]
      rfl

def PA.szV (x : PA) (h : Int) : Nat := match findP h.toNat x.bs with
  | some ws => ws.length
  | none => 0
def sizeC : ArCall where
  g := 25
  sh := fun x xs => match xs with
    | [.c (.int _ .u64 h _)] => some (0 ≤ h ∧ h < 18446744073709551616, u64B h, .c (.int false .i64 (x.szV h : Nat)), x)
    | _ => none
  okB := fun x xs c cb v y hs hb => by
    split at hs <;> cases hs
    exact u64B_ok hb
  ok := fun x xs c cb v y hs ho => by
    split at hs <;> cases hs
    rename_i l1 h b1
    refine ⟨rfl, (by intro a ha; simp only [List.mem_singleton] at ha; subst ha; rfl), fun b z w R H => ?_⟩
    obtain ⟨h, rfl⟩ : ∃ k : Nat, h = k := ⟨h.toNat, by omega⟩
    have hT : h < TW := by unfold TW; omega
    have e : (((x.ar z).find h).map fun b => b.ws.length).getD 0 = x.szV (h : Int) := by
      unfold PA.szV
      rw [Int.toNat_natCast, ← PA.find_eq x z]
      cases (x.ar z).find h <;> rfl
    refine (size_any b h (x.ar z) w H hT).mono fun e' w' ⟨he, hb⟩ => ⟨?_, ⟨z, H.below hb⟩, (Kept.refl w).below hb⟩
    rw [he, e]
    rfl
theorem ar_len (p : Nat) (A : Ar) (w : World) {R : Assn} (H : Sat w (arAt p A * R)) :
    Calls Try.prog 23 #[.pointer (some ⟨p, 0, none⟩)] w fun e w' => e = .returned (.int .i64 (A.bs.length : Nat)) ∧ w = w' := by
  obtain ⟨ps, pb, _, H1⟩ := arAt_open H
  have hc : w.cell? ⟨p, 15, none⟩ = some (.map (some pb)) := H1.cell 15
  have hlen : ∀ ty, (Builtin.len_ #[170] ty #[.map (some pb)]).run Try.prog w = .ok (.int .i64 (A.bs.length : Int)) w := fun ty => by
    obtain ⟨es, clock, hl, h5⟩ := mapAt_open (H1.cast (Q := mapAt pb (A.bs.map ent) * (own p (.cells (arCells A ps pb) 172 (0, 0)) * (stkAt ps A.s * (rowsAt A.bs * R)))) (by ac_rfl))
    have hsz : es.size = A.bs.length := by
      have := congrArg List.length hl.1
      simpa using this
    simp [Builtin.len_, run_underlying Try.underlying170, goInt, MapKept.run_getObj_map h5.block, Result.andThen, hsz]
  clear H H1
  go_enter Try.func23, Try.ntmps23
  go_wp2
  go_ret
  exact ⟨rfl, rfl⟩
theorem ar_peak (p : Nat) (A : Ar) (w : World) {R : Assn} (H : Sat w (arAt p A * R)) :
    Calls Try.prog 22 #[.pointer (some ⟨p, 0, none⟩)] w fun e w' => e = .returned (.int .i64 (A.peak : Nat)) ∧ w = w' := by
  obtain ⟨ps, pb, _, H1⟩ := arAt_open H
  have hc := H1.cell 2
  simp [arCells] at hc
  clear H H1
  go_enter Try.func22, Try.ntmps22
  go_wp2
  go_ret
  exact ⟨rfl, rfl⟩
theorem ar_cap (p : Nat) (A : Ar) (w : World) {R : Assn} (H : Sat w (arAt p A * R)) :
    Calls Try.prog 20 #[.pointer (some ⟨p, 0, none⟩)] w fun e w' => e = .returned (.int .i64 (A.cap : Nat)) ∧ w = w' := by
  obtain ⟨ps, pb, _, H1⟩ := arAt_open H
  have hc := H1.cell 0
  simp [arCells] at hc
  clear H H1
  go_enter Try.func20, Try.ntmps20
  go_wp2
  go_ret
  exact ⟨rfl, rfl⟩
def tellC (g : FuncId) (f : PA → Nat) (h : ∀ (x : PA) (b : Nat) (z : Nat → Value) (w : World) (R : Assn), Sat w (arAt b (x.ar z) * R) → Calls Try.prog g #[.pointer (some ⟨b, 0, none⟩)] w fun e w' => e = .returned (.int .i64 (f x : Nat)) ∧ w = w') : ArCall where
  g := g
  sh := fun x xs => match xs with
    | [] => some (True, true, .c (.int false .i64 (f x : Nat)), x)
    | _ => none
  okB := fun x xs c cb v y hs hb => by
    split at hs <;> cases hs
    trivial
  ok := fun x xs c cb v y hs ho => by
    split at hs <;> cases hs
    refine ⟨rfl, (by intro a ha; cases ha), fun b z w R H => ?_⟩
    exact (h x b z w R H).mono fun e w' ⟨he, hw⟩ => ⟨he, ⟨z, hw ▸ H⟩, hw ▸ Kept.refl w⟩
theorem blksOf_len (z : Nat → Value) : ∀ (l : List (Nat × Nat × List Nat)) (i : Nat), (blksOf z i l).length = l.length
  | [], _ => rfl
  | (n, h, ws) :: l, i => by simp only [blksOf, List.length_cons, blksOf_len z l]
def lenC : ArCall := tellC 23 (fun x => x.bs.length) fun x b z w R H => (ar_len b (x.ar z) w H).mono fun e w' ⟨he, hw⟩ => ⟨by rw [he]; show _ = Ending.returned (.int .i64 ((x.bs.length : Nat) : Int)); rw [← blksOf_len z x.bs 0]; rfl, hw⟩
def peakC : ArCall := tellC 22 PA.peak fun x b z w R H => ar_peak b (x.ar z) w H
def capC : ArCall := tellC 20 PA.cap fun x b z w R H => ar_cap b (x.ar z) w H
def usedC : ArCall := tellC 21 PA.used fun x b z w R H => ar_used b (x.ar z) w H
end Go.Proofs.Ytnkikhhiaecebaa
