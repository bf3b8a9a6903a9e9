/- Arenas told by what they hold (module Par): all calls, whatever was freed, at whatever addresses. -/
import Derived.Test.YtnfpkadepomjjaaBaseErr
set_option linter.all false
namespace Go.Proofs.Ytnfpkadepomjjaa
open Go Go.RowKit
set_option maxRecDepth 100000

/-- What holds of every arena. -/
def PA.Inv (x : PA) : Prop := ∃ z, ArInv (x.ar z)
theorem par_inv {ν : Nat → Nat} {b : Nat} {x : PA} {w : World} {R : Assn} (H : Sat w ((parO x).den ν b * R)) : PA.Inv x := by
  obtain ⟨z, H⟩ := par_open H
  obtain ⟨_, _, hi, _⟩ := arAt_open H
  exact ⟨z, hi⟩
/-- A call of an arena: by its arguments what must hold (and a test for it), what it hands back, what it leaves. -/
structure ArCall where
  g : FuncId
  sh : PA → List SV → Option (Prop × Bool × SV × PA)
  okB : ∀ x xs c cb v y, sh x xs = some (c, cb, v, y) → cb = true → c
  ok : ∀ x xs c cb v y, sh x xs = some (c, cb, v, y) → c → v.names = [] ∧ (∀ a ∈ xs, a.names = []) ∧ ∀ b z w R, Sat w (arAt b (x.ar z) * R) →
    Calls Try.prog g (.pointer (some ⟨b, 0, none⟩) :: xs.map (SV.den fun _ => 0)).toArray w fun e w' => e = .returned (v.den fun _ => 0) ∧ (∃ z', Sat w' (arAt b (y.ar z') * R)) ∧ Kept w w'
theorem ArCall.gives (S : ArCall) {n : Nat} {xs : List SV} {m : MP} {K : SV → MP → Prop} {x y : PA} {v : SV} {c : Prop} {cb : Bool} (hx : m.hp.get n = some (parO x)) (hs : S.sh x xs = some (c, cb, v, y)) (hc : c)
    (hk : PA.Inv x → K v ⟨m.hp.set n (parO y), m.nx⟩) : Gives Try.prog S.g (.c (.ptr n 0) :: xs) m K := fun ν w R w0 H HK => by
  obtain ⟨hv, has, hcall⟩ := S.ok x xs c cb v y hs hc
  rw [SH.den_get ν hx, Assn.mul_assoc] at H
  have hinv := par_inv H
  obtain ⟨z, H⟩ := par_open H
  have eargs : (SV.c (.ptr n 0) :: xs).map (SV.den ν) = .pointer (some ⟨ν n, 0, none⟩) :: xs.map (SV.den fun _ => 0) := by
    simp only [List.map_cons]
    congr 1
    apply List.map_congr_left
    intro u hu
    exact SV.den_eq u (by rw [has u hu]; intro k hk; cases hk)
  rw [eargs]
  refine (hcall (ν n) z w _ H).mono ?_
  rintro e w' ⟨he, ⟨z', hs'⟩, hk'⟩
  refine ⟨v, _, ν, hk hinv, Agree.refl _ _, Nat.le_refl _, ?_, ?_, HK.trans hk'⟩
  · rw [he]
    congr 1
    exact SV.den_eq v (by rw [hv]; intro k hk; cases hk)
  · rw [SH.den_set ν hx, Assn.mul_assoc]
    exact par_shut hs'
/-- As a summary, where not all is known. -/
def ArCall.R (S : ArCall) : Smry Try.prog XP where
  g := S.g
  run := fun args m K => match args with
    | .c (.ptr n 0) :: xs => match m.hp.get n with
      | some (.ext (.obj [] x)) => match S.sh x xs with
        | some (c, _, v, y) => c ∧ (PA.Inv x → K v ⟨m.hp.set n (parO y), m.nx⟩)
        | none => Stuck 950
      | _ => Stuck 951
    | _ => Stuck 952
  ok := fun args m K hr => by
    split at hr <;> try exact hr.elim
    rename_i n xs
    split at hr <;> try exact hr.elim
    rename_i x hx
    split at hr <;> try exact hr.elim
    rename_i c cb v y hs
    exact S.gives hx hs hr.1 hr.2
/-- As a summary, where all is known. -/
def ArCall.K (S : ArCall) : Smry Try.prog XP where
  g := S.g
  run := fun args m K => match args with
    | .c (.ptr n 0) :: xs => match m.hp.get n with
      | some (.ext (.obj [] x)) => match S.sh x xs with
        | some (_, cb, v, y) => bif cb then goP m n v y K else Stuck 953
        | none => Stuck 954
      | _ => Stuck 955
    | _ => Stuck 956
  ok := fun args m K hr => by
    split at hr <;> try exact hr.elim
    rename_i n xs
    split at hr <;> try exact hr.elim
    rename_i x hx
    split at hr <;> try exact hr.elim
    rename_i c cb v y hs
    cases hb : cb <;> rw [hb] at hr
    · exact hr.elim
    obtain ⟨u, hu, e⟩ := goP_of hr
    exact gives_den e hu (S.gives hx hs (S.okB x xs c cb v y hs hb) fun _ => ⟨rfl, rfl⟩)

/-- From a run of the executor with one arena to a contract. -/
theorem calls_ar {g : FuncId} {xs : List SV} {T : List (Smry Try.prog XE)} {wr : FuncId → Nat → Bool} {LF k : Nat} {s : Scr XE} {A B : Ar} {res : SV}
    (run : Run (callN Try.prog T wr LF k g (.c (.ptr 0 0) :: xs) ⟨[(0, arO A)], 100⟩ s fun v m _ => outM res [(0, arO B)] v m)) (hx : ∀ a ∈ xs, a.names = []) (hr : res.names = []) {b : Nat} {w : World} {R : Assn} (H : Sat w (arAt b A * R)) :
    Calls Try.prog g (.pointer (some ⟨b, 0, none⟩) :: xs.map (SV.den fun _ => 0)).toArray w fun e w' => e = .returned (res.den fun _ => 0) ∧ Sat w' (arAt b B * R) ∧ Kept w w' := by
  have H1 : Sat w ((⟨[(0, arO A)], 100⟩ : MX).hp.den (fun _ => b) * R) := H.cast (by
    simp only [SH.den, SO.den, XE, XO.den]
    rw [Assn.mul_comm (arAt _ _) (1 : Assn), Assn.one_mul])
  have eargs : (SV.c (.ptr 0 0) :: xs).map (SV.den fun _ => b) = .pointer (some ⟨b, 0, none⟩) :: xs.map (SV.den fun _ => 0) := by
    simp only [List.map_cons]
    congr 1
    apply List.map_congr_left
    intro u hu
    exact SV.den_eq u (by rw [hx u hu]; intro k hk; cases hk)
  rw [← eargs]
  refine (callN_ok namesOk mixed T wr LF k g _ ⟨[(0, arO A)], 100⟩ s _ run.out (fun _ => b) w R w H1 (Kept.refl w)).mono ?_
  rintro e w' ⟨v, m', s', ξ, ho, ag, _, he, hs, hk⟩
  obtain ⟨κ, agk, hv, hs⟩ := outM_sound ho hs
  have k0 : κ 0 = b := by rw [agk 0 (by decide), ag 0 (by show 0 < 100; decide)]
  refine ⟨?_, ?_, hk⟩
  · rw [he, hv]
    congr 1
    exact SV.den_eq res (by rw [hr]; intro k hk; cases hk)
  · refine hs.cast ?_
    simp only [SH.den, SO.den, XE, XO.den, k0]
    rw [Assn.mul_comm (arAt _ _) (1 : Assn), Assn.one_mul]
/-- The same of a contract of the executor's (module SumAr). -/
theorem calls_smry {S : Smry Try.prog XE} {xs : List SV} {A B : Ar} {v : SV} (run : S.run (.c (.ptr 0 0) :: xs) ⟨[(0, arO A)], 1⟩ fun u m' => u = v ∧ m'.hp = [(0, arO B)]) (hx : ∀ a ∈ xs, a.names = []) (hr : v.names = []) {b : Nat} {w : World} {R : Assn} (H : Sat w (arAt b A * R)) :
    Calls Try.prog S.g (.pointer (some ⟨b, 0, none⟩) :: xs.map (SV.den fun _ => 0)).toArray w fun e w' => e = .returned (v.den fun _ => 0) ∧ Sat w' (arAt b B * R) ∧ Kept w w' := by
  have H1 : Sat w ((⟨[(0, arO A)], 1⟩ : MX).hp.den (fun _ => b) * R) := H.cast (by
    simp only [SH.den, SO.den, XE, XO.den]
    rw [Assn.mul_comm (arAt _ _) (1 : Assn), Assn.one_mul])
  have eargs : (SV.c (.ptr 0 0) :: xs).map (SV.den fun _ => b) = .pointer (some ⟨b, 0, none⟩) :: xs.map (SV.den fun _ => 0) := by
    simp only [List.map_cons]
    congr 1
    apply List.map_congr_left
    intro u hu
    exact SV.den_eq u (by rw [hx u hu]; intro k hk; cases hk)
  rw [← eargs]
  refine (S.ok _ _ _ run (fun _ => b) w R w H1 (Kept.refl w)).mono ?_
  rintro e w' ⟨u, m', μ, ⟨rfl, hm⟩, ag, hn, he, hs, hk⟩
  have h0 : μ 0 = b := ag 0 (Nat.lt_succ_self 0)
  rw [hm] at hs
  refine ⟨?_, ?_, hk⟩
  · rw [he]
    congr 1
    exact SV.den_eq u (by rw [hr]; intro k hk; cases hk)
  · refine hs.cast ?_
    simp only [SH.den, SO.den, XE, XO.den, h0]
    rw [Assn.mul_comm (arAt _ _) (1 : Assn), Assn.one_mul]

def PA.fault (x : PA) : PA := { x with faults := x.faults + 1 }
theorem PA.fault_eq (x : PA) (z : Nat → Value) : (x.ar z).fault = x.fault.ar z := rfl
def PA.wordI (x : PA) (h i : Int) : Option Nat := bif leI 0 i then x.word h.toNat i.toNat else none
theorem le_leI {a b : Int} (h : a ≤ b) : leI a b = true := by
  cases a <;> cases b <;> simp only [leI, Nat.ble_eq, Int.ofNat_eq_natCast] at * <;> omega
theorem leI_dec (a b : Int) : leI a b = decide (a ≤ b) := by
  by_cases e : a ≤ b
  · rw [decide_eq_true e]; exact le_leI e
  · rw [decide_eq_false e]
    cases hb : leI a b
    · rfl
    · exact absurd (leI_le hb) e
theorem PA.wordI_eq (x : PA) (z : Nat → Value) (h i : Int) : (x.ar z).wordI h i = x.wordI h i := by
  unfold Ar.wordI PA.wordI
  rw [leI_dec]
  by_cases e : 0 ≤ i
  · rw [if_pos e, decide_eq_true e, PA.word_eq]; rfl
  · rw [if_neg e, decide_eq_false e]; rfl
def PA.errI (x : PA) (h : Int) : Int := bif eqI h 0 then 24 else match findP h.toNat x.bs with
  | none => 23
  | some _ => 24
theorem eqI_dec (a b : Int) : eqI a b = decide (a = b) := by
  by_cases e : a = b
  · subst e
    rw [decide_eq_true rfl]
    cases a <;> simp [eqI]
  · rw [decide_eq_false e]
    cases hb : eqI a b
    · rfl
    · exact absurd (eqI_eq hb) e
theorem PA.find_eq (x : PA) (z : Nat → Value) (h : Nat) : ((x.ar z).find h).map (·.ws) = findP h x.bs := findP_eq z h x.bs 0
theorem PA.errI_eq (x : PA) (z : Nat → Value) (h : Int) : (x.ar z).errI h = x.errI h := by
  unfold Ar.errI PA.errI
  rw [eqI_dec, ← PA.find_eq x z]
  by_cases e : h = 0
  · rw [decide_eq_true e, if_neg (fun k => k.1 e)]; rfl
  · rw [decide_eq_false e]
    cases hf : (x.ar z).find h.toNat with
    | none => rw [if_pos ⟨e, rfl⟩]; rfl
    | some b => rw [if_neg (fun k => by cases k.2)]; rfl
/-- What a call gives at a word, and what where there is none. -/
def PA.rdV (x : PA) (h i : Int) : Int := match x.wordI h i with
  | some r => (r : Int)
  | none => 0
def PA.atE (x : PA) (h i : Int) : Int := match x.wordI h i with
  | some _ => 0
  | none => x.errI h
def PA.rdX (x : PA) (h i : Int) : PA := match x.wordI h i with
  | some _ => x.read
  | none => x.fault
def PA.wrX (x : PA) (h i y : Int) : PA := match x.wordI h i with
  | some _ => x.write h.toNat i.toNat y.toNat
  | none => x.fault
def PA.adX (x : PA) (h i y : Int) : PA := match x.wordI h i with
  | some _ => x.add h.toNat i.toNat y.toNat
  | none => x.fault
def PA.swB (x : PA) (h i o : Int) : Bool := match x.wordI h i with
  | some r => eqI r o
  | none => false
def PA.swX (x : PA) (h i o y : Int) : PA := match x.wordI h i with
  | some r => bif eqI r o then (x.set h.toNat i.toNat y.toNat).tick fun t => { t with swaps := t.swaps + 1 } else x.tick fun t => { t with swaps := t.swaps + 1 }
  | none => x.fault
def PA.AtOk (x : PA) (h : Int) : Prop := (0 ≤ h ∧ h < 18446744073709551616) ∧ x.fx.length = 9
def PA.atB (x : PA) (h : Int) : Bool := u64B h && Nat.beq x.fx.length 9
theorem PA.atB_ok {x : PA} {h : Int} (e : x.atB h = true) : x.AtOk h := by
  unfold PA.atB at e
  simp only [Bool.and_eq_true] at e
  exact ⟨u64B_ok e.1, Nat.eq_of_beq_eq_true e.2⟩
theorem PA.has_of {x : PA} {h i : Int} (ho : x.AtOk h) {r : Nat} (hw : x.wordI h i = some r) : x.Has h i ∧ x.rd h i = r := by
  unfold PA.wordI at hw
  rw [leI_dec] at hw
  by_cases e : 0 ≤ i
  · rw [decide_eq_true e, cond_true] at hw
    exact ⟨⟨ho.1, e, by rw [hw]; rfl, ho.2⟩, by unfold PA.rd; rw [hw]; rfl⟩
  · rw [decide_eq_false e] at hw
    cases hw
def readC : ArCall where
  g := readX.g
  sh := fun x xs => match xs with
    | [.agg [.int _ .u64 h _, .int _ .i64 i _]] => some (x.AtOk h, x.atB h, .tup [(false, [.int false .u64 (x.rdV h i)]), (false, [.int false .i64 (x.atE h i)])], x.rdX h i)
    | _ => none
  okB := fun x xs c cb v y hs hb => by
    split at hs <;> cases hs
    exact PA.atB_ok hb
  ok := fun x xs c cb v y hs ho => by
    split at hs <;> cases hs
    rename_i l1 h b1 l2 i b2
    refine ⟨rfl, (by intro a ha; simp only [List.mem_singleton] at ha; subst ha; rfl), fun b z w R H => ?_⟩
    unfold PA.rdV PA.atE PA.rdX
    cases hw : x.wordI h i with
    | some r =>
      obtain ⟨hh, hr⟩ := PA.has_of ho hw
      obtain ⟨h1, h2, _⟩ := hh.ok z
      refine (calls_smry (S := readX) (xs := [.agg [.int l1 .u64 h b1, .int l2 .i64 i b2]]) (v := .tup [nat64 r, okE]) (A := x.ar z) (B := (PA.read x).ar z) ?_ (by intro a ha; simp only [List.mem_singleton] at ha; subst ha; rfl) rfl H).mono fun e w' ⟨he, hs, hk⟩ => ⟨he, ⟨z, hs⟩, hk⟩
      simp only [readX, SH.get, if_true]
      exact ⟨h1, by rw [h2, hr], rfl⟩
    | none =>
      have hn : (x.ar z).wordI h i = none := by rw [PA.wordI_eq]; exact hw
      refine (calls_ar (xs := [.agg [.int false .u64 h, .int false .i64 i]]) (readE_run (x.ar z) h i ⟨ho.1, hn⟩) (by intro a ha; simp only [List.mem_singleton] at ha; subst ha; rfl) rfl H).mono fun e w' ⟨he, hs, hk⟩ => ⟨?_, ⟨z, hs⟩, hk⟩
      rw [he, PA.errI_eq]
      rfl
def writeC : ArCall where
  g := writeX.g
  sh := fun x xs => match xs with
    | [.agg [.int _ .u64 h _, .int _ .i64 i _], .c (.int _ .u64 y _)] => some (x.AtOk h ∧ 0 ≤ y ∧ y < 18446744073709551616, x.atB h && u64B y, .c (.int false .i64 (x.atE h i)), x.wrX h i y)
    | _ => none
  okB := fun x xs c cb v y hs hb => by
    split at hs <;> cases hs
    simp only [Bool.and_eq_true] at hb
    exact ⟨PA.atB_ok hb.1, u64B_ok hb.2⟩
  ok := fun x xs c cb v y hs ho => by
    split at hs <;> cases hs
    rename_i l1 h b1 l2 i b2 l3 y b3
    obtain ⟨ho, hy⟩ := ho
    have hnm : ∀ a ∈ [SV.agg [.int l1 .u64 h b1, .int l2 .i64 i b2], .c (.int l3 .u64 y b3)], a.names = [] := by intro a ha; simp only [List.mem_cons, List.not_mem_nil, or_false] at ha; rcases ha with rfl | rfl <;> rfl
    refine ⟨rfl, hnm, fun b z w R H => ?_⟩
    unfold PA.atE PA.wrX
    cases hw : x.wordI h i with
    | some r =>
      obtain ⟨hh, hr⟩ := PA.has_of ho hw
      obtain ⟨h1, h2, h3⟩ := hh.ok z
      refine (calls_smry (S := writeX) (xs := [.agg [.int l1 .u64 h b1, .int l2 .i64 i b2], .c (.int l3 .u64 y b3)]) (v := .c (.int true .i64 0)) (A := x.ar z) (B := (x.write h.toNat i.toNat y.toNat).ar z) ?_ hnm rfl H).mono fun e w' ⟨he, hs, hk⟩ => ⟨he, ⟨z, hs⟩, hk⟩
      simp only [writeX, SH.get, if_true]
      refine ⟨h1, hy, trivial, ?_⟩
      simp only [SH.set, if_true]
      rw [Ar.write, PA.set_eq x z _ _ _ h3]
      rfl
    | none =>
      have hn : (x.ar z).wordI h i = none := by rw [PA.wordI_eq]; exact hw
      refine (calls_ar (xs := [.agg [.int false .u64 h, .int false .i64 i], .c (.int false .u64 y)]) (writeE_run (x.ar z) h i y ⟨ho.1, hn⟩) (by intro a ha; simp only [List.mem_cons, List.not_mem_nil, or_false] at ha; rcases ha with rfl | rfl <;> rfl) rfl H).mono fun e w' ⟨he, hs, hk⟩ => ⟨?_, ⟨z, hs⟩, hk⟩
      rw [he, PA.errI_eq]
def addC : ArCall where
  g := addX.g
  sh := fun x xs => match xs with
    | [.agg [.int _ .u64 h _, .int _ .i64 i _], .c (.int _ .u64 y _)] => some (x.AtOk h ∧ 0 ≤ y ∧ y < 18446744073709551616, x.atB h && u64B y, .tup [(false, [.int false .u64 (x.rdV h i)]), (false, [.int false .i64 (x.atE h i)])], x.adX h i y)
    | _ => none
  okB := fun x xs c cb v y hs hb => by
    split at hs <;> cases hs
    simp only [Bool.and_eq_true] at hb
    exact ⟨PA.atB_ok hb.1, u64B_ok hb.2⟩
  ok := fun x xs c cb v y hs ho => by
    split at hs <;> cases hs
    rename_i l1 h b1 l2 i b2 l3 y b3
    obtain ⟨ho, hy⟩ := ho
    have hnm : ∀ a ∈ [SV.agg [.int l1 .u64 h b1, .int l2 .i64 i b2], .c (.int l3 .u64 y b3)], a.names = [] := by intro a ha; simp only [List.mem_cons, List.not_mem_nil, or_false] at ha; rcases ha with rfl | rfl <;> rfl
    refine ⟨rfl, hnm, fun b z w R H => ?_⟩
    unfold PA.rdV PA.atE PA.adX
    cases hw : x.wordI h i with
    | some r =>
      obtain ⟨hh, hr⟩ := PA.has_of ho hw
      obtain ⟨h1, h2, h3⟩ := hh.ok z
      refine (calls_smry (S := addX) (xs := [.agg [.int l1 .u64 h b1, .int l2 .i64 i b2], .c (.int l3 .u64 y b3)]) (v := .tup [nat64 r, okE]) (A := x.ar z) (B := (x.add h.toNat i.toNat y.toNat).ar z) ?_ hnm rfl H).mono fun e w' ⟨he, hs, hk⟩ => ⟨he, ⟨z, hs⟩, hk⟩
      simp only [addX, SH.get, if_true]
      refine ⟨h1, hy, by rw [h2, hr], ?_⟩
      simp only [SH.set, if_true]
      rw [Ar.add, h2, PA.set_eq x z _ _ _ h3]
      rfl
    | none =>
      have hn : (x.ar z).wordI h i = none := by rw [PA.wordI_eq]; exact hw
      refine (calls_ar (xs := [.agg [.int false .u64 h, .int false .i64 i], .c (.int false .u64 y)]) (addE_run (x.ar z) h i y ⟨ho.1, hn⟩) (by intro a ha; simp only [List.mem_cons, List.not_mem_nil, or_false] at ha; rcases ha with rfl | rfl <;> rfl) rfl H).mono fun e w' ⟨he, hs, hk⟩ => ⟨?_, ⟨z, hs⟩, hk⟩
      rw [he, PA.errI_eq]
      rfl
def swapC : ArCall where
  g := swapX.g
  sh := fun x xs => match xs with
    | [.agg [.int _ .u64 h _, .int _ .i64 i _], .c (.int _ .u64 o _), .c (.int _ .u64 y _)] => some (x.AtOk h ∧ (0 ≤ y ∧ y < 18446744073709551616) ∧ 0 ≤ o, x.atB h && (u64B y && leI 0 o), .tup [(false, [.boo false (x.swB h i o)]), (false, [.int false .i64 (x.atE h i)])], x.swX h i o y)
    | _ => none
  okB := fun x xs c cb v y hs hb => by
    split at hs <;> cases hs
    simp only [Bool.and_eq_true] at hb
    exact ⟨PA.atB_ok hb.1, u64B_ok hb.2.1, leI_le hb.2.2⟩
  ok := fun x xs c cb v y hs ho => by
    split at hs <;> cases hs
    rename_i l1 h b1 l2 i b2 l4 o b4 l3 y b3
    obtain ⟨ho, hy, ho0⟩ := ho
    have hnm : ∀ a ∈ [SV.agg [.int l1 .u64 h b1, .int l2 .i64 i b2], .c (.int l4 .u64 o b4), .c (.int l3 .u64 y b3)], a.names = [] := by intro a ha; simp only [List.mem_cons, List.not_mem_nil, or_false] at ha; rcases ha with rfl | rfl | rfl <;> rfl
    refine ⟨rfl, hnm, fun b z w R H => ?_⟩
    unfold PA.swB PA.atE PA.swX
    cases hw : x.wordI h i with
    | some r =>
      obtain ⟨hh, hr⟩ := PA.has_of ho hw
      obtain ⟨h1, h2, h3⟩ := hh.ok z
      have hB : (x.ar z).swap h i o y = (bif eqI r o then (x.set h.toNat i.toNat y.toNat).tick fun t => { t with swaps := t.swaps + 1 } else x.tick fun t => { t with swaps := t.swaps + 1 }).ar z := by
        unfold Ar.swap
        rw [h2, hr, eqI_dec]
        by_cases e : (r : Int) = o
        · rw [if_pos e, decide_eq_true e, PA.set_eq x z _ _ _ h3]; rfl
        · rw [if_neg e, decide_eq_false e]; rfl
      refine (calls_smry (S := swapX) (xs := [.agg [.int l1 .u64 h b1, .int l2 .i64 i b2], .c (.int l4 .u64 o b4), .c (.int l3 .u64 y b3)]) (v := .tup [(false, [.boo false (eqI r o)]), okE]) (A := x.ar z) ?_ hnm rfl H).mono fun e w' ⟨he, hs, hk⟩ => ⟨he, ⟨z, hs⟩, hk⟩
      simp only [swapX, SH.get, if_true]
      refine ⟨h1, hy, ho0, by rw [h2, hr, eqI_dec], ?_⟩
      simp only [SH.set, if_true]
      rw [hB]
    | none =>
      have hn : (x.ar z).wordI h i = none := by rw [PA.wordI_eq]; exact hw
      refine (calls_ar (xs := [.agg [.int false .u64 h, .int false .i64 i], .c (.int false .u64 o), .c (.int false .u64 y)]) (swapE_run (x.ar z) h i o y ⟨ho.1, hn⟩) (by intro a ha; simp only [List.mem_cons, List.not_mem_nil, or_false] at ha; rcases ha with rfl | rfl | rfl <;> rfl) rfl H).mono fun e w' ⟨he, hs, hk⟩ => ⟨?_, ⟨z, hs⟩, hk⟩
      rw [he, PA.errI_eq]
      rfl

theorem blksOf_shift (z : Nat → Value) : ∀ (l : List (Nat × Nat × List Nat)) (i : Nat), blksOf z (i + 1) l = blksOf (fun j => z (j + 1)) i l
  | [], _ => rfl
  | (n, h, ws) :: l, i => by simp only [blksOf, blksOf_shift z l]
theorem blksOf_congr {z z' : Nat → Value} : ∀ {l : List (Nat × Nat × List Nat)} {i : Nat}, (∀ j, i ≤ j → z j = z' j) → blksOf z i l = blksOf z' i l
  | [], _, _ => rfl
  | (n, h, ws) :: l, i, e => by
    simp only [blksOf]
    rw [e i (Nat.le_refl _), blksOf_congr (l := l) fun j hj => e j (by omega)]
def freeB (h : Nat) : List (Nat × Nat × List Nat) → List (Nat × Nat × List Nat)
  | [] => []
  | (n, h', ws) :: l => bif Nat.beq h' h then l else (n, h', ws) :: freeB h l
theorem freeB_eq (h : Nat) : ∀ (l : List (Nat × Nat × List Nat)) (z : Nat → Value) (i : Nat), ∃ z', (blksOf z i l).eraseP (fun c => c.h == h) = blksOf z' i (freeB h l)
  | [], z, i => ⟨z, rfl⟩
  | (n, h', ws) :: l, z, i => by
    simp only [blksOf, freeB]
    rw [beq_dec]
    by_cases e : h' = h
    · rw [decide_eq_true e, cond_true, List.eraseP_cons_of_pos (by simpa using e), blksOf_shift]
      exact ⟨_, rfl⟩
    · rw [decide_eq_false e, cond_false, List.eraseP_cons_of_neg (by simpa using e)]
      obtain ⟨z', hz⟩ := freeB_eq h l z (i + 1)
      refine ⟨fun j => if j = i then z i else z' j, ?_⟩
      simp only [blksOf, if_true]
      rw [hz]
      congr 1
      exact blksOf_congr fun j hj => by rw [if_neg (by omega)]
def eraseN (a : Nat) : List Nat → List Nat
  | [] => []
  | x :: l => bif Nat.beq x a then l else x :: eraseN a l
theorem eraseN_eq (a : Nat) : ∀ l : List Nat, l.erase a = eraseN a l
  | [] => rfl
  | x :: l => by
    simp only [eraseN]
    rw [beq_dec]
    by_cases e : x = a
    · rw [decide_eq_true e, cond_true, e, List.erase_cons_head]
    · rw [decide_eq_false e, cond_false, List.erase_cons_tail (by simpa using e), eraseN_eq a l]
def PA.free (x : PA) (h : Nat) (k : Nat) : PA := { x with used := x.used - k, us := eraseN (h % 65536) x.us, bk := pushH x.bk (h % 65536), bs := freeB h x.bs, t := { x.t with frees := x.t.frees + 1 } }
def PA.frE (x : PA) (h : Int) : Int := match findP h.toNat x.bs with
  | some _ => 0
  | none => 23
def PA.frX (x : PA) (h : Int) : PA := match findP h.toNat x.bs with
  | some ws => x.free h.toNat ws.length
  | none => x.fault
def PA.szV (x : PA) (h : Int) : Nat := match findP h.toNat x.bs with
  | some ws => ws.length
  | none => 0
def freeC : ArCall where
  g := 75
  sh := fun x xs => match xs with
    | [.c (.int _ .u64 h _)] => some (0 ≤ h ∧ h < 18446744073709551616, u64B h, .c (.int false .i64 (x.frE h)), x.frX h)
    | _ => none
  okB := fun x xs c cb v y hs hb => by
    split at hs <;> cases hs
    exact u64B_ok hb
  ok := fun x xs c cb v y hs ho => by
    split at hs <;> cases hs
    rename_i l1 h b1
    refine ⟨rfl, (by intro a ha; simp only [List.mem_singleton] at ha; subst ha; rfl), fun b z w R H => ?_⟩
    obtain ⟨h, rfl⟩ : ∃ k : Nat, h = k := ⟨h.toNat, by omega⟩
    have hT : h < TW := by unfold TW; omega
    unfold PA.frE PA.frX
    rw [Int.toNat_natCast]
    have hfe := PA.find_eq x z h
    cases hf : (x.ar z).find h with
    | none =>
      rw [hf] at hfe
      rw [← hfe]
      exact (free_none b h (x.ar z) w H hT hf).mono fun e w' ⟨he, hs, hk⟩ => ⟨he, ⟨z, hs⟩, hk⟩
    | some k =>
      rw [hf] at hfe
      rw [← hfe]
      obtain ⟨hbm, hbh⟩ := Ar.find_mem hf
      obtain ⟨_, _, hi, _⟩ := arAt_open H
      have hr := hi.range k hbm
      refine (free_yes b h (x.ar z) k w H hT hf).mono fun e w' ⟨he, hs, hk⟩ => ⟨he, ?_, hk⟩
      obtain ⟨z', hz⟩ := freeB_eq h x.bs z 0
      refine ⟨z', hs.cast ?_⟩
      have e1 : (x.ar z).free k = (x.free h k.ws.length).ar z' := by
        have e2 : k.n = h % 65536 := by omega
        unfold Ar.free PA.free PA.ar Stk.give
        simp only []
        rw [hbh, hz, e2, eraseN_eq]
      rw [e1]
      rfl
def sizeC : ArCall where
  g := 80
  sh := fun x xs => match xs with
    | [.c (.int _ .u64 h _)] => some (0 ≤ h ∧ h < 18446744073709551616, u64B h, .c (.int false .i64 (x.szV h : Nat)), x)
    | _ => none
  okB := fun x xs c cb v y hs hb => by
    split at hs <;> cases hs
    exact u64B_ok hb
  ok := fun x xs c cb v y hs ho => by
    split at hs <;> cases hs
    rename_i l1 h b1
    refine ⟨rfl, (by intro a ha; simp only [List.mem_singleton] at ha; subst ha; rfl), fun b z w R H => ?_⟩
    obtain ⟨h, rfl⟩ : ∃ k : Nat, h = k := ⟨h.toNat, by omega⟩
    have hT : h < TW := by unfold TW; omega
    have e : (((x.ar z).find h).map fun b => b.ws.length).getD 0 = x.szV (h : Int) := by
      unfold PA.szV
      rw [Int.toNat_natCast, ← PA.find_eq x z]
      cases (x.ar z).find h <;> rfl
    refine (size_any b h (x.ar z) w H hT).mono fun e' w' ⟨he, hb⟩ => ⟨?_, ⟨z, H.below hb⟩, (Kept.refl w).below hb⟩
    rw [he, e]
    rfl
theorem ar_len (p : Nat) (A : Ar) (w : World) {R : Assn} (H : Sat w (arAt p A * R)) :
    Calls Try.prog 79 #[.pointer (some ⟨p, 0, none⟩)] w fun e w' => e = .returned (.int .i64 (A.bs.length : Nat)) ∧ w = w' := by
  obtain ⟨ps, pb, _, H1⟩ := arAt_open H
  have hc : w.cell? ⟨p, 15, none⟩ = some (.map (some pb)) := H1.cell 15
  have hlen : ∀ ty, (Builtin.len_ #[171] ty #[.map (some pb)]).run Try.prog w = .ok (.int .i64 (A.bs.length : Int)) w := fun ty => by
    obtain ⟨es, clock, hl, h5⟩ := mapAt_open (H1.cast (Q := mapAt pb (A.bs.map ent) * (own p (.cells (arCells A ps pb) 173 (0, 0)) * (stkAt ps A.s * (rowsAt A.bs * R)))) (by ac_rfl))
    have hsz : es.size = A.bs.length := by
      have := congrArg List.length hl.1
      simpa using this
    simp [Builtin.len_, run_underlying Try.underlying171, goInt, MapKept.run_getObj_map h5.block, Result.andThen, hsz]
  clear H H1
  go_enter Try.func79, Try.ntmps79
  go_wp2
  go_ret
  exact ⟨rfl, rfl⟩
theorem ar_peak (p : Nat) (A : Ar) (w : World) {R : Assn} (H : Sat w (arAt p A * R)) :
    Calls Try.prog 78 #[.pointer (some ⟨p, 0, none⟩)] w fun e w' => e = .returned (.int .i64 (A.peak : Nat)) ∧ w = w' := by
  obtain ⟨ps, pb, _, H1⟩ := arAt_open H
  have hc := H1.cell 2
  simp [arCells] at hc
  clear H H1
  go_enter Try.func78, Try.ntmps78
  go_wp2
  go_ret
  exact ⟨rfl, rfl⟩
theorem ar_cap (p : Nat) (A : Ar) (w : World) {R : Assn} (H : Sat w (arAt p A * R)) :
    Calls Try.prog 76 #[.pointer (some ⟨p, 0, none⟩)] w fun e w' => e = .returned (.int .i64 (A.cap : Nat)) ∧ w = w' := by
  obtain ⟨ps, pb, _, H1⟩ := arAt_open H
  have hc := H1.cell 0
  simp [arCells] at hc
  clear H H1
  go_enter Try.func76, Try.ntmps76
  go_wp2
  go_ret
  exact ⟨rfl, rfl⟩
/-- A number that an arena tells. -/
def tellC (g : FuncId) (f : PA → Nat) (h : ∀ (x : PA) (b : Nat) (z : Nat → Value) (w : World) (R : Assn), Sat w (arAt b (x.ar z) * R) → Calls Try.prog g #[.pointer (some ⟨b, 0, none⟩)] w fun e w' => e = .returned (.int .i64 (f x : Nat)) ∧ w = w') : ArCall where
  g := g
  sh := fun x xs => match xs with
    | [] => some (True, true, .c (.int false .i64 (f x : Nat)), x)
    | _ => none
  okB := fun x xs c cb v y hs hb => by
    split at hs <;> cases hs
    trivial
  ok := fun x xs c cb v y hs ho => by
    split at hs <;> cases hs
    refine ⟨rfl, (by intro a ha; cases ha), fun b z w R H => ?_⟩
    exact (h x b z w R H).mono fun e w' ⟨he, hw⟩ => ⟨he, ⟨z, hw ▸ H⟩, hw ▸ Kept.refl w⟩
theorem blksOf_len (z : Nat → Value) : ∀ (l : List (Nat × Nat × List Nat)) (i : Nat), (blksOf z i l).length = l.length
  | [], _ => rfl
  | (n, h, ws) :: l, i => by simp only [blksOf, List.length_cons, blksOf_len z l]
def lenC : ArCall := tellC 79 (fun x => x.bs.length) fun x b z w R H => (ar_len b (x.ar z) w H).mono fun e w' ⟨he, hw⟩ => ⟨by rw [he]; show _ = Ending.returned (.int .i64 ((x.bs.length : Nat) : Int)); rw [← blksOf_len z x.bs 0]; rfl, hw⟩
def peakC : ArCall := tellC 78 PA.peak fun x b z w R H => ar_peak b (x.ar z) w H
def capC : ArCall := tellC 76 PA.cap fun x b z w R H => ar_cap b (x.ar z) w H
def usedC : ArCall := tellC 77 PA.used fun x b z w R H => ar_used b (x.ar z) w H
end Go.Proofs.Ytnfpkadepomjjaa
