/- Arenas told without the slices that hold their words (module Par), where not all is known: contracts with conditions that are left to be shown. -/
import Derived.Test.YtnkikhhiaecebaaBaseAP4
import Derived.Test.YtnkikhhiaecebaaBaseS
import Derived.Test.YtnkikhhiaecebaaBaseC
set_option linter.all false
namespace Go.Proofs.Ytnkikhhiaecebaa
open Go Go.RowKit
set_option maxRecDepth 100000

def PA.Has (x : PA) (h i : Int) : Prop := (0 ≤ h ∧ h < 18446744073709551616) ∧ 0 ≤ i ∧ (x.word h.toNat i.toNat).isSome = true ∧ x.fx.length = 9
def PA.rd (x : PA) (h i : Int) : Nat := (x.word h.toNat i.toNat).getD 0
theorem PA.Has.ok {x : PA} {h i : Int} (e : x.Has h i) (z : Nat → Value) : (x.ar z).Has h i ∧ (x.ar z).rd h i = x.rd h i ∧ (h.toNat = 0 → i.toNat < x.fx.length) := by
  obtain ⟨⟨h1, h2⟩, h3, h4, h5⟩ := e
  refine ⟨⟨h1, h2, h3, by rw [PA.word_eq]; exact h4⟩, by unfold Ar.rd PA.rd; rw [PA.word_eq], fun h0 => ?_⟩
  unfold PA.word at h4
  rw [h0] at h4
  simp only [Nat.beq, cond_true] at h4
  cases hb : Nat.blt i.toNat 9 <;> rw [hb] at h4
  · cases h4
  · rw [Nat.blt_eq] at hb
    omega
def newQ : Smry Try.prog XP where
  g := newX.g
  run := fun args m K => match args with
    | [.c (.int _ .i64 c _)] => (0 ≤ c ∧ c ≤ 60000) ∧ bif newOk m (parO (PA.new c.toNat)) then K (.tup [(false, [.ptr m.nx 0]), okE]) (withNew m (parO (PA.new c.toNat))) else Stuck 928
    | _ => Stuck 929
  ok := fun args m K hr => by
    split at hr <;> try exact hr.elim
    rename_i l c bc
    obtain ⟨⟨h0, h1⟩, hr⟩ := hr
    cases hb : newOk m (parO (PA.new c.toNat)) <;> rw [hb] at hr
    · exact hr.elim
    simp only [cond_true] at hr
    intro ν w R w0 H HK
    obtain ⟨c, rfl⟩ : ∃ z : Nat, c = z := ⟨c.toNat, by omega⟩
    refine (arenaNew c w H (by omega)).mono fun e w' ⟨p, he, hs, hk'⟩ => ⟨_, _, upd ν m.nx p, hr, Agree.upd (Nat.le_refl _) _, Nat.le_succ _, ?_, ?_, HK.trans hk'⟩
    · rw [he]
      simp [SV.den, SC.den, SC.denL, partDen, okE, upd_same]
    · rw [PA.new_eq c fun _ => undef] at hs
      exact par_new hb hs
def faultsQ : Smry Try.prog XP where
  g := faultsX.g
  run := fun args m K => match args with
    | [.c (.ptr n 0)] => match m.hp.get n with
      | some (.ext (.obj [] x)) => K (.c (.int false .i64 (wr64 (PA.faults x)))) ⟨m.hp.set n (parO x), m.nx⟩
      | _ => Stuck 934
    | _ => Stuck 935
  ok := fun args m K hr => by
    split at hr <;> try exact hr.elim
    rename_i n
    split at hr <;> try exact hr.elim
    rename_i x hx
    refine par_gives (S := faultsX) hx rfl (by intro a ha; cases ha) (fun z => ?_) hr
    simp only [faultsX, SH.get, if_true]
    exact ⟨rfl, z, rfl⟩
end Go.Proofs.Ytnkikhhiaecebaa

/- Arenas told by what they hold (module Par): calls, as contracts and as summaries. -/
namespace Go.Proofs.Ytnkikhhiaecebaa
open Go Go.RowKit
set_option maxRecDepth 100000

def PA.Inv (x : PA) : Prop := ∃ z, ArInv (x.ar z)
theorem par_inv {ν : Nat → Nat} {b : Nat} {x : PA} {w : World} {R : Assn} (H : Sat w ((parO x).den ν b * R)) : PA.Inv x := by
  obtain ⟨z, H⟩ := par_open H
  obtain ⟨_, _, hi, _⟩ := arAt_open H
  exact ⟨z, hi⟩
structure ArCall where
  g : FuncId
  sh : PA → List SV → Option (Prop × Bool × SV × PA)
  okB : ∀ x xs c cb v y, sh x xs = some (c, cb, v, y) → cb = true → c
  ok : ∀ x xs c cb v y, sh x xs = some (c, cb, v, y) → c → v.names = [] ∧ (∀ a ∈ xs, a.names = []) ∧ ∀ b z w R, Sat w (arAt b (x.ar z) * R) →
    Calls Try.prog g (.pointer (some ⟨b, 0, none⟩) :: xs.map (SV.den fun _ => 0)).toArray w fun e w' => e = .returned (v.den fun _ => 0) ∧ (∃ z', Sat w' (arAt b (y.ar z') * R)) ∧ Kept w w'
theorem ArCall.gives (S : ArCall) {n : Nat} {xs : List SV} {m : MP} {K : SV → MP → Prop} {x y : PA} {v : SV} {c : Prop} {cb : Bool} (hx : m.hp.get n = some (parO x)) (hs : S.sh x xs = some (c, cb, v, y)) (hc : c)
    (hk : PA.Inv x → K v ⟨m.hp.set n (parO y), m.nx⟩) : Gives Try.prog S.g (.c (.ptr n 0) :: xs) m K := fun ν w R w0 H HK => by
  obtain ⟨hv, has, hcall⟩ := S.ok x xs c cb v y hs hc
  rw [SH.den_get ν hx, Assn.mul_assoc] at H
  have hinv := par_inv H
  obtain ⟨z, H⟩ := par_open H
  have eargs : (SV.c (.ptr n 0) :: xs).map (SV.den ν) = .pointer (some ⟨ν n, 0, none⟩) :: xs.map (SV.den fun _ => 0) := by
    simp only [List.map_cons]
    congr 1
    apply List.map_congr_left
    intro u hu
    exact SV.den_eq u (by rw [has u hu]; intro k hk; cases hk)
  rw [eargs]
  refine (hcall (ν n) z w _ H).mono ?_
  rintro e w' ⟨he, ⟨z', hs'⟩, hk'⟩
  refine ⟨v, _, ν, hk hinv, Agree.refl _ _, Nat.le_refl _, ?_, ?_, HK.trans hk'⟩
  · rw [he]
    congr 1
    exact SV.den_eq v (by rw [hv]; intro k hk; cases hk)
  · rw [SH.den_set ν hx, Assn.mul_assoc]
    exact par_shut hs'
def ArCall.R (S : ArCall) : Smry Try.prog XP where
  g := S.g
  run := fun args m K => match args with
    | .c (.ptr n 0) :: xs => match m.hp.get n with
      | some (.ext (.obj [] x)) => match S.sh x xs with
        | some (c, _, v, y) => c ∧ (PA.Inv x → K v ⟨m.hp.set n (parO y), m.nx⟩)
        | none => Stuck 950
      | _ => Stuck 951
    | _ => Stuck 952
  ok := fun args m K hr => by
    split at hr <;> try exact hr.elim
    rename_i n xs
    split at hr <;> try exact hr.elim
    rename_i x hx
    split at hr <;> try exact hr.elim
    rename_i c cb v y hs
    exact S.gives hx hs hr.1 hr.2
def ArCall.K (S : ArCall) : Smry Try.prog XP where
  g := S.g
  run := fun args m K => match args with
    | .c (.ptr n 0) :: xs => match m.hp.get n with
      | some (.ext (.obj [] x)) => match S.sh x xs with
        | some (_, cb, v, y) => bif cb then goP m n v y K else Stuck 953
        | none => Stuck 954
      | _ => Stuck 955
    | _ => Stuck 956
  ok := fun args m K hr => by
    split at hr <;> try exact hr.elim
    rename_i n xs
    split at hr <;> try exact hr.elim
    rename_i x hx
    split at hr <;> try exact hr.elim
    rename_i c cb v y hs
    cases hb : cb <;> rw [hb] at hr
    · exact hr.elim
    obtain ⟨u, hu, e⟩ := goP_of hr
    exact gives_den e hu (S.gives hx hs (S.okB x xs c cb v y hs hb) fun _ => ⟨rfl, rfl⟩)

theorem calls_ar {g : FuncId} {xs : List SV} {T : List (Smry Try.prog XE)} {wr : FuncId → Nat → Bool} {LF k : Nat} {s : Scr XE} {A B : Ar} {res : SV}
    (run : Run (callN Try.prog T wr LF k g (.c (.ptr 0 0) :: xs) ⟨[(0, arO A)], 100⟩ s fun v m _ => outM res [(0, arO B)] v m)) (hx : ∀ a ∈ xs, a.names = []) (hr : res.names = []) {b : Nat} {w : World} {R : Assn} (H : Sat w (arAt b A * R)) :
    Calls Try.prog g (.pointer (some ⟨b, 0, none⟩) :: xs.map (SV.den fun _ => 0)).toArray w fun e w' => e = .returned (res.den fun _ => 0) ∧ Sat w' (arAt b B * R) ∧ Kept w w' := by
  have H1 : Sat w ((⟨[(0, arO A)], 100⟩ : MX).hp.den (fun _ => b) * R) := H.cast (by
    simp only [SH.den, SO.den, XE, XO.den]
    rw [Assn.mul_comm (arAt _ _) (1 : Assn), Assn.one_mul])
  have eargs : (SV.c (.ptr 0 0) :: xs).map (SV.den fun _ => b) = .pointer (some ⟨b, 0, none⟩) :: xs.map (SV.den fun _ => 0) := by
    simp only [List.map_cons]
    congr 1
    apply List.map_congr_left
    intro u hu
    exact SV.den_eq u (by rw [hx u hu]; intro k hk; cases hk)
  rw [← eargs]
  refine (callN_ok namesOk mixed T wr LF k g _ ⟨[(0, arO A)], 100⟩ s _ run.out (fun _ => b) w R w H1 (Kept.refl w)).mono ?_
  rintro e w' ⟨v, m', s', ξ, ho, ag, _, he, hs, hk⟩
  obtain ⟨κ, agk, hv, hs⟩ := outM_sound ho hs
  have k0 : κ 0 = b := by rw [agk 0 (by decide), ag 0 (by show 0 < 100; decide)]
  refine ⟨?_, ?_, hk⟩
  · rw [he, hv]
    congr 1
    exact SV.den_eq res (by rw [hr]; intro k hk; cases hk)
  · refine hs.cast ?_
    simp only [SH.den, SO.den, XE, XO.den, k0]
    rw [Assn.mul_comm (arAt _ _) (1 : Assn), Assn.one_mul]
theorem calls_smry {S : Smry Try.prog XE} {xs : List SV} {A B : Ar} {v : SV} (run : S.run (.c (.ptr 0 0) :: xs) ⟨[(0, arO A)], 1⟩ fun u m' => u = v ∧ m'.hp = [(0, arO B)]) (hx : ∀ a ∈ xs, a.names = []) (hr : v.names = []) {b : Nat} {w : World} {R : Assn} (H : Sat w (arAt b A * R)) :
    Calls Try.prog S.g (.pointer (some ⟨b, 0, none⟩) :: xs.map (SV.den fun _ => 0)).toArray w fun e w' => e = .returned (v.den fun _ => 0) ∧ Sat w' (arAt b B * R) ∧ Kept w w' := by
  have H1 : Sat w ((⟨[(0, arO A)], 1⟩ : MX).hp.den (fun _ => b) * R) := H.cast (by
    simp only [SH.den, SO.den, XE, XO.den]
    rw [Assn.mul_comm (arAt _ _) (1 : Assn), Assn.one_mul])
  have eargs : (SV.c (.ptr 0 0) :: xs).map (SV.den fun _ => b) = .pointer (some ⟨b, 0, none⟩) :: xs.map (SV.den fun _ => 0) := by
    simp only [List.map_cons]
    congr 1
    apply List.map_congr_left
    intro u hu
    exact SV.den_eq u (by rw [hx u hu]; intro k hk; cases hk)
  rw [← eargs]
  refine (S.ok _ _ _ run (fun _ => b) w R w H1 (Kept.refl w)).mono ?_
  rintro e w' ⟨u, m', μ, ⟨rfl, hm⟩, ag, hn, he, hs, hk⟩
  have h0 : μ 0 = b := ag 0 (Nat.lt_succ_self 0)
  rw [hm] at hs
  refine ⟨?_, ?_, hk⟩
  · rw [he]
    congr 1
    exact SV.den_eq u (by rw [hr]; intro k hk; cases hk)
  · refine hs.cast ?_
    simp only [SH.den, SO.den, XE, XO.den, h0]
    rw [Assn.mul_comm (arAt _ _) (1 : Assn), Assn.one_mul]

theorem le_leI {a b : Int} (h : a ≤ b) : leI a b = true := by
  cases a <;> cases b <;> simp only [leI, Nat.ble_eq, Int.ofNat_eq_natCast] at * <;> omega
theorem leI_dec (a b : Int) : leI a b = decide (a ≤ b) := by
  by_cases e : a ≤ b
  · rw [decide_eq_true e]; exact le_leI e
  · rw [decide_eq_false e]
    cases hb : leI a b
    · rfl
    · exact absurd (leI_le hb) e
theorem eqI_dec (a b : Int) : eqI a b = decide (a = b) := by
  by_cases e : a = b
  · subst e
    rw [decide_eq_true rfl]
    cases a <;> simp [eqI]
  · rw [decide_eq_false e]
    cases hb : eqI a b
    · rfl
    · exact absurd (eqI_eq hb) e
end Go.Proofs.Ytnkikhhiaecebaa

/- Arenas told by what they hold (module Par): the tally. -/
namespace Go.Proofs.Ytnkikhhiaecebaa
open Go Go.RowKit
set_option maxRecDepth 100000

def tallyC : ArCall where
  g := tallyX.g
  sh := fun x xs => match xs with
    | [] => some (True, true, .agg (tlySC (tlyZ x.t)), x)
    | _ => none
  okB := fun x xs c cb v y hs hb => by
    split at hs <;> cases hs
    trivial
  ok := fun x xs c cb v y hs ho => by
    split at hs <;> cases hs
    refine ⟨rfl, (by intro a ha; cases ha), fun b z w R H => ?_⟩
    refine (calls_smry (S := tallyX) (xs := []) (v := .agg (tlySC (tlyZ x.t))) (A := x.ar z) (B := x.ar z) ?_ (by intro a ha; cases ha) rfl H).mono fun e w' ⟨he, hs, hk⟩ => ⟨he, ⟨z, hs⟩, hk⟩
    simp only [tallyX, SH.get, if_true]
    exact ⟨rfl, rfl⟩
end Go.Proofs.Ytnkikhhiaecebaa

/- The arena's Lay where it fails (layer 3): by the executor. -/
namespace Go.Proofs.Ytnkikhhiaecebaa
open Go Go.RowKit
set_option maxRecDepth 1000000
set_option maxHeartbeats 0
def noS (g : FuncId) : Smry Try.prog XE := ⟨g, fun _ _ _ => False, fun _ _ _ h => h.elim⟩
def layE (used cap births len : Nat) : Int := if len = 0 ∨ 2048 < len then 2 else if cap < used + len then 20 else if 268435455 ≤ births then 26 else 0
def arC (x0 x1 x4 : Nat) (v : Nat → Value) : SO XE := .cells [.int false .i64 x0, .int false .i64 x1, .raw (v 2), .raw (v 3), .int false .u64 x4, .raw (v 5), .raw (v 6), .raw (v 7), .raw (v 8), .raw (v 9), .raw (v 10), .raw (v 11), .raw (v 12), .raw (v 13), .raw (v 14), .raw (v 15), .raw (v 16), .raw (v 17), .raw (v 18), .raw (v 19), .raw (v 20), .raw (v 21)] 172
def layE1_1 (x0 x1 : Nat) (v : Nat → Value) (x4 : Nat) : Prop := ((↑x0 : Int) = (↑x0 : Int) ∧ (↑x1 : Int) = (↑x1 : Int) ∧ v 2 = v 2 ∧ v 3 = v 3 ∧ (↑x4 : Int) = (↑x4 : Int) ∧ v 5 = v
 5 ∧ v 6 = v 6 ∧ v 7 = v 7 ∧ v 8 = v 8 ∧ v 9 = v 9 ∧ v 10 = v 10 ∧ v 11 = v 11 ∧ v 12 = v 12 ∧ v 13 = v 13 ∧ v 14 = v 14 ∧ v 15 = v 15 ∧ v 16 = v 16 ∧ v 17 = v 17 ∧ v 18 = v 18 ∧ v
 19 = v 19 ∧ v 20 = v 20 ∧ v 21 = v 21 ∧ True) ∧ True
theorem layE1_vc (x0 x1 x4 len c : Nat) (a : Option Addr) (v : Nat → Value) : (callN Try.prog ([noS 89] : List (Smry Try.prog XE)) (fun _ _ => false) 100 20 14 [.c (.ptr 0 0), .c (.sliv a false len c)] ⟨[(0, arC x0 x1 x4 v)], 100⟩ (bN 5) (fun v' m _ => outM (.tup [(false, [.int true .u64 0]), (false, [.int false .i64 (layE x1 x0 x4 len)])]) [(0, arC x0 x1 x4 v)] v' m)) = (
 (((↑len : Int) == (0 : Int)) = true → layE x1 x0 x4 len = (2 : Int) ∧ layE1_1 x0 x1 v x4) ∧ (((↑len : Int) == (0 : Int)) = false → (decide ((↑len : Int) > (2048 : Int)) = true →
 layE x1 x0 x4 len = (2 : Int) ∧ layE1_1 x0 x1 v x4) ∧ (decide ((↑len : Int) > (2048 : Int)) = false → ((-9223372036854775808 : Int) ≤ (↑x1 : Int) + (↑len : Int) ∧ (↑x1 : Int) +
 (↑len : Int) ≤ (9223372036854775807 : Int)) ∧ (decide ((↑x1 : Int) + (↑len : Int) > (↑x0 : Int)) = true → layE x1 x0 x4 len = (20 : Int) ∧ layE1_1 x0 x1 v x4) ∧ (decide ((↑x1 : Int)
 + (↑len : Int) > (↑x0 : Int)) = false → (decide ((↑x4 : Int) ≥ (268435455 : Int)) = true → layE x1 x0 x4 len = (26 : Int) ∧ layE1_1 x0 x1 v x4) ∧ (decide ((↑x4 : Int) ≥ (268435455 :
 Int)) = false → False))))) := by
  kernel_rfl
theorem layE1_run (x0 x1 x4 len c : Nat) (a : Option Addr) (v : Nat → Value) (hc : layE x1 x0 x4 len ≠ 0 ∧ x1 ≤ 60000 ∧ len ≤ 9223372036854775807) : Run (callN Try.prog ([noS 89] : List (Smry Try.prog XE)) (fun _ _ => false) 100 20 14 [.c (.ptr 0 0), .c (.sliv a false len c)] ⟨[(0, arC x0 x1 x4 v)], 100⟩ (bN 5) (fun v' m _ => outM (.tup [(false, [.int true .u64 0]), (false, [.int false .i64 (layE x1 x0 x4 len)])]) [(0, arC x0 x1 x4 v)] v' m)) := by
  constructor
  rw [layE1_vc]
  delta layE1_1
  obtain ⟨hc, h1, h2⟩ := hc
  unfold layE at *
  repeat' (with_reducible first | assumption | apply And.intro | exact trivial | exact Eq.refl _ | intro _)
  all_goals simp only [beq_iff_eq, beq_eq_false_iff_ne, decide_eq_true_eq, decide_eq_false_iff_not, ne_eq] at *
  all_goals first
    | omega
    | (rw [if_pos (by omega)])
    | (rw [if_neg (by omega), if_pos (by omega)])
    | (rw [if_neg (by omega), if_neg (by omega), if_pos (by omega)])
    | (exfalso; refine hc ?_; rw [if_neg (by omega), if_neg (by omega), if_neg (by omega)])
end Go.Proofs.Ytnkikhhiaecebaa

/- What the executor knows of Lay, of words that lie in the old memory. -/
namespace Go.Proofs.Ytnkikhhiaecebaa
open Go Go.RowKit
theorem natsOf_get {n : Nat} {f : Nat → Int} {j : Nat} {u : Value} (h0 : ∀ i, i < n → 0 ≤ f i) (h : (u64s (natsOf n f))[j]? = some u) : j < n ∧ u = .int .u64 (f j) := by
  rw [natsOf_u64s h0] at h
  have hj : j < n := by
    rcases Nat.lt_or_ge j n with h' | h'
    · exact h'
    · rw [List.getElem?_eq_none (by simp [intsOf]; exact h')] at h; cases h
  rw [intsOf_get _ _ _ j hj] at h
  exact ⟨hj, (Option.some.inj h).symm⟩
end Go.Proofs.Ytnkikhhiaecebaa

/- Arenas told by what they hold (module Par): Lay, of words in the old memory, where nothing was freed; the tally. -/
namespace Go.Proofs.Ytnkikhhiaecebaa
open Go Go.RowKit
set_option maxRecDepth 100000
def PA.layE (x : PA) (k : Nat) : Int := Go.Proofs.Ytnkikhhiaecebaa.layE x.used x.cap x.births k
theorem layE_zero {u c b k : Nat} (h : layE u c b k = 0) : (1 ≤ k ∧ k ≤ 2048) ∧ u + k ≤ c ∧ b < 268435455 := by
  unfold layE at h
  split at h
  · cases h
  · split at h
    · cases h
    · split at h
      · cases h
      · omega
theorem lay_err (p : Nat) (A : Ar) (a : Option Addr) (len c : Nat) (w : World) {R : Assn} (H : Sat w (arAt p A * R)) (he : layE A.used A.cap A.births len ≠ 0) (hl : len ≤ 9223372036854775807) :
    Calls Try.prog 14 #[.pointer (some ⟨p, 0, none⟩), .slice a len c] w fun e w' => e = .returned (.tuple #[.int .u64 0, .int .i64 (layE A.used A.cap A.births len)]) ∧ Sat w' (arAt p A * R) ∧ Kept w w' := by
  obtain ⟨ps, pb, hi, H1⟩ := arAt_open H
  have hcap := hi.cap
  have hus := hi.used
  have H2 : Sat w ((⟨[(0, arC A.cap A.used A.births fun i => (arCells A ps pb).getD i undef)], 100⟩ : MX).hp.den (fun _ => p) * (stkAt ps A.s * (mapAt pb (A.bs.map ent) * (rowsAt A.bs * R)))) := by
    refine H1.cast ?_
    simp only [SH.den, SO.den, arC, SC.denL, SC.den]
    rw [Assn.mul_comm _ (1 : Assn), Assn.one_mul]
    rfl
  refine (callN_ok namesOk mixed _ _ _ _ _ _ _ _ _ (layE1_run A.cap A.used A.births len c a (fun i => (arCells A ps pb).getD i undef) ⟨he, by omega, hl⟩).out (fun _ => p) w _ w H2 (Kept.refl w)).mono ?_
  rintro e w' ⟨v, m', s', ξ, ho, ag, _, hee, hs, hk⟩
  obtain ⟨κ, agk, hv, hs⟩ := outM_sound ho hs
  have k0 : κ 0 = p := by rw [agk 0 (by decide), ag 0 (by show 0 < 100; decide)]
  refine ⟨by rw [hee, hv]; rfl, ?_, hk⟩
  refine arAt_shut (ps := ps) (pb := pb) hi (hs.cast ?_)
  simp only [SH.den, SO.den, arC, SC.denL, SC.den, k0]
  rw [Assn.mul_comm _ (1 : Assn), Assn.one_mul]
  rfl
theorem inv_back {x : PA} (h : PA.Inv x) : x.bk.length ≤ 60000 := by
  obtain ⟨z, hi⟩ := h
  have h1 := hi.high
  have h2 := hi.hmax
  have : (x.ar z).s.back.length = x.bk.length := rfl
  omega
end Go.Proofs.Ytnkikhhiaecebaa
