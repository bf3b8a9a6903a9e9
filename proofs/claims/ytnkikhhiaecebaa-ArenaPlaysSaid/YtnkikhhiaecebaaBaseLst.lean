/- The stock of numbers (layer 2), run: what is given back lies in a heap. -/
import Derived.Test.YtnkikhhiaecebaaBaseC
import Derived.Test.YtnkikhhiaecebaaBaseAP1
import Derived.Test.YtnkikhhiaecebaaBaseS
set_option linter.all false
namespace Go.Proofs.Ytnkikhhiaecebaa
open Go Go.RowKit
set_option maxRecDepth 1000000
set_option maxHeartbeats 0
def XL : EXT where
  X := Empty
  den := fun _ _ x => nomatch x
  names := fun x => nomatch x
  ren := fun _ x => x
  law := fun _ _ _ x => nomatch x
  rlaw := fun _ _ _ x => nomatch x
def swF (f : Nat → Int) (i j : Nat) : Nat → Int := fun k => if k = i then f j else if k = j then f i else f k
def upF (f : Nat → Int) : Nat → Nat → (Nat → Int)
  | 0, _ => f
  | k + 1, j => if j = 0 then f else if f j < f ((j - 1) / 2) then upF (swF f ((j - 1) / 2) j) k ((j - 1) / 2) else f
theorem upF_step {f : Nat → Int} {k j : Nat} (hk : j ≤ k) (h0 : j ≠ 0) (h : f j < f ((j - 1) / 2)) : upF f k j = upF (swF f ((j - 1) / 2) j) (k - 1) ((j - 1) / 2) := by
  cases k with
  | zero => omega
  | succ k => rw [upF, if_neg h0, if_pos h]; rfl
theorem upF_fuel : ∀ (K K' : Nat) (f : Nat → Int) (j : Nat), j ≤ K → j ≤ K' → upF f K j = upF f K' j
  | 0, 0, _, _, _, _ => rfl
  | 0, K' + 1, f, j, h, _ => by
    have : j = 0 := by omega
    subst this
    simp [upF]
  | K + 1, 0, f, j, _, h => by
    have : j = 0 := by omega
    subst this
    simp [upF]
  | K + 1, K' + 1, f, j, h, h' => by
    simp only [upF]
    split
    · rfl
    · split
      · exact upF_fuel K K' _ _ (by omega) (by omega)
      · rfl
theorem swF_eq {g : Nat → Int} {k j : Nat} (h : k ≠ j) (i : Nat) : swF g k j i = if i = j then g k else if i = k then g j else g i := by
  unfold swF
  by_cases h1 : i = j
  · subst h1; rw [if_neg (Ne.symm h), if_pos rfl, if_pos rfl]
  · rw [if_neg h1, if_neg h1]
theorem upF_stop {f : Nat → Int} {k j : Nat} (h : j ≠ 0 → ¬ f j < f ((j - 1) / 2)) : upF f k j = f := by
  cases k with
  | zero => rfl
  | succ k =>
    rw [upF]
    by_cases h0 : j = 0
    · rw [if_pos h0]
    · rw [if_neg h0, if_neg (h h0)]
abbrev UpY (f : Nat → Int) (n : Nat) : Type := {p : (Nat → Int) × Nat // (p.2 < n ∧ n ≤ 100001) ∧ upF p.1 p.2 p.2 = upF f (n - 1) (n - 1)}
theorem UpY.bd {f : Nat → Int} {n : Nat} (y : UpY f n) : (0 : Int) ≤ (y.1.2 : Int) ∧ (y.1.2 : Int) ≤ 100000 := by have := y.2.1; omega
def stkC (hi : Int) (nm n cap : Nat) : SO XL := .cells [.int true .i64 65535, .int false .i64 hi, .sli nm 1 true 0 false n cap, .map 2] 272
def upS (hi : Int) (NM : Nat) (f : Nat → Int) (n : Nat) : Scr XL := .inv (liveL [0, 1, 4]) [0, NM] (UpY f n × Nat) (fun _ y => ([(1, .c (.int false .i64 (y.1.1.2 : Int) (.w 0 100000 y.1.bd)))], [(0, stkC hi NM n y.2), (NM, .ints 3 .i64 n y.2 y.1.1.1)])) (fun y => y.1.1.2) fun _ => bN 4
def pushF (f : Nat → Int) (n : Nat) (x : Int) (j : Nat) : Int := if j < n then f j else x
def give_1 {f : Nat → Int} {x : Int} (n : Nat) (y : UpY (pushF f n x) (n + 1) × Nat) : Prop := (0 : Int) ≤ ((↑y.fst.val.snd : Int) - (1 : Int)).tdiv (2 : Int) ∧ ((↑y.fst.val.snd :
 Int) - (1 : Int)).tdiv (2 : Int) < (↑(n + 1) : Int)
def give_2 {f : Nat → Int} {x : Int} (n : Nat) (y : UpY (pushF f n x) (n + 1) × Nat) : Prop := (0 : Int) ≤ (↑y.fst.val.snd : Int) ∧ (↑y.fst.val.snd : Int) < (↑(n + 1) : Int)
def give_3 (f : Nat → Int) (n : Nat) (x : Int) (y : UpY (pushF f n x) (n + 1) × Nat) : SV := SV.c (SC.int false .i64 (↑y.fst.val.snd : Int) (Bd.w (0 : Int) (100000 : Int)
 (upS._proof_1 (pushF f n x) (n + 1) y)))
def give_4 {f : Nat → Int} {n : Nat} {x : Int} (y : UpY (pushF f n x) (n + 1) × Nat) : SV := SV.c (SC.int false .i64 (((↑y.fst.val.snd : Int) - (1 : Int)).tdiv (2 : Int)))
def give_5 {f : Nat → Int} {x : Int} (n : Nat) (y : UpY (pushF f n x) (n + 1) × Nat) : ST := nv (SV.c (SC.sli 142 1 true 0 false (n + 1) y.snd)) (nv (SV.c (SC.elp 142 (addO true 0
 (((↑y.fst.val.snd : Int) - (1 : Int)).tdiv (2 : Int)).toNat) 1 0)) tn tn) tn
theorem give_vc (hi : Int) (n cap : Nat) (f : Nat → Int) (l : List (Int × Value)) (x : Int) : (callN Try.prog ([] : List (Smry Try.prog XL)) (fun _ _ => false) 100 20 96 [.c (.ptr 0 0), .c (.int false .i64 x)] ⟨[(0, stkC hi 1 n cap), (1, .ints 3 .i64 n cap f), (2, .mp false l)], 100⟩ (.both .nil (upS hi 142 (pushF f n x) (n + 1))) (fun v m _ => ∃ cap', outM (.c (.int true .i64 0)) [(0, stkC hi 10 (n + 1) cap'), (2, .mp false (delL l x)), (10, .ints 3 .i64 (n + 1) cap' (upF (pushF f n x) n n))] v m)) = (
 (∀ (y : Int × Value), List.Mem y l → ∃ (n : Int), y.snd = Value.int .i64 n) ∧ ((lookI l x == (0 : Int)) = true → ∃ (cap' : Nat), Stuck 550) ∧ ((lookI l x == (0 : Int)) = false →
 (cap = cap ∧ n ≤ n) ∧ True ∧ n + 1 ≤ 1000000000 ∧ ∀ (cap : Nat), n + 1 ≤ cap → ((-9223372036854775808 : Int) ≤ (↑(n + 1) : Int) - (1 : Int) ∧ (↑(n + 1) : Int) - (1 : Int) ≤
 (9223372036854775807 : Int)) ∧ (∃ (y : UpY (pushF f n x) (n + 1) × Nat), delL l x = delL l x ∧ x = x ∧ (↑y.fst.val.snd : Int) = (↑(n + 1) : Int) - (1 : Int) ∧ ((65535 : Int) =
 (65535 : Int) ∧ hi = hi ∧ (0 = 0 ∧ n + 1 = n + 1 ∧ y.snd = cap) ∧ True ∧ True) ∧ (n + 1 = n + 1 ∧ y.snd = cap ∧ ∀ (i : Nat), i < n + 1 → y.fst.val.1 i = if i < n then f i else x) ∧
 True) ∧ ∀ (y : UpY (pushF f n x) (n + 1) × Nat) (ρ : Nat → Value), ((0 : Int) < (2 : Int) ∧ (-9223372036854775808 : Int) ≤ (↑y.fst.val.snd : Int) - (1 : Int) ∧ (↑y.fst.val.snd :
 Int) - (1 : Int) ≤ (9223372036854775807 : Int)) ∧ ((((↑y.fst.val.snd : Int) - (1 : Int)).tdiv (2 : Int) == (↑y.fst.val.snd : Int)) = true → ∃ (cap' : Nat), ((65535 : Int) = (65535 :
 Int) ∧ hi = hi ∧ (0 = 0 ∧ n + 1 = n + 1 ∧ cap' = y.snd) ∧ True ∧ True) ∧ delL l x = delL l x ∧ (n + 1 = n + 1 ∧ cap' = y.snd ∧ ∀ (i : Nat), i < n + 1 → upF (pushF f n x) n n i =
 y.fst.val.1 i) ∧ True) ∧ ((((↑y.fst.val.snd : Int) - (1 : Int)).tdiv (2 : Int) == (↑y.fst.val.snd : Int)) = false → (give_2 n y) ∧ addO true 0 (↑y.fst.val.snd : Int).toNat < n + 1 ∧
 (give_1 n y) ∧ addO true 0 (((↑y.fst.val.snd : Int) - (1 : Int)).tdiv (2 : Int)).toNat < n + 1 ∧ ((!decide (y.fst.val.1 (addO true 0 (↑y.fst.val.snd : Int).toNat) < y.fst.val.1
 (addO true 0 (((↑y.fst.val.snd : Int) - (1 : Int)).tdiv (2 : Int)).toNat))) = true → ∃ (cap' : Nat), ((65535 : Int) = (65535 : Int) ∧ hi = hi ∧ (0 = 0 ∧ n + 1 = n + 1 ∧ cap' =
 y.snd) ∧ True ∧ True) ∧ delL l x = delL l x ∧ (n + 1 = n + 1 ∧ cap' = y.snd ∧ ∀ (i : Nat), i < n + 1 → upF (pushF f n x) n n i = y.fst.val.1 i) ∧ True) ∧ ((!decide (y.fst.val.1
 (addO true 0 (↑y.fst.val.snd : Int).toNat) < y.fst.val.1 (addO true 0 (((↑y.fst.val.snd : Int) - (1 : Int)).tdiv (2 : Int)).toNat))) = false → (give_2 n y) ∧ (give_1 n y) ∧ (addO
 true 0 (↑y.fst.val.snd : Int).toNat < n + 1 ∧ (addO true 0 (((↑y.fst.val.snd : Int) - (1 : Int)).tdiv (2 : Int)).toNat < n + 1 ∧ (give_1 n y) ∧ (addO true 0 (((↑y.fst.val.snd : Int)
 - (1 : Int)).tdiv (2 : Int)).toNat < n + 1 ∧ (give_2 n y) ∧ (addO true 0 (↑y.fst.val.snd : Int).toNat < n + 1 ∧ ∃ (y' : UpY (pushF f n x) (n + 1) × Nat), y'.fst.val.snd <
 y.fst.val.snd ∧ delL l x = delL l x ∧ x = x ∧ (↑y'.fst.val.snd : Int) = ((↑y.fst.val.snd : Int) - (1 : Int)).tdiv (2 : Int) ∧ ((65535 : Int) = (65535 : Int) ∧ hi = hi ∧ (0 = 0 ∧ n +
 1 = n + 1 ∧ y'.snd = y.snd) ∧ True ∧ True) ∧ (n + 1 = n + 1 ∧ y'.snd = y.snd ∧ ∀ (i : Nat), i < n + 1 → y'.fst.val.1 i = if i = addO true 0 (↑y.fst.val.snd : Int).toNat then
 y.fst.val.1 (addO true 0 (((↑y.fst.val.snd : Int) - (1 : Int)).tdiv (2 : Int)).toNat) else if i = addO true 0 (((↑y.fst.val.snd : Int) - (1 : Int)).tdiv (2 : Int)).toNat then
 y.fst.val.1 (addO true 0 (↑y.fst.val.snd : Int).toNat) else y.fst.val.1 i) ∧ True) ∧ True) ∧ True) ∧ True) ∧ (∀ (K : KO XL), (fun X0 : Prop => addO true 0 (↑y.fst.val.snd :
 Int).toNat < n + 1 ∧ (addO true 0 (((↑y.fst.val.snd : Int) - (1 : Int)).tdiv (2 : Int)).toNat < n + 1 ∧ (give_1 n y) ∧ (addO true 0 (((↑y.fst.val.snd : Int) - (1 : Int)).tdiv (2 :
 Int)).toNat < n + 1 ∧ (give_2 n y) ∧ (addO true 0 (↑y.fst.val.snd : Int).toNat < n + 1 ∧ X0) ∧ True) ∧ True) ∧ True → addO true 0 (((↑y.fst.val.snd : Int) - (1 : Int)).tdiv (2 :
 Int)).toNat < n + 1 ∧ (addO true 0 (↑y.fst.val.snd : Int).toNat < n + 1 ∧ (give_1 n y) ∧ (addO true 0 (((↑y.fst.val.snd : Int) - (1 : Int)).tdiv (2 : Int)).toNat < n + 1 ∧ (give_2 n
 y) ∧ (addO true 0 (↑y.fst.val.snd : Int).toNat < n + 1 ∧ X0) ∧ True) ∧ True) ∧ True) (K (SF.mk 20 (nv (SV.c (SC.sli 142 1 true 0 false (n + 1) y.snd)) (nv (give_4 y) (nu (nv (give_4
 y) (nv (give_4 y) tn tn) tn) (nv (give_3 f n x y) (nv (SV.c (SC.elp 142 (addO true 0 (↑y.fst.val.snd : Int).toNat) 1 0)) tn tn) tn)) (nu (nv (give_3 f n x y) (nv (SV.c (SC.int false
 .i64 (y.fst.val.1 (addO true 0 (((↑y.fst.val.snd : Int) - (1 : Int)).tdiv (2 : Int)).toNat)) Bd.any)) tn tn) tn) (nv (SV.c (si .i64 (y.fst.val.1 (addO true 0 (↑y.fst.val.snd :
 Int).toNat)))) tn tn))) (nv (give_3 f n x y) (nu (give_5 n y) (nv (SV.c (SC.elp 142 (addO true 0 (↑y.fst.val.snd : Int).toNat) 1 0)) tn tn)) (nv (SV.c (SC.sli 142 1 true 0 false (n
 + 1) y.snd)) (give_5 n y) (nv (SV.c (SC.sli 142 1 true 0 false (n + 1) y.snd)) tn tn)))) []) (Mem.mk [(0, SO.cells [SC.int true .i64 (65535 : Int), SC.int false .i64 hi, SC.sli 142
 1 true 0 false (n + 1) y.snd, SC.map 2] (OfNat.ofNat 272)), (142, SO.ints (OfNat.ofNat 3) .i64 (n + 1) y.snd fun (j : Nat) => if j = addO true 0 (↑y.fst.val.snd : Int).toNat then
 y.fst.val.fst (addO true 0 (((↑y.fst.val.snd : Int) - (1 : Int)).tdiv (2 : Int)).toNat) else if j = addO true 0 (((↑y.fst.val.snd : Int) - (1 : Int)).tdiv (2 : Int)).toNat then
 y.fst.val.fst (addO true 0 (↑y.fst.val.snd : Int).toNat) else y.fst.val.fst j), (2, SO.mp false (delL l x)), (141, SO.cells [SC.int false .i64 x] 3)] 215) ((Scr.nil.both
 Scr.nil).both (Scr.nil.both Scr.nil)))) ∧ True)))) := by
  kernel_rfl
theorem give_run (hi : Int) (n cap : Nat) (f : Nat → Int) (l : List (Int × Value)) (x : Int) (hc : AllInt .i64 l ∧ lookI l x ≠ 0 ∧ n < 100000) : Run (callN Try.prog ([] : List (Smry Try.prog XL)) (fun _ _ => false) 100 20 96 [.c (.ptr 0 0), .c (.int false .i64 x)] ⟨[(0, stkC hi 1 n cap), (1, .ints 3 .i64 n cap f), (2, .mp false l)], 100⟩ (.both .nil (upS hi 142 (pushF f n x) (n + 1))) (fun v m _ => ∃ cap', outM (.c (.int true .i64 0)) [(0, stkC hi 10 (n + 1) cap'), (2, .mp false (delL l x)), (10, .ints 3 .i64 (n + 1) cap' (upF (pushF f n x) n n))] v m)) := by
  constructor
  rw [give_vc]
  delta give_1 give_2 give_3 give_4 give_5
  obtain ⟨hl, hx, hn⟩ := hc
  have hxb : (lookI l x == 0) = false := by simpa using hx
  refine ⟨hl, fun h => absurd (hxb.symm.trans h) (by decide), fun _ => ⟨⟨rfl, Nat.le_refl n⟩, trivial, by omega, fun cap hcap => ⟨by omega, ⟨⟨⟨⟨(pushF f n x, n), ⟨by omega, by omega⟩, by rw [Nat.add_sub_cancel]⟩, cap⟩, ?_⟩, fun y ρ => ?_⟩⟩⟩⟩
  · repeat' (with_reducible first | apply And.intro | exact trivial | exact Eq.refl _)
    all_goals first | (intro i hi; rfl) | (simp only []; omega) | skip
  · obtain ⟨⟨⟨g, j⟩, ⟨hj, hn1⟩, hu⟩, cap2⟩ := y
    simp only [Nat.add_sub_cancel] at hj hu ⊢
    have e0 : ((j : Int) - 1).tdiv 2 = if j = 0 then 0 else (((j - 1) / 2 : Nat) : Int) := by
      split
      · rename_i h; subst h; rfl
      · rw [Int.tdiv_eq_ediv_of_nonneg (by omega)]; omega
    have par : ∀ k : Nat, j ≠ 0 → k = (j - 1) / 2 → k < j := fun k h0 hk => by omega
    have done : (j ≠ 0 → ¬ g j < g ((j - 1) / 2)) → ∀ i, i < n + 1 → upF (pushF f n x) n n i = g i := fun h i _ => by rw [← hu, upF_stop h]
    by_cases hj0 : j = 0
    · rw [if_pos hj0] at e0
      rw [e0]
      refine ⟨⟨by decide, by omega, by omega⟩, fun _ => ⟨cap2, ?_⟩, fun h => ?_⟩
      · repeat' (with_reducible first | apply And.intro | exact trivial | exact Eq.refl _)
        exact done fun h => absurd hj0 h
      · subst hj0
        exact absurd h (by decide)
    · rw [if_neg hj0] at e0
      obtain ⟨k, hk⟩ : ∃ k, k = (j - 1) / 2 := ⟨_, rfl⟩
      rw [← hk] at e0 done
      rw [e0]
      have hkj := par k hj0 hk
      have hne : ((k : Int) == (j : Int)) = false := by simpa using (by omega : ¬ (k : Int) = (j : Int))
      refine ⟨⟨by decide, by omega, by omega⟩, fun h => absurd (hne.symm.trans h) (by decide), fun _ => ?_⟩
      simp only [addO_eq, Int.toNat_natCast, Nat.zero_add]
      have ok : (0 : Int) ≤ (j : Int) ∧ (j : Int) < ((n + 1 : Nat) : Int) := by omega
      have ok2 : (0 : Int) ≤ (k : Int) ∧ (k : Int) < ((n + 1 : Nat) : Int) := by omega
      have hj1 : j < n + 1 := by omega
      have hk1 : k < n + 1 := by omega
      refine ⟨ok, hj1, ok2, hk1, fun h => ⟨cap2, ?_⟩, fun h => ?_⟩
      · repeat' (with_reducible first | apply And.intro | exact trivial | exact Eq.refl _)
        refine done fun _ hlt => ?_
        rw [decide_eq_true hlt] at h
        cases h
      · have hlt : g j < g k := by simpa using h
        have hstep := upF_step (f := g) (k := j) (Nat.le_refl j) hj0 (by rw [← hk]; exact hlt)
        rw [← hk] at hstep
        have hy : upF (swF g k j) k k = upF (pushF f n x) n n := by
          rw [← hu, hstep]
          exact upF_fuel _ _ _ _ (Nat.le_refl k) (by omega)
        have hkj' : k ≠ j := by omega
        have hkj' : k ≠ j := by omega
        have hY : ∃ y' : UpY (pushF f n x) (n + 1) × Nat, y'.1.1 = (swF g k j, k) ∧ y'.2 = cap2 := ⟨⟨⟨(swF g k j, k), ⟨by omega, hn1⟩, by simp only [Nat.add_sub_cancel]; exact hy⟩, cap2⟩, rfl, rfl⟩
        repeat' (with_reducible first | assumption | apply And.intro | exact trivial | exact Eq.refl _)
        all_goals try (intro K; simp only [and_imp]; intros; repeat' (with_reducible first | assumption | apply And.intro | exact trivial | exact Eq.refl _))
        obtain ⟨y', e1, e2⟩ := hY
        refine ⟨y', ?_⟩
        rw [e1, e2]
        repeat' (with_reducible first | assumption | apply And.intro | exact trivial | exact Eq.refl _)
        exact fun i _ => swF_eq hkj' i
def giveN_1 {x : Int} (y : UpY (fun (x_1 : Nat) => x) 1 × Nat) : Prop := (0 : Int) ≤ ((↑y.fst.val.snd : Int) - (1 : Int)).tdiv (2 : Int) ∧ ((↑y.fst.val.snd : Int) - (1 : Int)).tdiv
 (2 : Int) < (1 : Int)
def giveN_2 {x : Int} (y : UpY (fun (x_1 : Nat) => x) 1 × Nat) : Prop := (0 : Int) ≤ (↑y.fst.val.snd : Int) ∧ (↑y.fst.val.snd : Int) < (1 : Int)
def giveN_3 (x : Int) (y : UpY (fun (x_1 : Nat) => x) 1 × Nat) : SV := SV.c (SC.int false .i64 (↑y.fst.val.snd : Int) (Bd.w (0 : Int) (100000 : Int) (upS._proof_1 (fun (x_1 : Nat)
 => x) 1 y)))
def giveN_4 {x : Int} (y : UpY (fun (x_1 : Nat) => x) 1 × Nat) : ST := nv (SV.c (SC.sli 142 1 true 0 false 1 y.snd)) (nv (SV.c (SC.elp 142 (addO true 0 (((↑y.fst.val.snd : Int) - (1
 : Int)).tdiv (2 : Int)).toNat) 1 0)) tn tn) tn
def giveN_5 {x : Int} (y : UpY (fun (x_1 : Nat) => x) 1 × Nat) : SV := SV.c (SC.int false .i64 (((↑y.fst.val.snd : Int) - (1 : Int)).tdiv (2 : Int)))
def giveN_6 {x : Int} (y : UpY (fun (x_1 : Nat) => x) 1 × Nat) (X0 : Prop) : Prop := (giveN_1 y) ∧ (addO true 0 (((↑y.fst.val.snd : Int) - (1 : Int)).tdiv (2 : Int)).toNat < 1 ∧
 (giveN_2 y) ∧ (addO true 0 (↑y.fst.val.snd : Int).toNat < 1 ∧ X0) ∧ True) ∧ True
theorem giveN_vc (hi : Int) (l : List (Int × Value)) (x : Int) : (callN Try.prog ([] : List (Smry Try.prog XL)) (fun _ _ => false) 100 20 96 [.c (.ptr 0 0), .c (.int false .i64 x)] ⟨[(0, .cells [.int true .i64 65535, .int false .i64 hi, .nls, .map 2] 272), (2, .mp false l)], 100⟩ (.both .nil (upS hi 142 (fun _ => x) 1)) (fun v m _ => ∃ cap', outM (.c (.int true .i64 0)) [(0, stkC hi 10 1 cap'), (2, .mp false (delL l x)), (10, .ints 3 .i64 1 cap' (fun _ => x))] v m)) = (
 (∀ (y : Int × Value), List.Mem y l → ∃ (n : Int), y.snd = Value.int .i64 n) ∧ ((lookI l x == (0 : Int)) = true → ∃ (cap' : Nat), Stuck 521) ∧ ((lookI l x == (0 : Int)) = false →
 True ∧ True ∧ 1 ≤ 1000000000 ∧ ∀ (cap : Nat), 1 ≤ cap → (∃ (y : UpY (fun (x_1 : Nat) => x) 1 × Nat), delL l x = delL l x ∧ x = x ∧ (↑y.fst.val.snd : Int) = (0 : Int) ∧ ((65535 :
 Int) = (65535 : Int) ∧ hi = hi ∧ (0 = 0 ∧ 1 = 1 ∧ y.snd = cap) ∧ True ∧ True) ∧ (1 = 1 ∧ y.snd = cap ∧ y.fst.val.1 0 = x ∧ True) ∧ True) ∧ ∀ (y : UpY (fun (x_1 : Nat) => x) 1 × Nat)
 (ρ : Nat → Value), ((0 : Int) < (2 : Int) ∧ (-9223372036854775808 : Int) ≤ (↑y.fst.val.snd : Int) - (1 : Int) ∧ (↑y.fst.val.snd : Int) - (1 : Int) ≤ (9223372036854775807 : Int)) ∧
 ((((↑y.fst.val.snd : Int) - (1 : Int)).tdiv (2 : Int) == (↑y.fst.val.snd : Int)) = true → ∃ (cap' : Nat), ((65535 : Int) = (65535 : Int) ∧ hi = hi ∧ (0 = 0 ∧ 1 = 1 ∧ cap' = y.snd) ∧
 True ∧ True) ∧ delL l x = delL l x ∧ (1 = 1 ∧ cap' = y.snd ∧ ∀ (i : Nat), i < 1 → x = y.fst.val.1 i) ∧ True) ∧ ((((↑y.fst.val.snd : Int) - (1 : Int)).tdiv (2 : Int) ==
 (↑y.fst.val.snd : Int)) = false → (giveN_2 y) ∧ addO true 0 (↑y.fst.val.snd : Int).toNat < 1 ∧ (giveN_1 y) ∧ addO true 0 (((↑y.fst.val.snd : Int) - (1 : Int)).tdiv (2 : Int)).toNat
 < 1 ∧ ((!decide (y.fst.val.1 (addO true 0 (↑y.fst.val.snd : Int).toNat) < y.fst.val.1 (addO true 0 (((↑y.fst.val.snd : Int) - (1 : Int)).tdiv (2 : Int)).toNat))) = true → ∃ (cap' :
 Nat), ((65535 : Int) = (65535 : Int) ∧ hi = hi ∧ (0 = 0 ∧ 1 = 1 ∧ cap' = y.snd) ∧ True ∧ True) ∧ delL l x = delL l x ∧ (1 = 1 ∧ cap' = y.snd ∧ ∀ (i : Nat), i < 1 → x = y.fst.val.1
 i) ∧ True) ∧ ((!decide (y.fst.val.1 (addO true 0 (↑y.fst.val.snd : Int).toNat) < y.fst.val.1 (addO true 0 (((↑y.fst.val.snd : Int) - (1 : Int)).tdiv (2 : Int)).toNat))) = false →
 (giveN_2 y) ∧ (giveN_1 y) ∧ (addO true 0 (↑y.fst.val.snd : Int).toNat < 1 ∧ (addO true 0 (((↑y.fst.val.snd : Int) - (1 : Int)).tdiv (2 : Int)).toNat < 1 ∧ (giveN_1 y) ∧ (addO true 0
 (((↑y.fst.val.snd : Int) - (1 : Int)).tdiv (2 : Int)).toNat < 1 ∧ (giveN_2 y) ∧ (addO true 0 (↑y.fst.val.snd : Int).toNat < 1 ∧ ∃ (y' : UpY (fun (x_1 : Nat) => x) 1 × Nat),
 y'.fst.val.snd < y.fst.val.snd ∧ delL l x = delL l x ∧ x = x ∧ (↑y'.fst.val.snd : Int) = ((↑y.fst.val.snd : Int) - (1 : Int)).tdiv (2 : Int) ∧ ((65535 : Int) = (65535 : Int) ∧ hi =
 hi ∧ (0 = 0 ∧ 1 = 1 ∧ y'.snd = y.snd) ∧ True ∧ True) ∧ (1 = 1 ∧ y'.snd = y.snd ∧ ∀ (i : Nat), i < 1 → y'.fst.val.1 i = if i = addO true 0 (↑y.fst.val.snd : Int).toNat then
 y.fst.val.1 (addO true 0 (((↑y.fst.val.snd : Int) - (1 : Int)).tdiv (2 : Int)).toNat) else if i = addO true 0 (((↑y.fst.val.snd : Int) - (1 : Int)).tdiv (2 : Int)).toNat then
 y.fst.val.1 (addO true 0 (↑y.fst.val.snd : Int).toNat) else y.fst.val.1 i) ∧ True) ∧ True) ∧ True) ∧ True) ∧ (∀ (K : KO XL), (fun X0 : Prop => addO true 0 (↑y.fst.val.snd :
 Int).toNat < 1 ∧ (addO true 0 (((↑y.fst.val.snd : Int) - (1 : Int)).tdiv (2 : Int)).toNat < 1 ∧ giveN_6 y X0) ∧ True → addO true 0 (((↑y.fst.val.snd : Int) - (1 : Int)).tdiv (2 :
 Int)).toNat < 1 ∧ (addO true 0 (↑y.fst.val.snd : Int).toNat < 1 ∧ giveN_6 y X0) ∧ True) (K (SF.mk 20 (nv (SV.c (SC.sli 142 1 true 0 false 1 y.snd)) (nv (giveN_5 y) (nu (nv (giveN_5
 y) (nv (giveN_5 y) tn tn) tn) (nv (giveN_3 x y) (nv (SV.c (SC.elp 142 (addO true 0 (↑y.fst.val.snd : Int).toNat) 1 0)) tn tn) tn)) (nu (nv (giveN_3 x y) (nv (SV.c (SC.int false .i64
 (y.fst.val.1 (addO true 0 (((↑y.fst.val.snd : Int) - (1 : Int)).tdiv (2 : Int)).toNat)) Bd.any)) tn tn) tn) (nv (SV.c (si .i64 (y.fst.val.1 (addO true 0 (↑y.fst.val.snd :
 Int).toNat)))) tn tn))) (nv (giveN_3 x y) (nu (giveN_4 y) (nv (SV.c (SC.elp 142 (addO true 0 (↑y.fst.val.snd : Int).toNat) 1 0)) tn tn)) (nv (SV.c (SC.sli 142 1 true 0 false 1
 y.snd)) (giveN_4 y) (nv (SV.c (SC.sli 142 1 true 0 false 1 y.snd)) tn tn)))) []) (Mem.mk [(0, SO.cells [SC.int true .i64 (65535 : Int), SC.int false .i64 hi, SC.sli 142 1 true 0
 false 1 y.snd, SC.map 2] (OfNat.ofNat 272)), (142, SO.ints (OfNat.ofNat 3) .i64 1 y.snd fun (j : Nat) => if j = addO true 0 (↑y.fst.val.snd : Int).toNat then y.fst.val.fst (addO
 true 0 (((↑y.fst.val.snd : Int) - (1 : Int)).tdiv (2 : Int)).toNat) else if j = addO true 0 (((↑y.fst.val.snd : Int) - (1 : Int)).tdiv (2 : Int)).toNat then y.fst.val.fst (addO true
 0 (↑y.fst.val.snd : Int).toNat) else y.fst.val.fst j), (2, SO.mp false (delL l x)), (141, SO.cells [SC.int false .i64 x] 3)] 215) ((Scr.nil.both Scr.nil).both (Scr.nil.both
 Scr.nil)))) ∧ True)))) := by
  kernel_rfl
theorem giveN_run (hi : Int) (l : List (Int × Value)) (x : Int) (hc : AllInt .i64 l ∧ lookI l x ≠ 0 ) : Run (callN Try.prog ([] : List (Smry Try.prog XL)) (fun _ _ => false) 100 20 96 [.c (.ptr 0 0), .c (.int false .i64 x)] ⟨[(0, .cells [.int true .i64 65535, .int false .i64 hi, .nls, .map 2] 272), (2, .mp false l)], 100⟩ (.both .nil (upS hi 142 (fun _ => x) 1)) (fun v m _ => ∃ cap', outM (.c (.int true .i64 0)) [(0, stkC hi 10 1 cap'), (2, .mp false (delL l x)), (10, .ints 3 .i64 1 cap' (fun _ => x))] v m)) := by
  constructor
  rw [giveN_vc]
  delta giveN_1 giveN_2 giveN_3 giveN_4 giveN_5 giveN_6
  obtain ⟨hl, hx⟩ := hc
  have hxb : (lookI l x == 0) = false := by simpa using hx
  refine ⟨hl, fun h => absurd (hxb.symm.trans h) (by decide), fun _ => ⟨trivial, trivial, by omega, fun cap hcap => ⟨⟨⟨⟨(fun _ => x, 0), ⟨by omega, by omega⟩, rfl⟩, cap⟩, ?_⟩, fun y ρ => ?_⟩⟩⟩
  · repeat' (with_reducible first | apply And.intro | exact trivial | exact Eq.refl _)
    all_goals first | rfl | (simp only []; omega) | skip
  · obtain ⟨⟨⟨g, j⟩, ⟨hj, hn1⟩, hu⟩, cap2⟩ := y
    simp only at hj hu ⊢
    have hj0 : j = 0 := by omega
    subst hj0
    have hu : g = fun _ => x := hu
    refine ⟨⟨by decide, by omega, by omega⟩, fun _ => ⟨cap2, ?_⟩, fun h => absurd h (by decide)⟩
    repeat' (with_reducible first | apply And.intro | exact trivial | exact Eq.refl _)
    exact fun i _ => by rw [hu]
def downF (m : Nat) (f : Nat → Int) : Nat → Nat → (Nat → Int)
  | 0, _ => f
  | k + 1, i => if 2 * i + 1 < m then (if 2 * i + 2 < m ∧ f (2 * i + 2) < f (2 * i + 1) then (if f (2 * i + 2) < f i then downF m (swF f i (2 * i + 2)) k (2 * i + 2) else f)
      else (if f (2 * i + 1) < f i then downF m (swF f i (2 * i + 1)) k (2 * i + 1) else f)) else f
theorem downF_fuel : ∀ (K K' m : Nat) (f : Nat → Int) (i : Nat), m ≤ K + i → m ≤ K' + i → downF m f K i = downF m f K' i
  | 0, 0, _, _, _, _, _ => rfl
  | 0, K' + 1, m, f, i, h, _ => by
    simp only [downF]
    rw [if_neg (by omega)]
  | K + 1, 0, m, f, i, _, h => by
    simp only [downF]
    rw [if_neg (by omega)]
  | K + 1, K' + 1, m, f, i, h, h' => by
    simp only [downF]
    split
    · split <;> split <;> first | rfl | exact downF_fuel K K' _ _ _ (by omega) (by omega)
    · rfl
theorem downF_keep : ∀ (K m : Nat) (f : Nat → Int) (i j : Nat), i < m → m ≤ j → downF m f K i j = f j
  | 0, _, _, _, _, _, _ => rfl
  | K + 1, m, f, i, j, hi, h => by
    simp only [downF]
    split
    · split <;> split <;> first | rfl | (rw [downF_keep K m _ _ _ (by omega) h]; unfold swF; rw [if_neg (by omega), if_neg (by omega)])
    · rfl
theorem downF_unf (m : Nat) (g : Nat → Int) (i : Nat) : downF m g m i = if 2 * i + 1 < m then (if 2 * i + 2 < m ∧ g (2 * i + 2) < g (2 * i + 1) then (if g (2 * i + 2) < g i then downF m (swF g i (2 * i + 2)) m (2 * i + 2) else g)
      else (if g (2 * i + 1) < g i then downF m (swF g i (2 * i + 1)) m (2 * i + 1) else g)) else g := by
  cases m with
  | zero => rfl
  | succ m =>
    conv => lhs; unfold downF
    rw [downF_fuel m (m + 1) (m + 1) _ (2 * i + 2) (by omega) (by omega), downF_fuel m (m + 1) (m + 1) _ (2 * i + 1) (by omega) (by omega)]
abbrev DnY (m : Nat) (f : Nat → Int) : Type := {p : (Nat → Int) × Nat // (p.2 ≤ m ∧ m < 100000 ∧ p.1 m = f m) ∧ downF m p.1 m p.2 = downF m f m 0}
theorem DnY.bd {m : Nat} {f : Nat → Int} (y : DnY m f) : (0 : Int) ≤ (y.1.2 : Int) ∧ (y.1.2 : Int) ≤ 100000 := by have := y.2.1; omega
theorem DnY.next {m : Nat} {f : Nat → Int} (y : DnY m f) (j : Nat) (h1 : y.1.2 < j) (h2 : j < m) (h3 : downF m (swF y.1.1 y.1.2 j) m j = downF m y.1.1 m y.1.2) : ∃ y' : DnY m f, y'.1.1 = swF y.1.1 y.1.2 j ∧ y'.1.2 = j :=
  ⟨⟨(swF y.1.1 y.1.2 j, j), ⟨by omega, y.2.1.2.1, by simp only [swF]; rw [if_neg (by omega), if_neg (by omega)]; exact y.2.1.2.2⟩, h3.trans y.2.2⟩, rfl, rfl⟩
def downS (NM : Nat) (f : Nat → Int) (m cap : Nat) : Scr XL := .inv (liveL [0, 1, 2, 6, 7, 8, 9, 10]) [NM] (DnY m f) (fun _ y => ([(7, .c (.int false .i64 (y.1.2 : Int) (.w 0 100000 y.bd)))], [(NM, .ints 3 .i64 (m + 1) cap y.1.1)])) (fun y => m + 1 - y.1.2) fun _ => bN 5
def take_13 (m : Nat) : Prop := (-9223372036854775808 : Int) ≤ (↑(m + 1) : Int) - (1 : Int) ∧ (↑(m + 1) : Int) - (1 : Int) ≤ (9223372036854775807 : Int)
def take_11 (m : Nat) : Prop := (0 : Int) ≤ (↑(m + 1) : Int) - (1 : Int) ∧ (↑(m + 1) : Int) - (1 : Int) < (↑(m + 1) : Int)
def take_1 (m cap : Nat) (f : Nat → Int) (y : DnY m (swF f 0 m)) (hi : Int) (l : List (Int × Value)) : Prop := (take_13 m) ∧ (take_11 m) ∧ addO true 0 ((↑(m + 1) : Int) - (1 :
 Int)).toNat < m + 1 ∧ (take_13 m) ∧ ((0 : Int) ≤ (↑(m + 1) : Int) - (1 : Int) ∧ (↑(m + 1) : Int) - (1 : Int) ≤ (↑cap : Int)) ∧ ((y.val.1 (addO true 0 ((↑(m + 1) : Int) - (1 :
 Int)).toNat) == (0 : Int)) = true → f 0 = (0 : Int) ∧ Stuck 550) ∧ ((y.val.1 (addO true 0 ((↑(m + 1) : Int) - (1 : Int)).toNat) == (0 : Int)) = false → f 0 = y.val.1 (addO true 0
 ((↑(m + 1) : Int) - (1 : Int)).toNat) ∧ ((65535 : Int) = (65535 : Int) ∧ hi = hi ∧ (0 = 0 ∧ m = ((↑(m + 1) : Int) - (1 : Int)).toNat ∧ cap = cap) ∧ True ∧ True) ∧ (m + 1 = m + 1 ∧
 cap = cap ∧ ∀ (i : Nat), i < m + 1 → downF m (swF f 0 m) m 0 i = y.val.1 i) ∧ updL l (f 0) (Value.int .i64 (1 : Int)) = updL l (y.val.fst (addO true 0 ((↑(m + 1) : Int) - (1 :
 Int)).toNat)) (Value.int .i64 (1 : Int)) ∧ True)
def take_10 {m : Nat} {f : Nat → Int} (y : DnY m (swF f 0 m)) : SV := SV.c (SC.int false .i64 (↑y.val.snd : Int) (Bd.w (0 : Int) (100000 : Int) (DnY.bd y)))
def take_8 {m : Nat} {f : Nat → Int} (y : DnY m (swF f 0 m)) : SV := SV.c (SC.int false .i64 ((2 : Int) * (↑y.val.snd : Int) + (1 : Int)) (Bd.w (1 : Int) (200001 : Int)
 (Bd.add._proof_1 ((2 : Int) * Int.ofNat 0) ((2 : Int) * Int.ofNat (99999 + 1)) (mul_bd Bd.of._proof_1 (DnY.bd y) rfl) (1 : Int) (1 : Int) Bd.of._proof_1)))
def take_12 {f : Nat → Int} (m cap : Nat) (y : DnY m (swF f 0 m)) : ST := nv (SV.c (SC.sli 1 1 true 0 false (m + 1) cap)) (nv (SV.c (SC.elp 1 (addO true 0 (↑y.val.snd : Int).toNat)
 1 0)) tn tn) tn
def take_2 {f : Nat → Int} (m cap : Nat) (y : DnY m (swF f 0 m)) : SF := SF.mk 20 (nv (SV.c (SC.sli 1 1 true 0 false (m + 1) cap)) (nv (take_10 y) (nu (nv (take_10 y) (nv (take_10
 y) tn tn) tn) (nv (take_8 y) (nv (SV.c (SC.elp 1 (addO true 0 ((2 : Int) * (↑y.val.snd : Int) + (1 : Int)).toNat) 1 0)) tn tn) tn)) (nu (nv (take_8 y) (nv (SV.c (si .i64 (y.val.1
 (addO true 0 (↑y.val.snd : Int).toNat)))) tn tn) tn) (nv (SV.c (SC.int false .i64 (y.val.1 (addO true 0 ((2 : Int) * (↑y.val.snd : Int) + (1 : Int)).toNat)) Bd.any)) tn tn))) (nv
 (take_8 y) (nu (take_12 m cap y) (nv (SV.c (SC.elp 1 (addO true 0 ((2 : Int) * (↑y.val.snd : Int) + (1 : Int)).toNat) 1 0)) tn tn)) (nv (SV.c (SC.sli 1 1 true 0 false (m + 1) cap))
 (take_12 m cap y) (nv (SV.c (SC.sli 1 1 true 0 false (m + 1) cap)) tn tn)))) []
def take_3 {f : Nat → Int} (m : Nat) (y : DnY m (swF f 0 m)) : Prop := (0 : Int) ≤ (2 : Int) * (↑y.val.snd : Int) + (1 : Int) ∧ (2 : Int) * (↑y.val.snd : Int) + (1 : Int) < (↑(m +
 1) : Int)
def take_4 {f : Nat → Int} (m : Nat) (y : DnY m (swF f 0 m)) : Prop := (0 : Int) ≤ (↑y.val.snd : Int) ∧ (↑y.val.snd : Int) < (↑(m + 1) : Int)
def take_5 {m : Nat} {f : Nat → Int} (y : DnY m (swF f 0 m)) : SV := SV.c (SC.int false .i64 ((2 : Int) * (↑y.val.snd : Int) + (1 : Int) + (1 : Int)) (Bd.w (2 : Int) (200002 : Int)
 (Bd.add._proof_1 (Int.ofNat (0 + 1)) (Int.ofNat (200000 + 1)) (Bd.add._proof_1 ((2 : Int) * Int.ofNat 0) ((2 : Int) * Int.ofNat (99999 + 1)) (mul_bd Bd.of._proof_1 (DnY.bd y) rfl)
 (1 : Int) (1 : Int) Bd.of._proof_1) (1 : Int) (1 : Int) Bd.of._proof_1)))
def take_6 {f : Nat → Int} (m : Nat) (y : DnY m (swF f 0 m)) : Prop := (0 : Int) ≤ (2 : Int) * (↑y.val.snd : Int) + (1 : Int) + (1 : Int) ∧ (2 : Int) * (↑y.val.snd : Int) + (1 :
 Int) + (1 : Int) < (↑(m + 1) : Int)
def take_7 (m : Nat) (f : Nat → Int) (y : DnY m (swF f 0 m)) (hi : Int) (cap : Nat) (l : List (Int × Value)) : Prop := (addO true 0 ((2 : Int) * (↑y.val.snd : Int) + (1 :
 Int)).toNat < m + 1 ∧ ∃ (y' : DnY m (swF f 0 m)), m + 1 - y'.val.snd < m + 1 - y.val.snd ∧ (↑(m + 1) : Int) - (1 : Int) = (↑(m + 1) : Int) - (1 : Int) ∧ hi = hi ∧ 0 = 0 ∧ m + 1 = m
 + 1 ∧ cap = cap ∧ l = l ∧ (↑y'.val.snd : Int) = (2 : Int) * (↑y.val.snd : Int) + (1 : Int) ∧ (m + 1 = m + 1 ∧ cap = cap ∧ ∀ (i : Nat), i < m + 1 → y'.val.1 i = if i = addO true 0
 ((2 : Int) * (↑y.val.snd : Int) + (1 : Int)).toNat then y.val.1 (addO true 0 (↑y.val.snd : Int).toNat) else if i = addO true 0 (↑y.val.snd : Int).toNat then y.val.1 (addO true 0 ((2
 : Int) * (↑y.val.snd : Int) + (1 : Int)).toNat) else y.val.1 i) ∧ True) ∧ True
def take_9 {f : Nat → Int} (m : Nat) (y : DnY m (swF f 0 m)) (X0 : Prop) : Prop := (take_4 m y) ∧ (addO true 0 (↑y.val.snd : Int).toNat < m + 1 ∧ (take_3 m y) ∧ (addO true 0 ((2 :
 Int) * (↑y.val.snd : Int) + (1 : Int)).toNat < m + 1 ∧ X0) ∧ True) ∧ True
def take_14 (hi : Int) (m cap : Nat) : List SC := [SC.int true .i64 (65535 : Int), SC.int false .i64 hi, SC.sli 1 1 true 0 false (m + 1) cap, SC.map 2]
def take_15 (m : Nat) (X0 : Prop) : Prop := ((0 : Int) ≤ (0 : Int) ∧ (0 : Int) < (↑(m + 1) : Int)) ∧ (0 < m + 1 ∧ (take_11 m) ∧ (addO true 0 ((↑(m + 1) : Int) - (1 : Int)).toNat < m
 + 1 ∧ X0) ∧ True) ∧ True
theorem take_vc (hi : Int) (m cap : Nat) (f : Nat → Int) (l : List (Int × Value)) : (callN Try.prog ([] : List (Smry Try.prog XL)) (fun _ _ => false) 100 20 89 [.c (.ptr 0 0)] ⟨[(0, stkC hi 1 (m + 1) cap), (1, .ints 3 .i64 (m + 1) cap f), (2, .mp false l)], 100⟩ (.t (downS 1 (swF f 0 m) m cap)) (fun v m' _ => outM (.tup [(false, [.int false .i64 (f 0)]), (false, [.int true .i64 0])]) [(0, stkC hi 1 m cap), (1, .ints 3 .i64 (m + 1) cap (downF m (swF f 0 m) m 0)), (2, .mp false (updL l (f 0) (.int .i64 1)))] v m')) = (
 decide ((↑(m + 1) : Int) > (0 : Int)) = true ∧ (take_13 m) ∧ (take_11 m) ∧ ((0 : Int) ≤ (0 : Int) ∧ (0 : Int) < (↑(m + 1) : Int)) ∧ (addO true 0 ((↑(m + 1) : Int) - (1 : Int)).toNat
 < m + 1 ∧ (0 < m + 1 ∧ ((0 : Int) ≤ (0 : Int) ∧ (0 : Int) < (↑(m + 1) : Int)) ∧ (0 < m + 1 ∧ (take_11 m) ∧ (addO true 0 ((↑(m + 1) : Int) - (1 : Int)).toNat < m + 1 ∧ (∃ (y : DnY m
 (swF f 0 m)), (↑(m + 1) : Int) - (1 : Int) = (↑(m + 1) : Int) - (1 : Int) ∧ hi = hi ∧ 0 = 0 ∧ m + 1 = m + 1 ∧ cap = cap ∧ l = l ∧ (↑y.val.snd : Int) = (0 : Int) ∧ (m + 1 = m + 1 ∧
 cap = cap ∧ ∀ (i : Nat), i < m + 1 → y.val.1 i = if i = addO true 0 ((↑(m + 1) : Int) - (1 : Int)).toNat then f 0 else if i = 0 then f (addO true 0 ((↑(m + 1) : Int) - (1 :
 Int)).toNat) else f i) ∧ True) ∧ ∀ (y : DnY m (swF f 0 m)) (ρ : Nat → Value), (decide ((2 : Int) * (↑y.val.snd : Int) + (1 : Int) ≥ (↑(m + 1) : Int) - (1 : Int)) = true → take_1 m
 cap f y hi l) ∧ (decide ((2 : Int) * (↑y.val.snd : Int) + (1 : Int) ≥ (↑(m + 1) : Int) - (1 : Int)) = false → (decide ((2 : Int) * (↑y.val.snd : Int) + (1 : Int) + (1 : Int) < (↑(m
 + 1) : Int) - (1 : Int)) = true → (take_6 m y) ∧ addO true 0 ((2 : Int) * (↑y.val.snd : Int) + (1 : Int) + (1 : Int)).toNat < m + 1 ∧ (take_3 m y) ∧ addO true 0 ((2 : Int) *
 (↑y.val.snd : Int) + (1 : Int)).toNat < m + 1 ∧ (decide (y.val.1 (addO true 0 ((2 : Int) * (↑y.val.snd : Int) + (1 : Int) + (1 : Int)).toNat) < y.val.1 (addO true 0 ((2 : Int) *
 (↑y.val.snd : Int) + (1 : Int)).toNat)) = true → (take_6 m y) ∧ addO true 0 ((2 : Int) * (↑y.val.snd : Int) + (1 : Int) + (1 : Int)).toNat < m + 1 ∧ (take_4 m y) ∧ addO true 0
 (↑y.val.snd : Int).toNat < m + 1 ∧ ((!decide (y.val.1 (addO true 0 ((2 : Int) * (↑y.val.snd : Int) + (1 : Int) + (1 : Int)).toNat) < y.val.1 (addO true 0 (↑y.val.snd : Int).toNat)))
 = true → take_1 m cap f y hi l) ∧ ((!decide (y.val.1 (addO true 0 ((2 : Int) * (↑y.val.snd : Int) + (1 : Int) + (1 : Int)).toNat) < y.val.1 (addO true 0 (↑y.val.snd : Int).toNat)))
 = false → (take_6 m y) ∧ (take_4 m y) ∧ (addO true 0 ((2 : Int) * (↑y.val.snd : Int) + (1 : Int) + (1 : Int)).toNat < m + 1 ∧ (addO true 0 (↑y.val.snd : Int).toNat < m + 1 ∧ (take_4
 m y) ∧ (addO true 0 (↑y.val.snd : Int).toNat < m + 1 ∧ (take_6 m y) ∧ (addO true 0 ((2 : Int) * (↑y.val.snd : Int) + (1 : Int) + (1 : Int)).toNat < m + 1 ∧ ∃ (y' : DnY m (swF f 0
 m)), m + 1 - y'.val.snd < m + 1 - y.val.snd ∧ (↑(m + 1) : Int) - (1 : Int) = (↑(m + 1) : Int) - (1 : Int) ∧ hi = hi ∧ 0 = 0 ∧ m + 1 = m + 1 ∧ cap = cap ∧ l = l ∧ (↑y'.val.snd : Int)
 = (2 : Int) * (↑y.val.snd : Int) + (1 : Int) + (1 : Int) ∧ (m + 1 = m + 1 ∧ cap = cap ∧ ∀ (i : Nat), i < m + 1 → y'.val.1 i = if i = addO true 0 ((2 : Int) * (↑y.val.snd : Int) + (1
 : Int) + (1 : Int)).toNat then y.val.1 (addO true 0 (↑y.val.snd : Int).toNat) else if i = addO true 0 (↑y.val.snd : Int).toNat then y.val.1 (addO true 0 ((2 : Int) * (↑y.val.snd :
 Int) + (1 : Int) + (1 : Int)).toNat) else y.val.1 i) ∧ True) ∧ True) ∧ True) ∧ True) ∧ (∀ (K : KO XL), (fun X0 : Prop => addO true 0 ((2 : Int) * (↑y.val.snd : Int) + (1 : Int) + (1
 : Int)).toNat < m + 1 ∧ (addO true 0 (↑y.val.snd : Int).toNat < m + 1 ∧ (take_4 m y) ∧ (addO true 0 (↑y.val.snd : Int).toNat < m + 1 ∧ (take_6 m y) ∧ (addO true 0 ((2 : Int) *
 (↑y.val.snd : Int) + (1 : Int) + (1 : Int)).toNat < m + 1 ∧ X0) ∧ True) ∧ True) ∧ True → addO true 0 (↑y.val.snd : Int).toNat < m + 1 ∧ (addO true 0 ((2 : Int) * (↑y.val.snd : Int)
 + (1 : Int) + (1 : Int)).toNat < m + 1 ∧ (take_4 m y) ∧ (addO true 0 (↑y.val.snd : Int).toNat < m + 1 ∧ (take_6 m y) ∧ (addO true 0 ((2 : Int) * (↑y.val.snd : Int) + (1 : Int) + (1
 : Int)).toNat < m + 1 ∧ X0) ∧ True) ∧ True) ∧ True) (K (SF.mk 20 (nv (SV.c (SC.sli 1 1 true 0 false (m + 1) cap)) (nv (take_10 y) (nu (nv (take_10 y) (nv (take_10 y) tn tn) tn) (nv
 (take_5 y) (nv (SV.c (SC.elp 1 (addO true 0 ((2 : Int) * (↑y.val.snd : Int) + (1 : Int) + (1 : Int)).toNat) 1 0)) tn tn) tn)) (nu (nv (take_5 y) (nv (SV.c (si .i64 (y.val.1 (addO
 true 0 (↑y.val.snd : Int).toNat)))) tn tn) tn) (nv (SV.c (SC.int false .i64 (y.val.1 (addO true 0 ((2 : Int) * (↑y.val.snd : Int) + (1 : Int) + (1 : Int)).toNat)) Bd.any)) tn tn)))
 (nv (take_5 y) (nu (take_12 m cap y) (nv (SV.c (SC.elp 1 (addO true 0 ((2 : Int) * (↑y.val.snd : Int) + (1 : Int) + (1 : Int)).toNat) 1 0)) tn tn)) (nv (SV.c (SC.sli 1 1 true 0
 false (m + 1) cap)) (take_12 m cap y) (nv (SV.c (SC.sli 1 1 true 0 false (m + 1) cap)) tn tn)))) []) (Mem.mk [(1, SO.ints (OfNat.ofNat 3) .i64 (m + 1) cap fun (j : Nat) => if j =
 addO true 0 ((2 : Int) * (↑y.val.snd : Int) + (1 : Int) + (1 : Int)).toNat then y.val.fst (addO true 0 (↑y.val.snd : Int).toNat) else if j = addO true 0 (↑y.val.snd : Int).toNat
 then y.val.fst (addO true 0 ((2 : Int) * (↑y.val.snd : Int) + (1 : Int) + (1 : Int)).toNat) else y.val.fst j), (0, SO.cells (take_14 hi m cap) (OfNat.ofNat 272)), (2, SO.mp false
 l)] 250) (Scr.nil.both Scr.nil))) ∧ True)) ∧ (decide (y.val.1 (addO true 0 ((2 : Int) * (↑y.val.snd : Int) + (1 : Int) + (1 : Int)).toNat) < y.val.1 (addO true 0 ((2 : Int) *
 (↑y.val.snd : Int) + (1 : Int)).toNat)) = false → (take_3 m y) ∧ addO true 0 ((2 : Int) * (↑y.val.snd : Int) + (1 : Int)).toNat < m + 1 ∧ (take_4 m y) ∧ addO true 0 (↑y.val.snd :
 Int).toNat < m + 1 ∧ ((!decide (y.val.1 (addO true 0 ((2 : Int) * (↑y.val.snd : Int) + (1 : Int)).toNat) < y.val.1 (addO true 0 (↑y.val.snd : Int).toNat))) = true → take_1 m cap f y
 hi l) ∧ ((!decide (y.val.1 (addO true 0 ((2 : Int) * (↑y.val.snd : Int) + (1 : Int)).toNat) < y.val.1 (addO true 0 (↑y.val.snd : Int).toNat))) = false → (take_3 m y) ∧ (take_4 m y)
 ∧ (addO true 0 ((2 : Int) * (↑y.val.snd : Int) + (1 : Int)).toNat < m + 1 ∧ (addO true 0 (↑y.val.snd : Int).toNat < m + 1 ∧ (take_4 m y) ∧ (addO true 0 (↑y.val.snd : Int).toNat < m
 + 1 ∧ (take_3 m y) ∧ take_7 m f y hi cap l) ∧ True) ∧ True) ∧ (∀ (K : KO XL), (fun X0 : Prop => addO true 0 ((2 : Int) * (↑y.val.snd : Int) + (1 : Int)).toNat < m + 1 ∧ (addO true 0
 (↑y.val.snd : Int).toNat < m + 1 ∧ take_9 m y X0) ∧ True → addO true 0 (↑y.val.snd : Int).toNat < m + 1 ∧ (addO true 0 ((2 : Int) * (↑y.val.snd : Int) + (1 : Int)).toNat < m + 1 ∧
 take_9 m y X0) ∧ True) (K (take_2 m cap y) (Mem.mk [(1, SO.ints (OfNat.ofNat 3) .i64 (m + 1) cap fun (j : Nat) => if j = addO true 0 ((2 : Int) * (↑y.val.snd : Int) + (1 :
 Int)).toNat then y.val.fst (addO true 0 (↑y.val.snd : Int).toNat) else if j = addO true 0 (↑y.val.snd : Int).toNat then y.val.fst (addO true 0 ((2 : Int) * (↑y.val.snd : Int) + (1 :
 Int)).toNat) else y.val.fst j), (0, SO.cells (take_14 hi m cap) (OfNat.ofNat 272)), (2, SO.mp false l)] 248) (Scr.nil.both Scr.nil))) ∧ True))) ∧ (decide ((2 : Int) * (↑y.val.snd :
 Int) + (1 : Int) + (1 : Int) < (↑(m + 1) : Int) - (1 : Int)) = false → (take_3 m y) ∧ addO true 0 ((2 : Int) * (↑y.val.snd : Int) + (1 : Int)).toNat < m + 1 ∧ (take_4 m y) ∧ addO
 true 0 (↑y.val.snd : Int).toNat < m + 1 ∧ ((!decide (y.val.1 (addO true 0 ((2 : Int) * (↑y.val.snd : Int) + (1 : Int)).toNat) < y.val.1 (addO true 0 (↑y.val.snd : Int).toNat))) =
 true → take_1 m cap f y hi l) ∧ ((!decide (y.val.1 (addO true 0 ((2 : Int) * (↑y.val.snd : Int) + (1 : Int)).toNat) < y.val.1 (addO true 0 (↑y.val.snd : Int).toNat))) = false →
 (take_3 m y) ∧ (take_4 m y) ∧ (addO true 0 ((2 : Int) * (↑y.val.snd : Int) + (1 : Int)).toNat < m + 1 ∧ (addO true 0 (↑y.val.snd : Int).toNat < m + 1 ∧ (take_4 m y) ∧ (addO true 0
 (↑y.val.snd : Int).toNat < m + 1 ∧ (take_3 m y) ∧ take_7 m f y hi cap l) ∧ True) ∧ True) ∧ (∀ (K : KO XL), (fun X0 : Prop => addO true 0 ((2 : Int) * (↑y.val.snd : Int) + (1 :
 Int)).toNat < m + 1 ∧ (addO true 0 (↑y.val.snd : Int).toNat < m + 1 ∧ take_9 m y X0) ∧ True → addO true 0 (↑y.val.snd : Int).toNat < m + 1 ∧ (addO true 0 ((2 : Int) * (↑y.val.snd :
 Int) + (1 : Int)).toNat < m + 1 ∧ take_9 m y X0) ∧ True) (K (take_2 m cap y) (Mem.mk [(1, SO.ints (OfNat.ofNat 3) .i64 (m + 1) cap fun (j : Nat) => if j = addO true 0 ((2 : Int) *
 (↑y.val.snd : Int) + (1 : Int)).toNat then y.val.fst (addO true 0 (↑y.val.snd : Int).toNat) else if j = addO true 0 (↑y.val.snd : Int).toNat then y.val.fst (addO true 0 ((2 : Int) *
 (↑y.val.snd : Int) + (1 : Int)).toNat) else y.val.fst j), (0, SO.cells (take_14 hi m cap) (OfNat.ofNat 272)), (2, SO.mp false l)] 237) ((Scr.nil.both Scr.nil).both (Scr.nil.both
 Scr.nil)))) ∧ True)))) ∧ True) ∧ True) ∧ True) ∧ (∀ (K : KO XL), (fun X0 : Prop => addO true 0 ((↑(m + 1) : Int) - (1 : Int)).toNat < m + 1 ∧ (0 < m + 1 ∧ take_15 m X0) ∧ True → 0 <
 m + 1 ∧ (addO true 0 ((↑(m + 1) : Int) - (1 : Int)).toNat < m + 1 ∧ take_15 m X0) ∧ True) (K (SF.mk 20 (nv (SV.c (SC.sli 1 1 true 0 false (m + 1) cap)) (nv (SV.c (SC.int true .i64
 (0 : Int))) (nu (nv (SV.c (SC.int true .i64 (0 : Int))) (nv (SV.c (SC.int true .i64 (0 : Int))) tn tn) tn) (nv (SV.c (SC.int false .i64 ((↑(m + 1) : Int) - (1 : Int)))) (nv (SV.c
 (SC.elp 1 (addO true 0 ((↑(m + 1) : Int) - (1 : Int)).toNat) 1 0)) tn tn) tn)) (nu (nv (SV.c (SC.int false .i64 ((↑(m + 1) : Int) - (1 : Int)))) (nv (SV.c (si .i64 (f 0))) tn tn)
 tn) (nv (SV.c (SC.int false .i64 (f (addO true 0 ((↑(m + 1) : Int) - (1 : Int)).toNat)))) tn tn))) (nv (SV.c (SC.int false .i64 ((↑(m + 1) : Int) - (1 : Int)))) (nu (nv (SV.c
 (SC.sli 1 1 true 0 false (m + 1) cap)) (nv (SV.c (SC.elp 1 0 1 0)) tn tn) tn) (nv (SV.c (SC.elp 1 (addO true 0 ((↑(m + 1) : Int) - (1 : Int)).toNat) 1 0)) tn tn)) (nv (SV.c (SC.sli
 1 1 true 0 false (m + 1) cap)) (nv (SV.c (SC.sli 1 1 true 0 false (m + 1) cap)) (nv (SV.c (SC.elp 1 0 1 0)) tn tn) tn) (nv (SV.c (SC.sli 1 1 true 0 false (m + 1) cap)) tn tn)))) [])
 (Mem.mk [(0, SO.cells (take_14 hi m cap) (OfNat.ofNat 272)), (1, SO.ints (OfNat.ofNat 3) .i64 (m + 1) cap fun (j : Nat) => if j = addO true 0 ((↑(m + 1) : Int) - (1 : Int)).toNat
 then f (addO true 0 (Int.ofNat 0).toNat) else if j = addO true 0 (Int.ofNat 0).toNat then f (addO true 0 ((↑(m + 1) : Int) - (1 : Int)).toNat) else f j), (2, SO.mp false l)] 138)
 (downS 1 (swF f 0 m) m cap))) ∧ True) := by
  kernel_rfl
theorem take_run (hi : Int) (m cap : Nat) (f : Nat → Int) (l : List (Int × Value)) (hc : f 0 ≠ 0 ∧ m < 100000 ∧ m + 1 ≤ cap) : Run (callN Try.prog ([] : List (Smry Try.prog XL)) (fun _ _ => false) 100 20 89 [.c (.ptr 0 0)] ⟨[(0, stkC hi 1 (m + 1) cap), (1, .ints 3 .i64 (m + 1) cap f), (2, .mp false l)], 100⟩ (.t (downS 1 (swF f 0 m) m cap)) (fun v m' _ => outM (.tup [(false, [.int false .i64 (f 0)]), (false, [.int true .i64 0])]) [(0, stkC hi 1 m cap), (1, .ints 3 .i64 (m + 1) cap (downF m (swF f 0 m) m 0)), (2, .mp false (updL l (f 0) (.int .i64 1)))] v m')) := by
  constructor
  rw [take_vc]
  delta take_13 take_11 take_1 take_10 take_8 take_12 take_2 take_3 take_4 take_5 take_6 take_7 take_9 take_14 take_15
  obtain ⟨h0, hm, hcap⟩ := hc
  have h1 : ((m + 1 : Nat) : Int) - 1 = (m : Int) := by omega
  have hs : ∀ i, swF f 0 m i = if i = m then f 0 else if i = 0 then f m else f i := fun i => by
    unfold swF
    by_cases e : i = 0
    · subst e
      rw [if_pos rfl]
      by_cases e2 : 0 = m
      · subst e2; rfl
      · rw [if_neg e2, if_pos rfl]
    · rw [if_neg e]
      by_cases e2 : i = m
      · rw [if_pos e2, if_pos e2]
      · rw [if_neg e2, if_neg e2, if_neg e]
  have hy0 : ∃ y : DnY m (swF f 0 m), y.1.1 = swF f 0 m ∧ y.1.2 = 0 := ⟨⟨(swF f 0 m, 0), ⟨Nat.zero_le _, hm, rfl⟩, rfl⟩, rfl, rfl⟩
  repeat' (with_reducible first | assumption | apply And.intro | exact trivial | exact Eq.refl _ | (refine fun (K : KO XL) => ?_; simp only [and_imp]; intros; repeat' (first | assumption | apply And.intro | exact trivial); done))
  all_goals first | omega | (simp only [addO_eq, Nat.zero_add, h1, Int.toNat_natCast]; omega) | (simp only [decide_eq_true_eq]; omega) | skip
  · obtain ⟨y, e1, e2⟩ := hy0
    refine ⟨y, ?_⟩
    rw [e1, e2]
    simp only [addO_eq, Nat.zero_add, h1, Int.toNat_natCast]
    repeat' (with_reducible first | assumption | apply And.intro | exact trivial | exact Eq.refl _)
    all_goals first | exact rfl | exact fun i _ => hs i
  · intro y ρ
    have hnx := y.next
    obtain ⟨⟨g, i⟩, ⟨hi, _, hg⟩, hu⟩ := y
    simp only at hi hg hu hnx ⊢
    have hgm : g m = f 0 := by rw [hg, hs, if_pos rfl]
    have e1 : 2 * (i : Int) + 1 = ((2 * i + 1 : Nat) : Int) := by omega
    have e2 : ((2 * i + 1 : Nat) : Int) + 1 = ((2 * i + 2 : Nat) : Int) := by omega
    have ne0 : (f 0 == 0) = false := by simpa using h0
    have hun := downF_unf m g i
    have swe : ∀ a b : Nat, a ≠ b → ∀ k, swF g a b k = if k = b then g a else if k = a then g b else g k := fun a b => swF_eq
    have fin : downF m g m i = g → ∀ k, downF m (swF f 0 m) m 0 k = g k := fun h k => by rw [← hu, h]
    have nxt : ∀ j, i < j → j < m → downF m (swF g i j) m j = downF m g m i → ∃ y' : DnY m (swF f 0 m), y'.1.1 = swF g i j ∧ y'.1.2 = j := fun j h1 h2 h3 => hnx j h1 h2 h3
    clear hnx hs hy0
    repeat' (with_reducible first | assumption | apply And.intro | exact trivial | exact Eq.refl _ | (refine fun (K : KO XL) => ?_; simp only [and_imp]; intros; repeat' (first | assumption | apply And.intro | exact trivial); done) | intro _)
    all_goals simp only [addO_eq, Nat.zero_add, h1, e1, e2, Int.toNat_natCast, hgm, ne0, decide_eq_true_eq, decide_eq_false_iff_not, Bool.not_eq_true', Bool.not_eq_false', ge_iff_le, Int.ofNat_le, Int.ofNat_lt, Bool.false_eq_true] at *
    all_goals first | omega | contradiction | skip
    all_goals first
      | (apply fin; rw [hun]; split <;> (try split) <;> (try split) <;> first | rfl | (exfalso; omega))
      | (obtain ⟨y', a, b⟩ := nxt (2 * i + 1) (by omega) (by omega) (by rw [hun]; split <;> (try split) <;> (try split) <;> first | rfl | (exfalso; omega))
         refine ⟨y', ?_⟩
         rw [a, b]
         repeat' (with_reducible first | assumption | apply And.intro | exact trivial | exact Eq.refl _)
         all_goals first | omega | exact fun k _ => swe i (2 * i + 1) (by omega) k)
      | (obtain ⟨y', a, b⟩ := nxt (2 * i + 2) (by omega) (by omega) (by rw [hun]; split <;> (try split) <;> (try split) <;> first | rfl | (exfalso; omega))
         refine ⟨y', ?_⟩
         rw [a, b]
         repeat' (with_reducible first | assumption | apply And.intro | exact trivial | exact Eq.refl _)
         all_goals first | omega | exact fun k _ => swe i (2 * i + 2) (by omega) k)
end Go.Proofs.Ytnkikhhiaecebaa

/- The stock of numbers (layer 2): contracts of Give and Take, whatever was given back. -/
namespace Go.Proofs.Ytnkikhhiaecebaa
open Go Go.RowKit
set_option maxRecDepth 100000

def swN (i j : Nat) (k : Nat) : Nat := if k = i then j else if k = j then i else k
theorem swF_comp (f : Nat → Int) (i j k : Nat) : swF f i j k = f (swN i j k) := by
  unfold swF swN
  split
  · rfl
  · split <;> rfl
theorem swN_swN (i j k : Nat) : swN i j (swN i j k) = k := by
  unfold swN
  by_cases h1 : k = i
  · subst h1
    by_cases h2 : j = k
    · subst h2; simp
    · simp [h2]
  · by_cases h2 : k = j
    · subst h2; simp [h1]
    · simp [h1, h2]
theorem swN_lt {i j k n : Nat} (hi : i < n) (hj : j < n) (hk : k < n) : swN i j k < n := by
  unfold swN
  split
  · exact hj
  · split
    · exact hi
    · exact hk
theorem swN_perm {i j n : Nat} (hi : i < n) (hj : j < n) : ((List.range n).map (swN i j)).Perm (List.range n) := by
  refine (List.perm_ext_iff_of_nodup (List.Pairwise.map (swN i j) (fun a b h e => h (by rw [← swN_swN i j a, e, swN_swN])) List.nodup_range) List.nodup_range).2 fun a => ?_
  simp only [List.mem_map, List.mem_range]
  constructor
  · rintro ⟨k, hk, rfl⟩; exact swN_lt hi hj hk
  · intro ha; exact ⟨swN i j a, swN_lt hi hj ha, swN_swN i j a⟩
theorem swF_perm {f : Nat → Int} {i j n : Nat} (hi : i < n) (hj : j < n) : ((List.range n).map (swF f i j)).Perm ((List.range n).map f) := by
  have e : (List.range n).map (swF f i j) = ((List.range n).map (swN i j)).map f := by
    rw [List.map_map]
    apply List.map_congr_left
    intro k _
    exact swF_comp f i j k
  rw [e]
  exact (swN_perm hi hj).map f
theorem upF_perm {n : Nat} : ∀ (k : Nat) (f : Nat → Int) (j : Nat), j < n → ((List.range n).map (upF f k j)).Perm ((List.range n).map f)
  | 0, _, _, _ => List.Perm.refl _
  | k + 1, f, j, hj => by
    simp only [upF]
    split
    · exact List.Perm.refl _
    · split
      · exact (upF_perm k _ _ (by omega)).trans (swF_perm (by omega) hj)
      · exact List.Perm.refl _
theorem downF_perm {n m : Nat} (hm : m ≤ n) : ∀ (k : Nat) (f : Nat → Int) (i : Nat), i < n → ((List.range n).map (downF m f k i)).Perm ((List.range n).map f)
  | 0, _, _, _ => List.Perm.refl _
  | k + 1, f, i, hi => by
    simp only [downF]
    split
    · split
      · split
        · exact (downF_perm hm k _ _ (by omega)).trans (swF_perm hi (by omega))
        · exact List.Perm.refl _
      · split
        · exact (downF_perm hm k _ _ (by omega)).trans (swF_perm hi (by omega))
        · exact List.Perm.refl _
    · exact List.Perm.refl _
def bkF (l : List Nat) (i : Nat) : Int := ((l.getD i 0 : Nat) : Int)
theorem bkF_map (l : List Nat) : (List.range l.length).map (bkF l) = l.map fun n : Nat => (n : Int) := by
  apply List.ext_getElem (by simp)
  intro i h1 h2
  simp only [List.length_map, List.length_range] at h1
  simp [bkF, List.getD_eq_getElem?_getD, h1]
theorem bkF_intv (l : List Nat) : intsOf .i64 l.length (bkF l) = intv l := by
  unfold intsOf intv
  rw [show (fun n : Nat => Value.int .i64 (n : Int)) = Value.int .i64 ∘ (fun n : Nat => (n : Int)) from rfl, ← List.map_map, ← bkF_map, List.map_map]
  rfl
def toL (n : Nat) (f : Nat → Int) : List Nat := (List.range n).map fun i => (f i).toNat
theorem toL_perm {n : Nat} {f : Nat → Int} {l : List Nat} (h : ((List.range n).map f).Perm (l.map fun n : Nat => (n : Int))) : (toL n f).Perm l := by
  have := h.map Int.toNat
  rw [List.map_map, List.map_map] at this
  have e : l.map (Int.toNat ∘ fun n : Nat => (n : Int)) = l := by
    conv => rhs; rw [← List.map_id l]
    apply List.map_congr_left
    intro k _
    simp
  rw [e] at this
  exact this
theorem toL_intv {n : Nat} {f : Nat → Int} {l : List Nat} (h : ((List.range n).map f).Perm (l.map fun n : Nat => (n : Int))) : intsOf .i64 n f = intv (toL n f) := by
  unfold intsOf intv toL
  rw [List.map_map]
  apply List.map_congr_left
  intro i hi
  have h1 : f i ∈ l.map fun n : Nat => (n : Int) := h.mem_iff.1 (List.mem_map.2 ⟨i, hi, rfl⟩)
  obtain ⟨k, _, e⟩ := List.mem_map.1 h1
  simp only [Function.comp]
  rw [← e]
  simp
def pushU (l : List Nat) (x : Nat) : Nat → Int := upF (pushF (bkF l) l.length x) l.length l.length
def pushH (l : List Nat) (x : Nat) : List Nat := toL (l.length + 1) (pushU l x)
theorem pushF_map (l : List Nat) (x : Nat) : (List.range (l.length + 1)).map (pushF (bkF l) l.length x) = (l ++ [x]).map fun n : Nat => (n : Int) := by
  rw [List.range_succ, List.map_append, List.map_append, ← bkF_map]
  congr 1
  · apply List.map_congr_left
    intro i hi
    unfold pushF
    rw [if_pos (List.mem_range.1 hi)]
  · simp [pushF]
theorem pushU_perm (l : List Nat) (x : Nat) : ((List.range (l.length + 1)).map (pushU l x)).Perm ((l ++ [x]).map fun n : Nat => (n : Int)) := by
  rw [← pushF_map]
  exact upF_perm _ _ _ (Nat.lt_succ_self _)
theorem pushH_perm (l : List Nat) (x : Nat) : (pushH l x).Perm (l ++ [x]) := toL_perm (pushU_perm l x)
def popU (l : List Nat) : Nat → Int := downF (l.length - 1) (swF (bkF l) 0 (l.length - 1)) (l.length - 1) 0
def popH (l : List Nat) : List Nat := toL (l.length - 1) (popU l)
theorem popU_perm {l : List Nat} (h : 0 < l.length) : ((List.range l.length).map (popU l)).Perm (l.map fun n : Nat => (n : Int)) := by
  rw [← bkF_map]
  exact (downF_perm (by omega) _ _ _ h).trans (swF_perm h (by omega))
theorem popU_last {l : List Nat} (h : 0 < l.length) : popU l (l.length - 1) = bkF l 0 := by
  have hs : ∀ m, swF (bkF l) 0 m m = bkF l 0 := fun m => by
    unfold swF
    by_cases e : m = 0
    · subst e; simp
    · simp [e]
  unfold popU
  by_cases e : l.length - 1 = 0
  · rw [e]
    exact hs 0
  · rw [downF_keep _ _ _ _ _ (by omega) (Nat.le_refl _)]
    exact hs _
theorem popH_perm {a : Nat} {l : List Nat} : (a :: popH (a :: l)).Perm (a :: l) := by
  have h : 0 < (a :: l).length := by simp
  have h1 := toL_perm (popU_perm h)
  have e : toL (a :: l).length (popU (a :: l)) = popH (a :: l) ++ [a] := by
    have e1 : (a :: l).length = (a :: l).length - 1 + 1 := by simp
    have e2 : toL ((a :: l).length - 1 + 1) (popU (a :: l)) = toL ((a :: l).length - 1) (popU (a :: l)) ++ [(popU (a :: l) ((a :: l).length - 1)).toNat] := by
      unfold toL
      rw [List.range_succ, List.map_append]
      rfl
    rw [popU_last h] at e2
    rw [← e1] at e2
    rw [e2]
    rfl
  rw [e] at h1
  exact (List.perm_append_comm.trans h1 : ([a] ++ popH (a :: l)).Perm (a :: l))
theorem popH_len (a : Nat) (l : List Nat) : (popH (a :: l)).length = l.length := by
  simp [popH, toL]

def Stk.give (S : Stk) (x : Nat) : Stk := { S with used := S.used.erase x, back := pushH S.back x }
def Stk.next (S : Stk) : Nat := match S.back with
  | [] => S.high + 1
  | n :: _ => n
def Stk.takeG (S : Stk) : Stk := match S.back with
  | [] => S.take
  | n :: l => { S with used := S.used ++ [n], back := popH (n :: l) }
def usedL (l : List Nat) : List (Int × Value) := l.map fun n : Nat => ((n : Int), Value.int .i64 1)
theorem usedL_ints (l : List Nat) : AllInt .i64 (usedL l) := fun y hy => by
  obtain ⟨n, _, rfl⟩ := List.mem_map.1 hy
  exact ⟨1, rfl⟩
theorem usedL_look {l : List Nat} {x : Nat} (h : x ∈ l) : lookI (usedL l) x = 1 := by
  unfold lookI
  cases hl : look (usedL l) (x : Int) with
  | none =>
    have := look_none hl ((x : Int), .int .i64 1) (List.mem_map.2 ⟨x, h, rfl⟩)
    exact absurd rfl this
  | some v =>
    obtain ⟨n, _, e⟩ := List.mem_map.1 (look_in hl)
    simp only [Prod.mk.injEq] at e
    rw [← e.2]
theorem usedL_del : ∀ (l : List Nat) (x : Nat), delL (usedL l) x = usedL (l.erase x)
  | [], _ => rfl
  | a :: l, x => by
    show (if (a : Int) = (x : Int) then usedL l else ((a : Int), Value.int .i64 1) :: delL (usedL l) x) = _
    by_cases e : a = x
    · subst e
      rw [if_pos rfl, List.erase_cons_head]
    · rw [if_neg (by omega), usedL_del l x, List.erase_cons_tail (by simpa using e)]
      rfl
theorem usedL_upd : ∀ (l : List Nat) (x : Nat), x ∉ l → updL (usedL l) x (.int .i64 1) = usedL (l ++ [x])
  | [], _, _ => rfl
  | a :: l, x, h => by
    have h1 : a ≠ x := fun e => h (by simp [e])
    show (if (a : Int) = (x : Int) then _ else ((a : Int), Value.int .i64 1) :: updL (usedL l) x _) = _
    rw [if_neg (by omega), usedL_upd l x (fun hx => h (by simp [hx]))]
    rfl
def nu3 (a b c : Nat) : Nat → Nat
  | 0 => a
  | 1 => b
  | _ => c
theorem ints_less {ν : Nat → Nat} {b : Nat} {t : TypeId} {k : IntKind} {n m cap : Nat} {f : Nat → Int} {w : World} {Q : Assn} (h : m ≤ n) (H : Sat w ((SO.ints (E := XL) t k n cap f).den ν b * Q)) : Sat w (rowHead b t 1 m cap (intsOf k m f) * Q) := by
  simp only [SO.den] at H
  obtain ⟨cur, H⟩ := H.ex_mul
  rw [Assn.mul_assoc] at H
  obtain ⟨⟨h0, h1, h2, h3, h4⟩, H⟩ := H.pure_mul
  refine Sat.mk_ex_mul cur ?_
  rw [Assn.mul_assoc]
  refine Sat.mk_pure_mul ⟨by simp [intsOf], by omega, h2, h3, ?_⟩ H
  rw [← intsOf_take k f h, ← h4, List.take_take]
  congr 1
  omega
theorem stk_give (ps : Nat) (S : Stk) (x : Nat) (w : World) {R : Assn} (H : Sat w (stkAt ps S * R)) (hx : x ∈ S.used) (hn : S.back.length < 100000) :
    Calls Try.prog 96 #[.pointer (some ⟨ps, 0, none⟩), .int .i64 x] w fun e w' => e = .returned (.int .i64 0) ∧ Sat w' (stkAt ps (S.give x) * R) ∧ Kept w w' := by
  obtain ⟨⟨pm, sv⟩, H1⟩ := H.ex_mul
  have H2 : Sat w (rowAt 3 sv (intv S.back) * (own ps (.cells #[.int .i64 65535, .int .i64 S.high, sv, .map (some pm)] 272 (0, 0)) * (mapAt pm (usedL S.used) * R))) := H1.cast (by simp only [usedL]; ac_rfl)
  have hl : (intv S.back).length = S.back.length := by simp [intv]
  have hlk : lookI (usedL S.used) x ≠ 0 := by rw [usedL_look hx]; decide
  have fin : ∀ (v : SV) (m : Mem XL) (ξ : Nat → Nat) (w' : World) (ν : Nat → Nat), (∃ cap', outM (.c (.int true .i64 0)) [(0, stkC S.high 10 (S.back.length + 1) cap'), (2, .mp false (delL (usedL S.used) x)), (10, .ints 3 .i64 (S.back.length + 1) cap' (pushU S.back x))] v m) →
      (∀ i, i < 10 → ξ i = ν i) → ν 0 = ps → ν 2 = pm → Sat w' (m.hp.den ξ * R) → v.den ξ = .int .i64 0 ∧ Sat w' (stkAt ps (S.give x) * R) := by
    rintro v m ξ w' ν ⟨cap', ho⟩ ag e0 e2 hs
    obtain ⟨κ, agk, hv, hs⟩ := outM_sound ho hs
    refine ⟨by rw [hv]; rfl, ?_⟩
    have k0 : κ 0 = ps := by rw [agk 0 (by decide), ag 0 (by decide), e0]
    have k2 : κ 2 = pm := by rw [agk 2 (by decide), ag 2 (by decide), e2]
    refine Sat.mk_ex_mul (pm, .slice (some ⟨κ 10, 0, none⟩) (S.back.length + 1) cap') ?_
    have hs2 : Sat w' ((SO.ints (E := XL) 3 .i64 (S.back.length + 1) cap' (pushU S.back x)).den κ (κ 10) * (own ps (.cells #[.int .i64 65535, .int .i64 S.high, .slice (some ⟨κ 10, 0, none⟩) (S.back.length + 1) cap', .map (some pm)] 272 (0, 0)) * (mapAt pm (delL (usedL S.used) x) * R))) := by
      refine hs.cast ?_
      simp only [SH.den, SO.den, stkC, SC.denL, SC.den, k0, k2, cond_false, Nat.zero_mul]
      rw [Assn.mul_comm _ (1 : Assn), Assn.one_mul]
      ac_rfl
    have hs3 := ints_less (Nat.le_refl _) hs2
    rw [toL_intv (pushU_perm S.back x), usedL_del] at hs3
    have hs4 := head_rowAt (by simp [intv, toL]) hs3
    refine hs4.cast ?_
    simp only [Stk.give, usedL, pushH]
    ac_rfl
  rcases rowAt_open H2 with ⟨rfl, hb, H3⟩ | ⟨g, cap, cur, rfl, h2, h3, h4, h5, H3⟩
  · have hb0 : S.back = [] := by simpa [intv] using hb
    have H4 : Sat w ((⟨[(0, .cells [.int true .i64 65535, .int false .i64 S.high, .nls, .map 2] 272), (2, .mp false (usedL S.used))], 100⟩ : Mem XL).hp.den (nu3 ps 0 pm) * R) := by
      refine H3.cast ?_
      simp only [SH.den, SO.den, SC.denL, SC.den, nu3, cond_false]
      rw [Assn.mul_comm _ (1 : Assn), Assn.one_mul]
      ac_rfl
    refine (callN_ok namesOk mixed _ _ _ _ _ _ _ _ _ (giveN_run (S.high : Int) (usedL S.used) (x : Int) ⟨usedL_ints _, hlk⟩).out _ w R w H4 (Kept.refl w)).mono ?_
    rintro e w' ⟨v, m', s', ξ, ho, ag, _, he, hs, hk⟩
    have hp : pushU S.back x = fun _ => (x : Int) := by
      rw [hb0]
      rfl
    have := fin v m' ξ w' (nu3 ps 0 pm) (by rw [hb0] at *; simpa [hp, hb0] using ho) (fun i hi => ag i (by show i < 100; omega)) rfl rfl hs
    exact ⟨by rw [he, this.1], this.2, hk⟩
  · rw [hl] at H3 h2 h5
    have H4 : Sat w ((⟨[(0, stkC S.high 1 S.back.length cap), (1, .ints 3 .i64 S.back.length cap (bkF S.back)), (2, .mp false (usedL S.used))], 100⟩ : Mem XL).hp.den (nu3 ps g pm) * R) := by
      have e := bkF_intv S.back
      have H5 : Sat w (rowHead g 3 1 S.back.length cap (intsOf .i64 S.back.length (bkF S.back)) * (own ps (.cells #[.int .i64 65535, .int .i64 S.high, .slice (some ⟨g, 0, none⟩) (intv S.back).length cap, .map (some pm)] 272 (0, 0)) * (mapAt pm (usedL S.used) * R))) := by
        refine Sat.mk_ex_mul cur ?_
        rw [Assn.mul_assoc]
        refine Sat.mk_pure_mul ⟨by simp [intsOf], h2, h3, by omega, ?_⟩ ?_
        · rw [e, Nat.mul_one]; exact h5
        · rw [hl]; exact H3
      refine H5.cast ?_
      simp only [SH.den, SO.den, stkC, SC.denL, SC.den, nu3, cond_false, Nat.zero_mul, hl]
      rw [Assn.mul_comm _ (1 : Assn), Assn.one_mul]
      ac_rfl
    refine (callN_ok namesOk mixed _ _ _ _ _ _ _ _ _ (give_run (S.high : Int) S.back.length cap (bkF S.back) (usedL S.used) (x : Int) ⟨usedL_ints _, hlk, hn⟩).out _ w R w H4 (Kept.refl w)).mono ?_
    rintro e w' ⟨v, m', s', ξ, ho, ag, _, he, hs, hk⟩
    have := fin v m' ξ w' (nu3 ps g pm) ho (fun i hi => ag i (by show i < 100; omega)) rfl rfl hs
    exact ⟨by rw [he, this.1], this.2, hk⟩
theorem stk_takeG (ps : Nat) (S : Stk) (w : World) {R : Assn} (H : Sat w (stkAt ps S * R)) (hh : S.back = [] → S.high < 65535) (hn : S.next ∉ S.used) (h0 : 0 < S.next) (hlen : S.back.length ≤ 100000) :
    Calls Try.prog 89 #[.pointer (some ⟨ps, 0, none⟩)] w fun e w' => e = .returned (.tuple #[.int .i64 (S.next : Nat), .int .i64 0]) ∧ Sat w' (stkAt ps S.takeG * R) ∧ Kept w w' := by
  cases hb : S.back with
  | nil =>
    have e1 : S.next = S.high + 1 := by unfold Stk.next; rw [hb]
    have e2 : S.takeG = S.take := by unfold Stk.takeG; rw [hb]
    rw [e1] at hn
    rw [e1, e2]
    exact stk_take ps S w H hb (hh hb) hn
  | cons a l =>
    have e1 : S.next = a := by unfold Stk.next; rw [hb]
    have e2 : S.takeG = { S with used := S.used ++ [a], back := popH (a :: l) } := by unfold Stk.takeG; rw [hb]
    rw [e1] at hn h0
    rw [e1, e2]
    rw [hb] at hlen
    obtain ⟨⟨pm, sv⟩, H1⟩ := H.ex_mul
    have H2 : Sat w (rowAt 3 sv (intv (a :: l)) * (own ps (.cells #[.int .i64 65535, .int .i64 S.high, sv, .map (some pm)] 272 (0, 0)) * (mapAt pm (usedL S.used) * R))) := H1.cast (by simp only [usedL, hb]; ac_rfl)
    have hl : (intv (a :: l)).length = l.length + 1 := by simp [intv]
    rcases rowAt_open H2 with ⟨_, hb', _⟩ | ⟨g, cap, cur, rfl, h2, h3, h4, h5, H3⟩
    · simp [intv] at hb'
    · rw [hl] at H3 h2 h5
      have H4 : Sat w ((⟨[(0, stkC S.high 1 (l.length + 1) cap), (1, .ints 3 .i64 (l.length + 1) cap (bkF (a :: l))), (2, .mp false (usedL S.used))], 100⟩ : Mem XL).hp.den (nu3 ps g pm) * R) := by
        have e : intsOf .i64 (l.length + 1) (bkF (a :: l)) = intv (a :: l) := bkF_intv (a :: l)
        have H5 : Sat w (rowHead g 3 1 (l.length + 1) cap (intsOf .i64 (l.length + 1) (bkF (a :: l))) * (own ps (.cells #[.int .i64 65535, .int .i64 S.high, .slice (some ⟨g, 0, none⟩) (l.length + 1) cap, .map (some pm)] 272 (0, 0)) * (mapAt pm (usedL S.used) * R))) := by
          refine Sat.mk_ex_mul cur ?_
          rw [Assn.mul_assoc]
          refine Sat.mk_pure_mul ⟨by simp [intsOf], h2, h3, by omega, ?_⟩ ?_
          · rw [e, Nat.mul_one]; exact h5
          · exact H3
        refine H5.cast ?_
        simp only [SH.den, SO.den, stkC, SC.denL, SC.den, nu3, cond_false, Nat.zero_mul]
        rw [Assn.mul_comm _ (1 : Assn), Assn.one_mul]
        ac_rfl
      have hf0 : bkF (a :: l) 0 = (a : Int) := rfl
      refine (callN_ok namesOk mixed _ _ _ _ _ _ _ _ _ (take_run (S.high : Int) l.length cap (bkF (a :: l)) (usedL S.used) ⟨by rw [hf0]; omega, by simp at hlen; omega, h2⟩).out _ w R w H4 (Kept.refl w)).mono ?_
      rintro e w' ⟨v, m', s', ξ, ho, ag, _, he, hs, hk⟩
      obtain ⟨κ, agk, hv, hs⟩ := outM_sound ho hs
      have k0 : κ 0 = ps := by rw [agk 0 (by decide), ag 0 (by show 0 < 100; decide)]; rfl
      have k1 : κ 1 = g := by rw [agk 1 (by decide), ag 1 (by show 1 < 100; decide)]; rfl
      have k2 : κ 2 = pm := by rw [agk 2 (by decide), ag 2 (by show 2 < 100; decide)]; rfl
      refine ⟨by rw [he, hv]; rfl, ?_, hk⟩
      refine Sat.mk_ex_mul (pm, .slice (some ⟨g, 0, none⟩) l.length cap) ?_
      have hs2 : Sat w' ((SO.ints (E := XL) 3 .i64 (l.length + 1) cap (popU (a :: l))).den κ g * (own ps (.cells #[.int .i64 65535, .int .i64 S.high, .slice (some ⟨g, 0, none⟩) l.length cap, .map (some pm)] 272 (0, 0)) * (mapAt pm (updL (usedL S.used) a (.int .i64 1)) * R))) := by
        refine hs.cast ?_
        simp only [SH.den, SO.den, stkC, SC.denL, SC.den, k0, k1, k2, cond_false, Nat.zero_mul, hf0]
        rw [Assn.mul_comm _ (1 : Assn), Assn.one_mul]
        show _ = rowHead g _ 1 _ _ (intsOf .i64 (l.length + 1) (downF l.length (swF (bkF (a :: l)) 0 l.length) l.length 0)) * _
        ac_rfl
      have hs3 := ints_less (m := l.length) (by omega) hs2
      have hp : intsOf .i64 l.length (popU (a :: l)) = intv (popH (a :: l)) := by
        have h1 := toL_intv (popU_perm (l := a :: l) (by simp))
        have h2 := congrArg (List.take l.length) h1
        rw [intsOf_take _ _ (by simp)] at h2
        rw [h2]
        unfold intv popH toL
        rw [List.length_cons, ← List.map_take, ← List.map_take, List.take_range]
        simp
      rw [hp, usedL_upd _ _ hn] at hs3
      have hs4 := head_rowAt (by simp [intv, popH_len]) hs3
      refine hs4.cast ?_
      simp only [usedL]
      ac_rfl
end Go.Proofs.Ytnkikhhiaecebaa
