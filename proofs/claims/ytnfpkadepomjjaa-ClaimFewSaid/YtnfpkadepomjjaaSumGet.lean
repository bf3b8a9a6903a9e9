/- What an arena tells of itself: how many words are in use, its peak, its capacity. -/
import Derived.Test.YtnfpkadepomjjaaBasePar
set_option linter.all false
namespace Go.Proofs.Ytnfpkadepomjjaa
open Go Go.RowKit
theorem ar_used (p : Nat) (A : Ar) (w : World) {R : Assn} (H : Sat w (arAt p A * R)) :
    Calls Try.prog 77 #[.pointer (some ⟨p, 0, none⟩)] w fun e w' => e = .returned (.int .i64 A.used) ∧ w = w' := by
  obtain ⟨ps, pb, _, H1⟩ := arAt_open H
  have hc := H1.cell 1
  simp [arCells] at hc
  clear H H1
  go_enter Try.func77, Try.ntmps77
  go_wp2
  go_ret
  exact ⟨rfl, rfl⟩
def usedX : Smry Try.prog XE where
  g := 77
  run := fun args m K => match args with
    | [.c (.ptr n 0)] => match m.hp.get n with
      | some (.ext (.ar A)) => K (.c (.int false .i64 (A.used : Nat))) m
      | _ => Stuck 913
    | _ => Stuck 914
  ok := fun args m K hr => by
    split at hr <;> try exact hr.elim
    split at hr <;> try exact hr.elim
    rename_i A hA
    exact gives_told hA hr fun ν w R H => ar_used _ A w H
def usedP : Smry Try.prog XP where
  g := usedX.g
  run := fun args m K => match args with
    | [.c (.ptr n 0)] => match m.hp.get n with
      | some (.ext (.obj [] x)) => goP m n (.c (.int true .i64 (PA.used x : Nat))) x K
      | _ => Stuck 915
    | _ => Stuck 916
  ok := fun args m K hr => by
    split at hr <;> try exact hr.elim
    rename_i n
    split at hr <;> try exact hr.elim
    rename_i x hx
    obtain ⟨u, hu, e⟩ := goP_of hr
    refine gives_den e hu (gives_den (u := .c (.int true .i64 (PA.used x : Nat))) (v := .c (.int false .i64 (PA.used x : Nat))) (fun ν => rfl) ⟨rfl, rfl⟩ (par_gives (S := usedX) hx rfl (by intro a ha; cases ha) (fun z => ?_) ⟨rfl, rfl⟩))
    simp only [usedX, SH.get, if_true]
    exact ⟨rfl, z, rfl⟩
end Go.Proofs.Ytnfpkadepomjjaa
