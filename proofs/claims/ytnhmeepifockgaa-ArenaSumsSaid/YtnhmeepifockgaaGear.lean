/- Package pace (layer 4): what comes next, a function in a field. -/
import Derived.Laws.EntriesVeiled
import Derived.Test.YtnhmeepifockgaaArenaA
set_option linter.all false
namespace Go.Proofs.Ytnhmeepifockgaa
open Go.RowKit

theorem gearTo (g o : Nat) (fn : Fn) (a1 a2 : Array Value) (w : World) (v0 : Value) (hc : w.cell? ⟨g, o, none⟩ = some v0) (hf : w.frozen? ⟨g, o, none⟩ = false) :
    Calls Try.prog 109 #[.pointer (some ⟨g, o, none⟩), .func fn a1 a2] w fun e w' => e = .returned (.tuple #[]) ∧ w' = w.setCell ⟨g, o, none⟩ (.func fn a1 a2) := by
  go_enter Try.func109, Try.ntmps109
  go_wp2
  go_end0
  exact ⟨rfl, rfl⟩
theorem gearEnd (g o : Nat) (w : World) (v0 : Value) (hc : w.cell? ⟨g, o, none⟩ = some v0) (hf : w.frozen? ⟨g, o, none⟩ = false) :
    Calls Try.prog 186 #[.pointer (some ⟨g, o, none⟩)] w fun e w' => e = .returned (.tuple #[]) ∧ w' = w.setCell ⟨g, o, none⟩ .nilFunc := by
  go_enter Try.func186, Try.ntmps186
  go_wp2
  go_end0
  exact ⟨rfl, rfl⟩
theorem gearDone_yes (g o : Nat) (w : World) (hc : w.cell? ⟨g, o, none⟩ = some .nilFunc) :
    Calls Try.prog 111 #[.pointer (some ⟨g, o, none⟩)] w fun e w' => e = .returned (.bool true) ∧ w = w' := by
  have he := fun w => run_eql_nils (P := Try.prog) w (t := 1) Try.underlying1
  go_enter Try.func111, Try.ntmps111
  go_wp2
  go_ret
  exact ⟨rfl, rfl⟩
theorem gearDone_no (g o : Nat) (fn : Fn) (a1 a2 : Array Value) (w : World) (hc : w.cell? ⟨g, o, none⟩ = some (.func fn a1 a2)) :
    Calls Try.prog 111 #[.pointer (some ⟨g, o, none⟩)] w fun e w' => e = .returned (.bool false) ∧ w = w' := by
  have he := fun w => run_eql_func (P := Try.prog) w (t := 1) Try.underlying1 fn a1 a2
  go_enter Try.func111, Try.ntmps111
  go_wp2
  go_ret
  exact ⟨rfl, rfl⟩
/-- Nothing comes next. -/
theorem gearStep_none (g o : Nat) (w : World) (hc : w.cell? ⟨g, o, none⟩ = some .nilFunc) :
    Calls Try.prog 112 #[.pointer (some ⟨g, o, none⟩)] w fun e w' => e = .returned (.tuple #[]) ∧ w = w' := by
  have he := fun w => run_neq_nils (P := Try.prog) w (t := 1) Try.underlying1
  go_enter Try.func112, Try.ntmps112
  go_wp2
  go_end0
  exact ⟨rfl, rfl⟩
/-- What comes next is the method count_add of the machine m. -/
theorem gearStep_count_add (g o m : Nat) (w : World) {Q : World → Prop} (hc : w.cell? ⟨g, o, none⟩ = some (.func (.func 233) #[.pointer (some ⟨m, 0, none⟩)] #[]))
    (hcall : Calls Try.prog 233 #[.pointer (some ⟨m, 0, none⟩)] w fun e w' => e = .returned (.tuple #[]) ∧ Q w') :
    Calls Try.prog 112 #[.pointer (some ⟨g, o, none⟩)] w fun e w' => e = .returned (.tuple #[]) ∧ Q w' := by
  have he := fun w => run_neq_func (P := Try.prog) w (t := 1) Try.underlying1 (.func 233) #[.pointer (some ⟨m, 0, none⟩)] #[]
  have Hc := Lib.hid hcall
  clear hcall
  go_enter Try.func112, Try.ntmps112
  go_wp2_with fail
  refine Hc.out.mono ?_; rintro e w' ⟨rfl, hq⟩
  have HQ := Lib.hid hq
  clear hq
  go_wp2
  go_end0
  exact ⟨rfl, HQ.out⟩

/-- What comes next is the method collect_look of the machine m. -/
theorem gearStep_collect_look (g o m : Nat) (w : World) {Q : World → Prop} (hc : w.cell? ⟨g, o, none⟩ = some (.func (.func 110) #[.pointer (some ⟨m, 0, none⟩)] #[]))
    (hcall : Calls Try.prog 110 #[.pointer (some ⟨m, 0, none⟩)] w fun e w' => e = .returned (.tuple #[]) ∧ Q w') :
    Calls Try.prog 112 #[.pointer (some ⟨g, o, none⟩)] w fun e w' => e = .returned (.tuple #[]) ∧ Q w' := by
  have he := fun w => run_neq_func (P := Try.prog) w (t := 1) Try.underlying1 (.func 110) #[.pointer (some ⟨m, 0, none⟩)] #[]
  have Hc := Lib.hid hcall
  clear hcall
  go_enter Try.func112, Try.ntmps112
  go_wp2_with fail
  refine Hc.out.mono ?_; rintro e w' ⟨rfl, hq⟩
  have HQ := Lib.hid hq
  clear hq
  go_wp2
  go_end0
  exact ⟨rfl, HQ.out⟩

/-- What comes next is the method collect_count of the machine m. -/
theorem gearStep_collect_count (g o m : Nat) (w : World) {Q : World → Prop} (hc : w.cell? ⟨g, o, none⟩ = some (.func (.func 187) #[.pointer (some ⟨m, 0, none⟩)] #[]))
    (hcall : Calls Try.prog 187 #[.pointer (some ⟨m, 0, none⟩)] w fun e w' => e = .returned (.tuple #[]) ∧ Q w') :
    Calls Try.prog 112 #[.pointer (some ⟨g, o, none⟩)] w fun e w' => e = .returned (.tuple #[]) ∧ Q w' := by
  have he := fun w => run_neq_func (P := Try.prog) w (t := 1) Try.underlying1 (.func 187) #[.pointer (some ⟨m, 0, none⟩)] #[]
  have Hc := Lib.hid hcall
  clear hcall
  go_enter Try.func112, Try.ntmps112
  go_wp2_with fail
  refine Hc.out.mono ?_; rintro e w' ⟨rfl, hq⟩
  have HQ := Lib.hid hq
  clear hq
  go_wp2
  go_end0
  exact ⟨rfl, HQ.out⟩

/-- What comes next is the method claim_look of the machine m. -/
theorem gearStep_claim_look (g o m : Nat) (w : World) {Q : World → Prop} (hc : w.cell? ⟨g, o, none⟩ = some (.func (.func 206) #[.pointer (some ⟨m, 0, none⟩)] #[]))
    (hcall : Calls Try.prog 206 #[.pointer (some ⟨m, 0, none⟩)] w fun e w' => e = .returned (.tuple #[]) ∧ Q w') :
    Calls Try.prog 112 #[.pointer (some ⟨g, o, none⟩)] w fun e w' => e = .returned (.tuple #[]) ∧ Q w' := by
  have he := fun w => run_neq_func (P := Try.prog) w (t := 1) Try.underlying1 (.func 206) #[.pointer (some ⟨m, 0, none⟩)] #[]
  have Hc := Lib.hid hcall
  clear hcall
  go_enter Try.func112, Try.ntmps112
  go_wp2_with fail
  refine Hc.out.mono ?_; rintro e w' ⟨rfl, hq⟩
  have HQ := Lib.hid hq
  clear hq
  go_wp2
  go_end0
  exact ⟨rfl, HQ.out⟩

/-- What comes next is the method claim_take of the machine m. -/
theorem gearStep_claim_take (g o m : Nat) (w : World) {Q : World → Prop} (hc : w.cell? ⟨g, o, none⟩ = some (.func (.func 207) #[.pointer (some ⟨m, 0, none⟩)] #[]))
    (hcall : Calls Try.prog 207 #[.pointer (some ⟨m, 0, none⟩)] w fun e w' => e = .returned (.tuple #[]) ∧ Q w') :
    Calls Try.prog 112 #[.pointer (some ⟨g, o, none⟩)] w fun e w' => e = .returned (.tuple #[]) ∧ Q w' := by
  have he := fun w => run_neq_func (P := Try.prog) w (t := 1) Try.underlying1 (.func 207) #[.pointer (some ⟨m, 0, none⟩)] #[]
  have Hc := Lib.hid hcall
  clear hcall
  go_enter Try.func112, Try.ntmps112
  go_wp2_with fail
  refine Hc.out.mono ?_; rintro e w' ⟨rfl, hq⟩
  have HQ := Lib.hid hq
  clear hq
  go_wp2
  go_end0
  exact ⟨rfl, HQ.out⟩

/-- What comes next is the method claim_lay of the machine m. -/
theorem gearStep_claim_lay (g o m : Nat) (w : World) {Q : World → Prop} (hc : w.cell? ⟨g, o, none⟩ = some (.func (.func 236) #[.pointer (some ⟨m, 0, none⟩)] #[]))
    (hcall : Calls Try.prog 236 #[.pointer (some ⟨m, 0, none⟩)] w fun e w' => e = .returned (.tuple #[]) ∧ Q w') :
    Calls Try.prog 112 #[.pointer (some ⟨g, o, none⟩)] w fun e w' => e = .returned (.tuple #[]) ∧ Q w' := by
  have he := fun w => run_neq_func (P := Try.prog) w (t := 1) Try.underlying1 (.func 236) #[.pointer (some ⟨m, 0, none⟩)] #[]
  have Hc := Lib.hid hcall
  clear hcall
  go_enter Try.func112, Try.ntmps112
  go_wp2_with fail
  refine Hc.out.mono ?_; rintro e w' ⟨rfl, hq⟩
  have HQ := Lib.hid hq
  clear hq
  go_wp2
  go_end0
  exact ⟨rfl, HQ.out⟩

/-- What comes next is the method claim_install of the machine m. -/
theorem gearStep_claim_install (g o m : Nat) (w : World) {Q : World → Prop} (hc : w.cell? ⟨g, o, none⟩ = some (.func (.func 255) #[.pointer (some ⟨m, 0, none⟩)] #[]))
    (hcall : Calls Try.prog 255 #[.pointer (some ⟨m, 0, none⟩)] w fun e w' => e = .returned (.tuple #[]) ∧ Q w') :
    Calls Try.prog 112 #[.pointer (some ⟨g, o, none⟩)] w fun e w' => e = .returned (.tuple #[]) ∧ Q w' := by
  have he := fun w => run_neq_func (P := Try.prog) w (t := 1) Try.underlying1 (.func 255) #[.pointer (some ⟨m, 0, none⟩)] #[]
  have Hc := Lib.hid hcall
  clear hcall
  go_enter Try.func112, Try.ntmps112
  go_wp2_with fail
  refine Hc.out.mono ?_; rintro e w' ⟨rfl, hq⟩
  have HQ := Lib.hid hq
  clear hq
  go_wp2
  go_end0
  exact ⟨rfl, HQ.out⟩

/-- What comes next is the method claim_drop of the machine m. -/
theorem gearStep_claim_drop (g o m : Nat) (w : World) {Q : World → Prop} (hc : w.cell? ⟨g, o, none⟩ = some (.func (.func 265) #[.pointer (some ⟨m, 0, none⟩)] #[]))
    (hcall : Calls Try.prog 265 #[.pointer (some ⟨m, 0, none⟩)] w fun e w' => e = .returned (.tuple #[]) ∧ Q w') :
    Calls Try.prog 112 #[.pointer (some ⟨g, o, none⟩)] w fun e w' => e = .returned (.tuple #[]) ∧ Q w' := by
  have he := fun w => run_neq_func (P := Try.prog) w (t := 1) Try.underlying1 (.func 265) #[.pointer (some ⟨m, 0, none⟩)] #[]
  have Hc := Lib.hid hcall
  clear hcall
  go_enter Try.func112, Try.ntmps112
  go_wp2_with fail
  refine Hc.out.mono ?_; rintro e w' ⟨rfl, hq⟩
  have HQ := Lib.hid hq
  clear hq
  go_wp2
  go_end0
  exact ⟨rfl, HQ.out⟩
end Go.Proofs.Ytnhmeepifockgaa
